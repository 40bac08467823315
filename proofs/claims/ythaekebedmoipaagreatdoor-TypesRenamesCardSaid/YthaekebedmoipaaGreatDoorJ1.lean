/- Part 1 of the proof: A1 A2 A3 A4 A5 A6 A7 A8 A9 A10 A11 A12. -/
import Derived.Below
import Derived.Orders
import Derived.Defers
import Derived.Maps.AppendAt
import Derived.Deep.AppendSrc
import Derived.Laws.BytesArg
import Derived.WalkKit
import Derived.Laws.StructEq
set_option linter.unusedVariables false
set_option linter.unusedSimpArgs false
set_option linter.unusedSectionVars false
set_option maxRecDepth 100000
namespace Go.Proofs.YthaekebedmoipaaGreatDoor.AM
open Go Go.RowKit
section
inductive Perm where
 | no | full | tok (t : Nat)
 deriving DecidableEq
inductive AV where
 | undef
 | bool (b : Bool)
 | int (k : IntKind) (n : Int)
 | str (s : List UInt8)
 | nilp
 | ptr (o off : Nat)
 | iptr (cs : List AV) (off : Nat)
 | sl (cs : List AV) (len : Nat) (p : Perm)
 | row (o len : Nat)
 | nilmap
 | map (o : Nat)
 | func (fn : Fn) (first captured : List AV)
 | nilFunc
 | iface (t : TypeId) (v : AV)
 | nilIface
 | agg (cs : List AV)
 | tuple (vs : List AV)
def AV.cells : AV → List AV
 | .agg cs => cs
 | v => [v]
inductive AObj where
 | cells (T : TypeId) (cs : List AV)
 | row (e : TypeId) (size : Nat) (cs : List AV)
 | tip (e : TypeId) (size n : Nat)
 | map (es : List (AV × AV))
structure St where
 objs : Nat → Option AObj
 next : Nat
structure Gh where
 used : Nat → Prop
 blk : Nat → Option Nat
 tblk : Nat → Option Nat
 tip : Nat → Nat
 cap : Nat → Nat
 rcap : Nat → Nat
 own : Nat → Option Nat
 lim : Nat → Nat
def big : Nat := 140737488355328
def Held (G : Gh) (w : World) (a : Option Addr) (vs : List Value) : Prop :=
 vs = [] ∨ ∃ ad, a = some ad ∧ ∀ j u, vs[j]? = some u → w.cell? (ad.add j) = some u ∧ ad.off + j < G.lim ad.block
mutual
def Rep (G : Gh) (w : World) : AV → Value → Prop
 | .undef, _ => True
 | .bool b, v => v = .bool b
 | .int k n, v => v = .int k n
 | .str s, v => v = .string ⟨⟨s⟩⟩ ∧ s.length ≤ 9223372036854775807
 | .nilp, v => v = .pointer none
 | .ptr o off, v => G.used o ∧ ∃ a, v = .pointer (some a) ∧ ∀ b, G.blk o = some b → a = ⟨b, off, none⟩
 | .iptr cs off, v => ∃ vs ad, RepC G w cs vs ∧ Held G w (some ad) vs ∧ v = .pointer (some (ad.add off))
 | .sl cs len p, v => ∃ vs a cap, RepC G w cs vs ∧ Held G w a vs ∧ v = .slice a len cap ∧ len ≤ cap ∧ cap ≤ maxLen ∧ len ≤ big ∧
   (p = .full → cap = len ∧ (len = 0 → cs = [])) ∧
   (∀ t, p = .tok t → G.used t ∧ (∀ b, G.tblk t = some b → len ≤ G.tip t ∧ (len = G.tip t → v = .slice (some ⟨b, 0, none⟩) len (G.cap t)))) ∧ (0 < len → a ≠ none)
 | .row o len, v => G.used o ∧ ∃ a c, v = .slice (some a) len c ∧ len ≤ c ∧ c ≤ maxLen ∧ len ≤ big ∧ ∀ b, G.blk o = some b → a = ⟨b, 0, none⟩ ∧ c = G.rcap o
 | .nilmap, v => v = .map none
 | .map o, v => G.used o ∧ ∃ b', v = .map (some b') ∧ ∀ b, G.blk o = some b → b' = b
 | .func fn first cap, v => ∃ a b, v = .func fn ⟨a⟩ ⟨b⟩ ∧ RepL G w first a ∧ RepL G w cap b
 | .nilFunc, v => v = .nilFunc
 | .iface t x, v => ∃ u, v = .iface t u ∧ Rep G w x u
 | .nilIface, v => v = .nilIface
 | .agg cs, v => ∃ vs, v = .agg ⟨vs⟩ ∧ RepC G w cs vs
 | .tuple xs, v => ∃ vs, v = .tuple ⟨vs⟩ ∧ RepL G w xs vs
def RepC (G : Gh) (w : World) : List AV → List Value → Prop
 | [], vs => vs = []
 | c :: cs, vs => ∃ u us, vs = u :: us ∧ u.oneCell' = true ∧ Rep G w c u ∧ RepC G w cs us
def RepL (G : Gh) (w : World) : List AV → List Value → Prop
 | [], vs => vs = []
 | c :: cs, vs => ∃ u us, vs = u :: us ∧ Rep G w c u ∧ RepL G w cs us
end
structure Ext (base : Nat) (G : Gh) (w : World) (G' : Gh) (w' : World) : Prop where
 below : Below base w w'
 used : ∀ o, G.used o → G'.used o
 blk : ∀ o, G.used o → G'.blk o = G.blk o ∨ G'.blk o = none
 tok : ∀ t, G.used t → (G'.tblk t = G.tblk t ∧ G'.tip t = G.tip t ∧ G'.cap t = G.cap t) ∨ (G.tblk t ≠ none ∧ G.tip t < G'.tip t) ∨ G'.tblk t = none
 rcap : ∀ o, G.used o → G'.rcap o = G.rcap o
 imm : ∀ b off u, off < G.lim b → w.cell? ⟨b, off, none⟩ = some u → off < G'.lim b ∧ w'.cell? ⟨b, off, none⟩ = some u
theorem Ext.refl (base : Nat) (G : Gh) (w : World) : Ext base G w G w :=
 ⟨Below.refl _ _, fun _ h => h, fun _ _ => .inl rfl, fun _ _ => .inl ⟨rfl, rfl, rfl⟩, fun _ _ => rfl, fun _ _ _ h1 h2 => ⟨h1, h2⟩⟩
theorem add_block (a : Addr) (j : Nat) : (a.add j).block = a.block := by unfold Addr.add; split <;> rfl
theorem add_off (a : Addr) (j : Nat) : (a.add j).off = a.off + j := by unfold Addr.add; split <;> simp_all
theorem wd (b o j : Nat) : (⟨b, o, none⟩ : Addr).add j = ⟨b, o + j, none⟩ := by unfold Addr.add; split <;> simp_all
theorem add_add (a : Addr) (i j : Nat) : (a.add i).add j = a.add (i + j) := by
 unfold Addr.add
 by_cases h1 : i = 0 <;> by_cases h2 : j = 0 <;> simp [h1, h2, Nat.add_assoc]
theorem spot_of_cell {w : World} {a : Addr} {u : Value} (h : w.cell? a = some u) : a = ⟨a.block, a.off, none⟩ := by
 obtain ⟨b, o, s⟩ := a
 cases s with
 | none => rfl
 | some k => simp [World.cell?] at h; split at h <;> simp_all
theorem Ext.cell {base : Nat} {G G' : Gh} {w w' : World} (h : Ext base G w G' w') {a : Addr} {u : Value} (hl : a.off < G.lim a.block) (hc : w.cell? a = some u) :
  a.off < G'.lim a.block ∧ w'.cell? a = some u := by
 have e := spot_of_cell hc
 obtain ⟨b, o, s⟩ := a
 simp only [Addr.mk.injEq] at e
 obtain ⟨-, -, rfl⟩ := e
 exact h.imm b o u hl hc
theorem held_mono {base : Nat} {G G' : Gh} {w w' : World} (h : Ext base G w G' w') {a : Option Addr} {vs : List Value} (hh : Held G w a vs) : Held G' w' a vs := by
 rcases hh with hh | ⟨ad, e, hc⟩
 ·exact .inl hh
 ·refine .inr ⟨ad, e, fun j u hj => ?_⟩
  obtain ⟨h1, h2⟩ := hc j u hj
  have h3 : (ad.add j).off < G.lim (ad.add j).block := by rw [add_off, add_block]; exact h2
  have h4 := h.cell h3 h1
  rw [add_off, add_block] at h4
  exact ⟨h4.2, h4.1⟩
mutual
theorem v8 {base : Nat} {G G' : Gh} {w w' : World} (h : Ext base G w G' w') : ∀ (a : AV) (v : Value), Rep G w a v → Rep G' w' a v
 | .undef, _, _ => trivial
 | .bool _, _, hr => hr
 | .int _ _, _, hr => hr
 | .str _, _, hr => hr
 | .nilp, _, hr => hr
 | .ptr o _, _, hr => by
  obtain ⟨hu, a, e, hb⟩ := hr
  refine ⟨h.used o hu, a, e, fun b hb' => ?_⟩
  rcases h.blk o hu with e1 | e1
  ·exact hb b (e1 ▸ hb')
  ·rw [e1] at hb'; cases hb'
 | .iptr cs off, _, hr => by
  obtain ⟨vs, ad, h1, h2, h3⟩ := hr
  exact ⟨vs, ad, yd h cs vs h1, held_mono h h2, h3⟩
 | .sl cs len p, _, hr => by
  obtain ⟨vs, a, cap, h1, h2, h3, h4, h5, h6, h7, h8, h9⟩ := hr
  refine ⟨vs, a, cap, yd h cs vs h1, held_mono h h2, h3, h4, h5, h6, h7, fun t ht => ?_, h9⟩
  obtain ⟨hu, hb⟩ := h8 t ht
  refine ⟨h.used t hu, fun b hb' => ?_⟩
  rcases h.tok t hu with ⟨e1, e2, e3⟩ | ⟨e1, e2⟩ | e1
  ·rw [e3, e2]; exact hb b (e1 ▸ hb')
  ·cases e : G.tblk t with
   | none => exact absurd e e1
   | some b0 =>
    obtain ⟨h9, _⟩ := hb b0 e
    exact ⟨by omega, fun h10 => by omega⟩
  ·rw [e1] at hb'; cases hb'
 | .row o _, _, hr => by
  obtain ⟨hu, a, c, e, h1, h2, h3, hb⟩ := hr
  refine ⟨h.used o hu, a, c, e, h1, h2, h3, fun b hb' => ?_⟩
  rcases h.blk o hu with e1 | e1
  ·rw [h.rcap o hu]; exact hb b (e1 ▸ hb')
  ·rw [e1] at hb'; cases hb'
 | .nilmap, _, hr => hr
 | .map o, _, hr => by
  obtain ⟨hu, a, e, hb⟩ := hr
  refine ⟨h.used o hu, a, e, fun b hb' => ?_⟩
  rcases h.blk o hu with e1 | e1
  ·exact hb b (e1 ▸ hb')
  ·rw [e1] at hb'; cases hb'
 | .func _ first cap, _, hr => by
  obtain ⟨a, b, e, h1, h2⟩ := hr
  exact ⟨a, b, e, xf h first a h1, xf h cap b h2⟩
 | .nilFunc, _, hr => hr
 | .iface _ x, _, hr => by
  obtain ⟨u, e, h1⟩ := hr
  exact ⟨u, e, v8 h x u h1⟩
 | .nilIface, _, hr => hr
 | .agg cs, _, hr => by
  obtain ⟨vs, e, h1⟩ := hr
  exact ⟨vs, e, yd h cs vs h1⟩
 | .tuple xs, _, hr => by
  obtain ⟨vs, e, h1⟩ := hr
  exact ⟨vs, e, xf h xs vs h1⟩
theorem yd {base : Nat} {G G' : Gh} {w w' : World} (h : Ext base G w G' w') : ∀ (cs : List AV) (vs : List Value), RepC G w cs vs → RepC G' w' cs vs
 | [], _, hr => hr
 | c :: cs, _, hr => by
  obtain ⟨u, us, e, h1, h2, h3⟩ := hr
  exact ⟨u, us, e, h1, v8 h c u h2, yd h cs us h3⟩
theorem xf {base : Nat} {G G' : Gh} {w w' : World} (h : Ext base G w G' w') : ∀ (cs : List AV) (vs : List Value), RepL G w cs vs → RepL G' w' cs vs
 | [], _, hr => hr
 | c :: cs, _, hr => by
  obtain ⟨u, us, e, h2, h3⟩ := hr
  exact ⟨u, us, e, v8 h c u h2, xf h cs us h3⟩
end
end
section
def upd {α : Type} (f : Nat → α) (i : Nat) (x : α) : Nat → α := fun j => if j = i then x else f j
theorem zd {α : Type} (f : Nat → α) (i : Nat) (x : α) : upd f i x i = x := if_pos rfl
theorem zl {α : Type} (f : Nat → α) (i j : Nat) (x : α) (h : j ≠ i) : upd f i x j = f j := if_neg h
def RepE (G : Gh) (w : World) (es : List (AV × AV)) (ms : List MapEntry) : Prop :=
 RepL G w (es.map (·.1)) (ms.map (·.key)) ∧ RepL G w (es.map (·.2)) (ms.map (·.val))
def ObjRep (base : Nat) (G : Gh) (w : World) (o : Nat) : AObj → Prop
 | .cells T cs => ∃ b vs, G.blk o = some b ∧ G.own b = some o ∧ base ≤ b ∧ G.lim b = 0 ∧ w.heap[b]? = some (.cells vs T (0, 0)) ∧ RepC G w cs (vs.toList.take cs.length) ∧ vs.size = cs.length
 | .row e size cs => ∃ b vs, G.blk o = some b ∧ G.own b = some o ∧ base ≤ b ∧ G.lim b = 0 ∧ w.heap[b]? = some (.cells vs e (0, 0)) ∧ RepC G w cs (vs.toList.take cs.length) ∧
   vs.size = G.rcap o * size ∧ G.rcap o ≤ maxLen ∧ 0 < size
 | .tip e size n => ∃ b vs, G.tblk o = some b ∧ G.own b = some o ∧ base ≤ b ∧ G.tip o = n ∧ G.lim b = n * size ∧ w.heap[b]? = some (.cells vs e (0, 0)) ∧
   vs.size = G.cap o * size ∧ G.cap o ≤ maxLen ∧ 0 < size ∧ n ≤ G.cap o
 | .map es => ∃ b ms clock, G.blk o = some b ∧ G.own b = some o ∧ base ≤ b ∧ G.lim b = 0 ∧ w.heap[b]? = some (.map ms clock) ∧ RepE G w es ms.toList
structure Inv (w0 : World) (base : Nat) (G : Gh) (st : St) (w : World) : Prop where
 old : Below base w0 w
 scope : ∀ o, G.used o → o < st.next
 objs : ∀ o x, st.objs o = some x → G.used o ∧ ObjRep base G w o x
 fresh : ∀ b, w.heap.size ≤ b → G.lim b = 0 ∧ G.own b = none
 size : base ≤ w.heap.size
theorem Ext.trans {base : Nat} {G1 G2 G3 : Gh} {w1 w2 w3 : World} (h : Ext base G1 w1 G2 w2) (k : Ext base G2 w2 G3 w3) : Ext base G1 w1 G3 w3 where
 below := h.below.trans k.below
 used := fun o ho => k.used o (h.used o ho)
 blk := fun o ho => by
  rcases h.blk o ho with e | e <;> rcases k.blk o (h.used o ho) with e' | e' <;> simp_all
 tok := fun t ht => by
  rcases h.tok t ht with ⟨a, b, c⟩ | ⟨a, b⟩ | a <;> rcases k.tok t (h.used t ht) with ⟨a', b', c'⟩ | ⟨a', b'⟩ | a'
  ·exact .inl ⟨a'.trans a, b'.trans b, c'.trans c⟩
  ·exact .inr (.inl ⟨a ▸ a', by omega⟩)
  ·exact .inr (.inr a')
  ·exact .inr (.inl ⟨a, by omega⟩)
  ·exact .inr (.inl ⟨a, by omega⟩)
  ·exact .inr (.inr a')
  ·exact .inr (.inr (a'.trans a))
  ·exact absurd a a'
  ·exact .inr (.inr a')
 rcap := fun o ho => (k.rcap o (h.used o ho)).trans (h.rcap o ho)
 imm := fun b off u h1 h2 => by
  obtain ⟨h3, h4⟩ := h.imm b off u h1 h2
  exact k.imm b off u h3 h4
structure Same (G : Gh) (w : World) (G' : Gh) (w' : World) (o : Nat) : Prop where
 blk : G'.blk o = G.blk o
 tblk : G'.tblk o = G.tblk o
 tip : G'.tip o = G.tip o
 cap : G'.cap o = G.cap o
 rcap : G'.rcap o = G.rcap o
 at_ : ∀ b, (G.blk o = some b ∨ G.tblk o = some b) → G.own b = some o → G'.own b = G.own b ∧ G'.lim b = G.lim b ∧ w'.heap[b]? = w.heap[b]?
theorem x6 {base : Nat} {G G' : Gh} {w w' : World} (h : Ext base G w G' w') {o : Nat} (hs : Same G w G' w' o) : ∀ {x : AObj}, ObjRep base G w o x → ObjRep base G' w' o x
 | .cells T cs, ⟨b, vs, h1, h2, h3, h4, h5, h6, h7⟩ => by
  obtain ⟨e1, e2, e3⟩ := hs.at_ b (.inl h1) h2
  exact ⟨b, vs, hs.blk.trans h1, e1.trans h2, h3, e2.trans h4, e3.trans h5, yd h _ _ h6, h7⟩
 | .row e size cs, ⟨b, vs, h1, h2, h3, h4, h5, h6, h7, h8, h9⟩ => by
  obtain ⟨e1, e2, e3⟩ := hs.at_ b (.inl h1) h2
  exact ⟨b, vs, hs.blk.trans h1, e1.trans h2, h3, e2.trans h4, e3.trans h5, yd h _ _ h6, by rw [hs.rcap]; exact h7, by rw [hs.rcap]; exact h8, h9⟩
 | .tip e size n, ⟨b, vs, h1, h2, h3, h4, h5, h6, h7, h8, h9, h10⟩ => by
  obtain ⟨e1, e2, e3⟩ := hs.at_ b (.inr h1) h2
  exact ⟨b, vs, hs.tblk.trans h1, e1.trans h2, h3, hs.tip.trans h4, e2.trans h5, e3.trans h6, by rw [hs.cap]; exact h7, by rw [hs.cap]; exact h8, h9, by rw [hs.cap]; exact h10⟩
 | .map es, ⟨b, ms, clock, h1, h2, h3, h4, h5, h6, h7⟩ => by
  obtain ⟨e1, e2, e3⟩ := hs.at_ b (.inl h1) h2
  exact ⟨b, ms, clock, hs.blk.trans h1, e1.trans h2, h3, e2.trans h4, e3.trans h5, xf h _ _ h6, xf h _ _ h7⟩
theorem ObjRep.lt {base : Nat} {G : Gh} {w : World} {o : Nat} : ∀ {x : AObj}, ObjRep base G w o x → ∃ b, (G.blk o = some b ∨ G.tblk o = some b) ∧ G.own b = some o ∧ base ≤ b ∧ b < w.heap.size
 | .cells T cs, ⟨b, vs, h1, h2, h3, h4, h5, h6⟩ => ⟨b, .inl h1, h2, h3, (Array.getElem?_eq_some_iff.1 h5).1⟩
 | .row e size cs, ⟨b, vs, h1, h2, h3, h4, h5, h6, h7⟩ => ⟨b, .inl h1, h2, h3, (Array.getElem?_eq_some_iff.1 h5).1⟩
 | .tip e size n, ⟨b, vs, h1, h2, h3, h4, h5, h6, h7⟩ => ⟨b, .inr h1, h2, h3, (Array.getElem?_eq_some_iff.1 h6).1⟩
 | .map es, ⟨b, ms, clock, h1, h2, h3, h4, h5, h6, h7⟩ => ⟨b, .inl h1, h2, h3, (Array.getElem?_eq_some_iff.1 h5).1⟩
theorem Inv.own_lt {w0 : World} {base : Nat} {G : Gh} {st : St} {w : World} (hI : Inv w0 base G st w) {b o : Nat} (h : G.own b = some o) : b < w.heap.size := by
 rcases Nat.lt_or_ge b w.heap.size with h1 | h1
 ·exact h1
 ·rw [(hI.fresh b h1).2] at h; cases h
theorem ext_below {base : Nat} {G : Gh} {w w' : World} (hs : base ≤ w.heap.size) (h : Below w.heap.size w w') : Ext base G w G w' :=
 ⟨h.mono hs, fun _ h => h, fun _ _ => .inl rfl, fun _ _ => .inl ⟨rfl, rfl, rfl⟩, fun _ _ => rfl, fun b off u h1 h2 => ⟨h1, (h.cell (World.block_lt_of_cell? w _ h2)).trans h2⟩⟩
theorem inv_below {w0 : World} {base : Nat} {G : Gh} {st : St} {w w' : World} (hI : Inv w0 base G st w) (h : Below w.heap.size w w') : Inv w0 base G st w' where
 old := hI.old.trans (h.mono hI.size)
 scope := hI.scope
 objs := fun o x hx => by
  obtain ⟨h1, h2⟩ := hI.objs o x hx
  exact ⟨h1, x6 (ext_below hI.size h) ⟨rfl, rfl, rfl, rfl, rfl, fun b _ ho => ⟨rfl, rfl, h.block b (hI.own_lt ho)⟩⟩ h2⟩
 fresh := fun b hb => hI.fresh b (Nat.le_trans h.size hb)
 size := Nat.le_trans hI.size h.size
theorem inv_drew {w0 : World} {base : Nat} {G : Gh} {st : St} {w : World} (hI : Inv w0 base G st w) : Inv w0 base G st { w with drawn := w.drawn + 1 } := inv_below hI (Below.refl _ w).drew
theorem ext_drew (base : Nat) (G : Gh) (w : World) : Ext base G w G { w with drawn := w.drawn + 1 } :=
 ⟨(Below.refl _ w).drew, fun _ h => h, fun _ _ => .inl rfl, fun _ _ => .inl ⟨rfl, rfl, rfl⟩, fun _ _ => rfl, fun b off u h1 h2 => ⟨h1, h2⟩⟩
theorem inv_forget {w0 : World} {base : Nat} {G : Gh} {st st' : St} {w : World} (hI : Inv w0 base G st w) (h : ∀ o x, st'.objs o = some x → st.objs o = some x) (hn : st.next ≤ st'.next) : Inv w0 base G st' w :=
 ⟨hI.old, fun o ho => Nat.lt_of_lt_of_le (hI.scope o ho) hn, fun o x hx => hI.objs o x (h o x hx), hI.fresh, hI.size⟩
def Gh.setLim (G : Gh) (b n : Nat) : Gh := { G with lim := upd G.lim b n }
def Gh.addObj (G : Gh) (k b c : Nat) : Gh := { G with used := fun o => o = k ∨ G.used o, blk := upd G.blk k (some b), tblk := upd G.tblk k none, rcap := upd G.rcap k c, own := upd G.own b (some k) }
def Gh.addTok (G : Gh) (k b n c l : Nat) : Gh := { G with used := fun o => o = k ∨ G.used o, blk := upd G.blk k none, tblk := upd G.tblk k (some b), tip := upd G.tip k n, cap := upd G.cap k c, own := upd G.own b (some k), lim := upd G.lim b l }
theorem inv_imm {w0 : World} {base : Nat} {G : Gh} {st : St} {w w' : World} (hI : Inv w0 base G st w) (h : Below w.heap.size w w') {b n : Nat} (h0 : w.heap.size ≤ b) (h1 : b < w'.heap.size) :
  Ext base G w (G.setLim b n) w' ∧ Inv w0 base (G.setLim b n) st w' := by
 have he : Ext base G w (G.setLim b n) w' := by
  refine ⟨h.mono hI.size, fun _ h => h, fun _ _ => .inl rfl, fun _ _ => .inl ⟨rfl, rfl, rfl⟩, fun _ _ => rfl, fun b' off u g1 g2 => ?_⟩
  have hlt := World.block_lt_of_cell? w _ g2
  refine ⟨?_, (h.cell hlt).trans g2⟩
  show off < upd G.lim b n b'
  rw [zl _ _ _ _ (by simp only at hlt; omega)]
  exact g1
 refine ⟨he, hI.old.trans he.below, hI.scope, fun o x hx => ?_, fun b' hb' => ?_, Nat.le_trans hI.size h.size⟩
 ·obtain ⟨g1, g2⟩ := hI.objs o x hx
  refine ⟨g1, x6 he ⟨rfl, rfl, rfl, rfl, rfl, fun b' _ ho => ⟨rfl, ?_, h.block b' (hI.own_lt ho)⟩⟩ g2⟩
  have := hI.own_lt ho
  exact zl _ _ _ _ (by omega)
 ·refine ⟨?_, (hI.fresh b' (Nat.le_trans h.size hb')).2⟩
  show upd G.lim b n b' = 0
  rw [zl _ _ _ _ (by omega)]
  exact (hI.fresh b' (Nat.le_trans h.size hb')).1
theorem own_ne {w0 : World} {base : Nat} {G : Gh} {st : St} {w : World} (hI : Inv w0 base G st w) {b b' o : Nat} (h0 : w.heap.size ≤ b) (h : G.own b' = some o) : b' ≠ b := by
 have := hI.own_lt h
 omega
theorem ext_addObj {w0 : World} {base : Nat} {G : Gh} {st : St} {w w' : World} (hI : Inv w0 base G st w) (h : Below w.heap.size w w') {k b c : Nat} (hk : ¬ G.used k) : Ext base G w (G.addObj k b c) w' := by
 have hne : ∀ o, G.used o → o ≠ k := fun o ho e => hk (e ▸ ho)
 refine ⟨h.mono hI.size, fun o ho => .inr ho, fun o ho => .inl (zl _ _ _ _ (hne o ho)), fun o ho => .inl ⟨zl _ _ _ _ (hne o ho), rfl, rfl⟩, fun o ho => zl _ _ _ _ (hne o ho), fun b' off u g1 g2 => ?_⟩
 exact ⟨g1, (h.cell (World.block_lt_of_cell? w _ g2)).trans g2⟩
theorem inv_addObj {w0 : World} {base : Nat} {G : Gh} {st : St} {w w' : World} (hI : Inv w0 base G st w) (h : Below w.heap.size w w') {k b c : Nat} (hk : ¬ G.used k) (hkn : k < st.next) (h0 : w.heap.size ≤ b) (h1 : b < w'.heap.size)
  (x : AObj) (hx : ObjRep base (G.addObj k b c) w' k x) : Inv w0 base (G.addObj k b c) { st with objs := upd st.objs k (some x) } w' := by
 have he := ext_addObj hI h (k := k) (b := b) (c := c) hk
 refine ⟨hI.old.trans he.below, fun o ho => ?_, fun o y hy => ?_, fun b' hb' => ?_, Nat.le_trans hI.size h.size⟩
 ·rcases ho with rfl | ho
  ·exact hkn
  ·exact hI.scope o ho
 ·by_cases e : o = k
  ·subst e
   simp only [zd, Option.some.injEq] at hy
   subst hy
   exact ⟨.inl rfl, hx⟩
  ·simp only [zl _ _ _ _ e] at hy
   obtain ⟨g1, g2⟩ := hI.objs o y hy
   refine ⟨.inr g1, x6 he ⟨zl _ _ _ _ e, zl _ _ _ _ e, rfl, rfl, zl _ _ _ _ e, fun b' _ ho => ⟨?_, rfl, h.block b' (hI.own_lt ho)⟩⟩ g2⟩
   exact zl _ _ _ _ (own_ne hI h0 ho)
 ·obtain ⟨g1, g2⟩ := hI.fresh b' (Nat.le_trans h.size hb')
  refine ⟨g1, ?_⟩
  show upd G.own b (some k) b' = none
  rw [zl _ _ _ _ (by omega)]
  exact g2
theorem inv_addTok {w0 : World} {base : Nat} {G : Gh} {st : St} {w w' : World} (hI : Inv w0 base G st w) (h : Below w.heap.size w w') {k b n c size : Nat} {vs : Array Value} {e : TypeId} (hk : ¬ G.used k) (hkn : k < st.next)
  (h0 : w.heap.size ≤ b) (hh : w'.heap[b]? = some (.cells vs e (0, 0))) (hvs : vs.size = c * size) (hc : c ≤ maxLen) (hsz : 0 < size) (hn : n ≤ c) :
  Ext base G w (G.addTok k b n c (n * size)) w' ∧ Inv w0 base (G.addTok k b n c (n * size)) { st with objs := upd st.objs k (some (.tip e size n)) } w' := by
 have hne : ∀ o, G.used o → o ≠ k := fun o ho e => hk (e ▸ ho)
 have h1 : b < w'.heap.size := (Array.getElem?_eq_some_iff.1 hh).1
 have he : Ext base G w (G.addTok k b n c (n * size)) w' := by
  refine ⟨h.mono hI.size, fun o ho => .inr ho, fun o ho => .inl (zl _ _ _ _ (hne o ho)), fun o ho => .inl ⟨zl _ _ _ _ (hne o ho), zl _ _ _ _ (hne o ho), zl _ _ _ _ (hne o ho)⟩, fun o ho => rfl, fun b' off u g1 g2 => ?_⟩
  have hlt := World.block_lt_of_cell? w _ g2
  refine ⟨?_, (h.cell hlt).trans g2⟩
  show off < upd G.lim b (n * size) b'
  rw [zl _ _ _ _ (by simp only at hlt; omega)]
  exact g1
 refine ⟨he, hI.old.trans he.below, fun o ho => ?_, fun o y hy => ?_, fun b' hb' => ?_, Nat.le_trans hI.size h.size⟩
 ·rcases ho with rfl | ho
  ·exact hkn
  ·exact hI.scope o ho
 ·by_cases e1 : o = k
  ·subst e1
   simp only [zd, Option.some.injEq] at hy
   subst hy
   exact ⟨.inl rfl, b, vs, zd _ _ _, zd _ _ _, Nat.le_trans hI.size h0, zd _ _ _, zd _ _ _, hh, by rw [show (G.addTok o b n c (n * size)).cap o = c from zd _ _ _]; exact hvs, by rw [show (G.addTok o b n c (n * size)).cap o = c from zd _ _ _]; exact hc, hsz, by rw [show (G.addTok o b n c (n * size)).cap o = c from zd _ _ _]; exact hn⟩
  ·simp only [zl _ _ _ _ e1] at hy
   obtain ⟨g1, g2⟩ := hI.objs o y hy
   refine ⟨.inr g1, x6 he ⟨zl _ _ _ _ e1, zl _ _ _ _ e1, zl _ _ _ _ e1, zl _ _ _ _ e1, rfl, fun b' _ ho => ⟨?_, ?_, h.block b' (hI.own_lt ho)⟩⟩ g2⟩
   ·exact zl _ _ _ _ (own_ne hI h0 ho)
   ·exact zl _ _ _ _ (own_ne hI h0 ho)
 ·obtain ⟨g1, g2⟩ := hI.fresh b' (Nat.le_trans h.size hb')
  refine ⟨?_, ?_⟩
  ·show upd G.lim b (n * size) b' = 0
   rw [zl _ _ _ _ (by omega)]
   exact g1
  ·show upd G.own b (some k) b' = none
   rw [zl _ _ _ _ (by omega)]
   exact g2
structure Wrote (w w' : World) (b : Nat) (o : Obj) : Prop where
 os : w'.os = w.os
 tape : w'.tape = w.tape
 output : w'.output = w.output
 size : w'.heap.size = w.heap.size
 at_ : w'.heap[b]? = some o
 other : ∀ k, k ≠ b → w'.heap[k]? = w.heap[k]?
theorem wrote_setRow {w : World} {b : Nat} {old cs : Array Value} {t : TypeId} {fr : Nat × Nat} (h : w.heap[b]? = some (.cells old t fr)) : Wrote w (w.setRow b cs) b (.cells cs t fr) :=
 ⟨rfl, rfl, rfl, by simp, setRow_heap w b old cs t fr h, fun k hk => setRow_other w b k cs hk⟩
theorem uq (b : Nat) (t : TypeId) (fr : Nat × Nat) : ∀ (vs : List Value) (o : Nat) (w : World) (cur : Array Value), w.heap[b]? = some (.cells cur t fr) → o + vs.length ≤ cur.size →
  w.setCells b o vs = w.setRow b (cur.toList.take o ++ vs ++ cur.toList.drop (o + vs.length)).toArray
 | [], o, w, cur, h, _ => by
  simp only [World.setCells, List.append_nil, List.length_nil, Nat.add_zero, List.take_append_drop, Array.toArray_toList]
  rw [setRow_self w b cur t fr h]
 | v :: rest, o, w, cur, h, hl => by
  simp only [World.setCells, List.length_cons] at hl ⊢
  rw [setCell_eq_setRow w b o cur t fr v h, uq b t fr rest (o + 1) _ (cur.setIfInBounds o v) (setRow_heap w b cur _ t fr h) (by simp; omega), setRow_setRow]
  congr 2
  have e := list_seg_step cur.toList o v rest (by simp; omega)
  simpa [Array.toList_setIfInBounds, Nat.add_assoc, Nat.add_comm 1] using e
theorem Wrote.below {w w' : World} {b : Nat} {o : Obj} (h : Wrote w w' b o) {B : Nat} (hb : B ≤ b) : Below B w w' := ⟨h.os, h.tape, h.output, Nat.le_of_eq h.size.symm, fun k hk => h.other k (by omega)⟩
theorem inv_write {w0 : World} {base : Nat} {G : Gh} {st : St} {w w' : World} (hI : Inv w0 base G st w) {o b : Nat} {ob : Obj} (hu : G.used o) (hb : G.blk o = some b) (ho : G.own b = some o) (hbase : base ≤ b) (hl : G.lim b = 0) (h : Wrote w w' b ob) :
  Ext base G w G w' ∧ ∀ x, ObjRep base G w' o x → Inv w0 base G { st with objs := upd st.objs o (some x) } w' := by
 have he : Ext base G w G w' := by
  refine ⟨h.below hbase, fun _ h => h, fun _ _ => .inl rfl, fun _ _ => .inl ⟨rfl, rfl, rfl⟩, fun _ _ => rfl, fun b' off u g1 g2 => ⟨g1, ?_⟩⟩
  have : b' ≠ b := fun e => by subst e; omega
  rw [← g2]
  exact World.cell?_of_block (w := w) (w' := w') (a := ⟨b', off, none⟩) (h.other b' this)
 refine ⟨he, fun x hx => ⟨hI.old.trans he.below, hI.scope, fun o' y hy => ?_, fun b' hb' => hI.fresh b' (h.size ▸ hb'), h.size ▸ hI.size⟩⟩
 by_cases e : o' = o
 ·subst e
  simp only [zd, Option.some.injEq] at hy
  subst hy
  exact ⟨hu, hx⟩
 ·simp only [zl _ _ _ _ e] at hy
  obtain ⟨g1, g2⟩ := hI.objs o' y hy
  refine ⟨g1, x6 he ⟨rfl, rfl, rfl, rfl, rfl, fun b' _ ho' => ⟨rfl, rfl, h.other b' (fun e' => e ?_)⟩⟩ g2⟩
  subst e'
  rw [ho] at ho'
  exact (Option.some.inj ho').symm
end
section
theorem yw {G : Gh} {w : World} : ∀ {cs : List AV} {vs : List Value}, RepC G w cs vs → vs.length = cs.length
 | [], _, h => by cases h; rfl
 | c :: cs, _, ⟨u, us, e, _, _, h⟩ => by subst e; simp [yw h]
theorem wv {G : Gh} {w : World} : ∀ {cs ds : List AV} {vs us : List Value}, RepC G w cs vs → RepC G w ds us → RepC G w (cs ++ ds) (vs ++ us)
 | [], _, _, _, h, h' => by cases h; exact h'
 | c :: cs, _, _, _, ⟨u, us, e, h1, h2, h3⟩, h' => by subst e; exact ⟨u, us ++ _, rfl, h1, h2, wv h3 h'⟩
theorem repC_one {G : Gh} {w : World} : ∀ {cs : List AV} {vs : List Value}, RepC G w cs vs → ∀ u ∈ vs, u.oneCell' = true
 | [], _, h => by cases h; intro u hu; cases hu
 | c :: cs, _, ⟨u, us, e, h1, h2, h3⟩ => by
  subst e
  intro x hx
  rcases List.mem_cons.1 hx with rfl | hx
  ·exact h1
  ·exact repC_one h3 x hx
theorem repC_take {G : Gh} {w : World} : ∀ {cs : List AV} {vs : List Value} (n : Nat), RepC G w cs vs → RepC G w (cs.take n) (vs.take n)
 | cs, vs, 0, _ => by simp [RepC]
 | [], _, n + 1, h => by cases h; simp [RepC]
 | c :: cs, _, n + 1, ⟨u, us, e, h1, h2, h3⟩ => by subst e; exact ⟨u, us.take n, rfl, h1, h2, repC_take n h3⟩
theorem repC_drop {G : Gh} {w : World} : ∀ {cs : List AV} {vs : List Value} (n : Nat), RepC G w cs vs → RepC G w (cs.drop n) (vs.drop n)
 | cs, vs, 0, h => by simpa using h
 | [], _, n + 1, h => by cases h; simp [RepC]
 | c :: cs, _, n + 1, ⟨u, us, e, h1, h2, h3⟩ => by subst e; simpa using repC_drop n h3
theorem repC_get {G : Gh} {w : World} : ∀ {cs : List AV} {vs : List Value}, RepC G w cs vs → ∀ (j : Nat) c, cs[j]? = some c → ∃ u, vs[j]? = some u ∧ u.oneCell' = true ∧ Rep G w c u
 | [], _, h, j, c, hc => by simp at hc
 | c0 :: cs, _, ⟨u, us, e, h1, h2, h3⟩, 0, c, hc => by subst e; simp at hc; subst hc; exact ⟨u, rfl, h1, h2⟩
 | c0 :: cs, _, ⟨u, us, e, h1, h2, h3⟩, j + 1, c, hc => by subst e; simp at hc ⊢; exact repC_get h3 j c hc
theorem repL_length {G : Gh} {w : World} : ∀ {cs : List AV} {vs : List Value}, RepL G w cs vs → vs.length = cs.length
 | [], _, h => by cases h; rfl
 | c :: cs, _, ⟨u, us, e, _, h⟩ => by subst e; simp [repL_length h]
theorem uj {G : Gh} {w : World} : ∀ {cs ds : List AV} {vs us : List Value}, RepL G w cs vs → RepL G w ds us → RepL G w (cs ++ ds) (vs ++ us)
 | [], _, _, _, h, h' => by cases h; exact h'
 | c :: cs, _, _, _, ⟨u, us, e, h2, h3⟩, h' => by subst e; exact ⟨u, us ++ _, rfl, h2, uj h3 h'⟩
theorem repL_get {G : Gh} {w : World} : ∀ {cs : List AV} {vs : List Value}, RepL G w cs vs → ∀ (j : Nat) c, cs[j]? = some c → ∃ u, vs[j]? = some u ∧ Rep G w c u
 | [], _, h, j, c, hc => by simp at hc
 | c0 :: cs, _, ⟨u, us, e, h2, h3⟩, 0, c, hc => by subst e; simp at hc; subst hc; exact ⟨u, rfl, h2⟩
 | c0 :: cs, _, ⟨u, us, e, h2, h3⟩, j + 1, c, hc => by subst e; simp at hc ⊢; exact repL_get h3 j c hc
theorem firstCells_held {P : Program} {G : Gh} {w : World} {a : Option Addr} {len cap size : Nat} {vs : List Value} (hl : vs.length = len * size) (h : Held G w a vs) (w' : World) (hw : ∀ x u, w.cell? x = some u → w'.cell? x = some u) :
  (Builtin.firstCells size len (.slice a len cap)).run P w' = .ok vs.toArray w' := by
 rcases h with rfl | ⟨ad, rfl, hc⟩
 ·cases a with
  | none => exact run_firstCells_none w' size len len cap
  | some ad => exact run_firstCells_some w' size len ad len cap [] hl (fun j v hj => by simp at hj)
 ·exact run_firstCells_some w' size len ad len cap vs hl (fun j v hj => hw _ _ (hc j v hj).1)
theorem held_new {G : Gh} {w' : World} {b n : Nat} {vs : Array Value} {e : TypeId} {fr : Nat × Nat} (hh : w'.heap[b]? = some (.cells vs e fr)) (us : List Value) (hpre : vs.toList.take us.length = us) (hl : us.length ≤ G.lim b) :
  Held G w' (some ⟨b, 0, none⟩) us := by
 refine .inr ⟨_, rfl, fun j u hj => ?_⟩
 have hlt : j < us.length := (List.getElem?_eq_some_iff.1 hj).1
 rw [wd, cell_of_row w' b _ vs e fr hh]
 refine ⟨?_, by simp only; omega⟩
 rw [← hpre, List.getElem?_take_of_lt hlt] at hj
 simpa using hj
section
variable {P : Program} {w0 : World} {base : Nat} {G : Gh} {st : St} {w : World}
structure Elem (P : Program) (t e size bytes : Nat) : Prop where
 und : P.underlying t = some (.slice e)
 info : ∃ i z, P.info? e = some i ∧ i.zero = some z ∧ i.size = size ∧ i.bytes = bytes ∧ z.cells.size = size
 pos : 0 < size
theorem grown_facts {size e need old : Nat} {z : Value} {olds news : List Value} (hz : z.cells.size = size) (hl : (olds ++ news).length = need * size) (h63 : need ≤ maxLen) :
  let c := grownCap w need old e
  let cells := (olds ++ news).toArray ++ Builtin.zeroCells z.cells (c - need)
  need ≤ c ∧ c ≤ maxLen ∧ cells.size = c * size ∧ cells.toList.take (olds ++ news).length = olds ++ news := by
 intro c cells
 have hge : need ≤ c := grownCap_ge w need old e
 refine ⟨hge, grownCap_le_maxLen w need old e h63, ?_, ?_⟩
 ·show ((olds ++ news).toArray ++ Builtin.zeroCells z.cells (c - need)).size = _
  rw [Array.size_append, List.size_toArray, size_zeroCells, hz, hl, ← Nat.add_mul]
  congr 1
  omega
 ·show ((olds ++ news).toArray ++ Builtin.zeroCells z.cells (c - need)).toList.take _ = _
  rw [Array.toList_append]
  exact List.take_left
theorem run_append_none {t tx ty e size bytes : Nat} (hE : Elem P t e size bytes) {a : Option Addr} {len cap : Nat} (hlc : len ≤ cap) {x : Value} (hs : Src P size tx x 0 [] w) :
    (Builtin.append_ #[t, tx] ty #[.slice a len cap, x]).run P w = .ok (.slice a len cap) w := by
  obtain ⟨i, z, hi, hz, hsz, hby, hzs⟩ := hE.info
  subst hsz
  rcases hs.kind with ⟨e', hk⟩ | hk <;>
    (simp [Builtin.append_, run_underlying hE.und, run_underlying hk, sizeOf, typeInfo, hi, hs.len, hlc, hs.cells]
     cases a <;> simp [storeCells])
theorem src_zero {size tx : Nat} {x : Value} {news : List Value} (hs : Src P size tx x 0 news w) : news = [] := by
 have := hs.newsLen
 simp at this
 exact this
theorem append_grows {t tx ty e size bytes k : Nat} (hE : Elem P t e size bytes) (hI : Inv w0 base G st w) (hk : ¬ G.used k) (hkn : k < st.next) {cs ds : List AV} {a : Option Addr} {len cap n : Nat} {vs news : List Value} {x : Value}
  (hc : RepC G w cs vs) (hh : Held G w a vs) (hcl : cs.length = len * size) (hs : Src P size tx x n news w) (hd : RepC G w ds news) (hg : cap < len + n) (hb : (len + n) * bytes ≤ big) (hb2 : len + n ≤ big) :
  ∃ v' w' G', (Builtin.append_ #[t, tx] ty #[.slice a len cap, x]).run P w = .ok v' w' ∧ Ext base G w G' w' ∧ (∀ o, G'.used o ↔ (o = k ∨ G.used o)) ∧
   Inv w0 base G' { st with objs := upd st.objs k (some (.tip e size (len + n))) } w' ∧ Rep G' w' (.sl (cs ++ ds) (len + n) (.tok k)) v' := by
 obtain ⟨i, z, hi, hz, rfl, rfl, hzs⟩ := hE.info
 have h63 : len + n ≤ maxLen := by simp only [big, maxLen] at *; omega
 have hvl : vs.length = len * i.size := (yw hc).trans hcl
 have hlen : (vs ++ news).length = (len + n) * i.size := by rw [List.length_append, hvl, hs.newsLen, Nat.add_mul]
 have hold := firstCells_held (P := P) (cap := cap) hvl hh w.drew (fun x u h => h)
 have hr := run_append_grow_src (P := P) w t tx ty e i z hE.und hi hz a len cap vs hold x n news hs hg (by simp only [maxLen] at h63; omega) (growslice_fits hg hb)
 obtain ⟨f1, f2, f3, f4⟩ := grown_facts (w := w) (e := e) (old := cap) (z := z) hzs hlen h63
 have hbel : Below w.heap.size w (w.drew.alloc (.cells ((vs ++ news).toArray ++ Builtin.zeroCells z.cells (grownCap w (len + n) cap e - (len + n))) e)) :=
  ((Below.refl _ w).drew).alloc (Nat.le_refl _) _
 have hhd := heap_alloc_new w.drew (.cells ((vs ++ news).toArray ++ Builtin.zeroCells z.cells (grownCap w (len + n) cap e - (len + n))) e)
 obtain ⟨he, hI'⟩ := inv_addTok hI hbel (k := k) (b := w.heap.size) (n := len + n) (c := grownCap w (len + n) cap e) (size := i.size) hk hkn (Nat.le_refl _) hhd f3 f2 hE.pos f1
 refine ⟨_, _, _, hr, he, fun o => Iff.rfl, hI', ?_⟩
 refine ⟨vs ++ news, _, _, wv (yd he _ _ hc) (yd he _ _ hd), ?_, rfl, f1, f2, hb2, by simp, fun t' ht' => ?_, fun _ => by simp⟩
 ·refine held_new (b := w.heap.size) (n := 0) hhd (vs ++ news) f4 ?_
  show _ ≤ upd G.lim w.heap.size ((len + n) * i.size) w.heap.size
  rw [zd, hlen]
  exact Nat.le_refl _
 ·cases ht'
  refine ⟨.inl rfl, fun b' hb' => ?_⟩
  have e1 : w.heap.size = b' := Option.some.inj ((zd G.tblk k (some w.heap.size)).symm.trans hb')
  subst e1
  have e2 : (G.addTok k w.heap.size (len + n) (grownCap w (len + n) cap e) ((len + n) * i.size)).tip k = len + n := zd _ _ _
  have e3 : (G.addTok k w.heap.size (len + n) (grownCap w (len + n) cap e) ((len + n) * i.size)).cap k = grownCap w (len + n) cap e := zd _ _ _
  rw [e2, e3]
  exact ⟨Nat.le_refl _, fun _ => rfl⟩
def Gh.tipped (G : Gh) (k b n l : Nat) : Gh := { G with tip := upd G.tip k n, lim := upd G.lim b l }
def Gh.moved (G : Gh) (k b n c l : Nat) : Gh := { G with tblk := upd G.tblk k (some b), tip := upd G.tip k n, cap := upd G.cap k c, own := upd G.own b (some k), lim := upd G.lim b l }
theorem append_room {t tx ty e size bytes k : Nat} (hE : Elem P t e size bytes) (hI : Inv w0 base G st w) {cs ds : List AV} {v x : Value} {len n : Nat} {news : List Value}
  (ht : st.objs k = some (.tip e size len)) (hv : Rep G w (.sl cs len (.tok k)) v) (hcl : cs.length = len * size) (hs : Src P size tx x n news w) (hd : RepC G w ds news) (hn : 0 < n) (hb : (len + n) * bytes ≤ big) (hb2 : len + n ≤ big) :
  ∃ v' w' G', (Builtin.append_ #[t, tx] ty #[v, x]).run P w = .ok v' w' ∧ Ext base G w G' w' ∧ (∀ o, G'.used o ↔ G.used o) ∧
   Inv w0 base G' { st with objs := upd st.objs k (some (.tip e size (len + n))) } w' ∧ Rep G' w' (.sl (cs ++ ds) (len + n) (.tok k)) v' := by
 have h63 : len + n ≤ maxLen := by simp only [big, maxLen] at *; omega
 obtain ⟨hu, b, cur, hb1, hb3, hbase, htip, hlim, hheap, hsz, hcm, hpos, hnc⟩ := hI.objs k _ ht
 obtain ⟨vs, a, cap, hc, hh, rfl, h4, h5, h6, -, h8, -⟩ := hv
 obtain ⟨-, h9⟩ := h8 k rfl
 obtain ⟨h10, h11⟩ := h9 b hb1
 have h12 := h11 htip.symm
 simp only [Value.slice.injEq, true_and] at h12
 obtain ⟨rfl, rfl⟩ := h12
 obtain ⟨i, z, hi, hz, rfl, rfl, hzs⟩ := hE.info
 have hvl : vs.length = len * i.size := (yw hc).trans hcl
 have hlen : (vs ++ news).length = (len + n) * i.size := by rw [List.length_append, hvl, hs.newsLen, Nat.add_mul]
 have hcurlen : cur.toList.length = G.cap k * i.size := by rw [Array.length_toList]; exact hsz
 have hpre : cur.toList.take (len * i.size) = vs := by
  rcases hh with rfl | ⟨ad, e1, hcell⟩
  ·have : len * i.size = 0 := by rw [← hvl]; rfl
   rw [this]; rfl
  ·cases e1
   apply List.ext_getElem?
   intro j
   rcases Nat.lt_or_ge j (len * i.size) with hj | hj
   ·rw [List.getElem?_take_of_lt hj]
    have hj' : j < vs.length := by omega
    have := (hcell j _ (List.getElem?_eq_getElem hj')).1
    rw [wd, cell_of_row w b _ cur e (0, 0) hheap] at this
    rw [List.getElem?_eq_getElem hj']
    simpa using this
   ·rw [List.getElem?_eq_none (by rw [List.length_take]; omega), List.getElem?_eq_none (by omega)]
 by_cases hroom : len + n ≤ G.cap k
 ·-- in place
  have hfit : len * i.size + news.length ≤ cur.size := by rw [hs.newsLen, hsz, ← Nat.add_mul]; exact Nat.mul_le_mul_right _ hroom
  have hr := run_append_room_src (P := P) w t tx ty e i hE.und hi b 0 len (G.cap k) x n news hs hroom
   (fun j hj => by rw [cell_of_row w b _ cur e (0, 0) hheap]; simp; omega)
   (fun j hj => by simp [World.frozen?, hheap])
  rw [Nat.zero_add, uq b e (0, 0) news _ w cur hheap hfit] at hr
  have hW := wrote_setRow (cs := (cur.toList.take (len * i.size) ++ news ++ cur.toList.drop (len * i.size + news.length)).toArray) hheap
  rw [hpre] at hr hW
  have hne : ∀ o, G.used o → o ≠ k → ∀ b', G.own b' = some o → b' ≠ b := fun o _ h1 b' h2 h3 => by subst h3; rw [hb3] at h2; exact h1 (Option.some.inj h2).symm
  have he : Ext base G w (G.tipped k b (len + n) ((len + n) * i.size)) (w.setRow b (vs ++ news ++ cur.toList.drop (len * i.size + news.length)).toArray) := by
   refine ⟨hW.below hbase, fun _ h => h, fun _ _ => .inl rfl, fun t' ht' => ?_, fun _ _ => rfl, fun b' off u g1 g2 => ?_⟩
   ·by_cases e1 : t' = k
    ·subst e1
     refine .inr (.inl ⟨by rw [hb1]; simp, ?_⟩)
     show G.tip t' < upd G.tip t' (len + n) t'
     rw [zd]; omega
    ·exact .inl ⟨rfl, zl _ _ _ _ e1, rfl⟩
   ·by_cases e1 : b' = b
    ·subst e1
     rw [hlim] at g1
     refine ⟨?_, ?_⟩
     ·show off < upd G.lim b' _ b'
      rw [zd, Nat.add_mul]; omega
     ·rw [cell_of_row _ b' off _ e (0, 0) hW.at_]
      rw [cell_of_row w b' off cur e (0, 0) hheap] at g2
      have hoff : off < vs.length := by omega
      have h13 : vs[off]? = some u := by
       rw [← hpre, List.getElem?_take_of_lt g1]; simpa using g2
      simp [List.append_assoc, List.getElem?_append_left hoff, h13]
    ·refine ⟨?_, ?_⟩
     ·show off < upd G.lim b _ b'
      rw [zl _ _ _ _ e1]; exact g1
     ·rw [← g2]
      exact World.cell?_of_block (w := w) (a := ⟨b', off, none⟩) (hW.other b' e1)
  refine ⟨_, _, _, hr, he, fun o => Iff.rfl, ⟨hI.old.trans he.below, hI.scope, fun o y hy => ?_, fun b' hb' => ?_, by rw [hW.size]; exact hI.size⟩, ?_⟩
  ·by_cases e1 : o = k
   ·subst e1
    simp only [zd, Option.some.injEq] at hy
    subst hy
    refine ⟨hu, b, _, hb1, hb3, hbase, zd _ _ _, zd _ _ _, hW.at_, ?_, hcm, hpos, hroom⟩
    have h14 : (vs ++ news ++ cur.toList.drop (len * i.size + news.length)).toArray.size = cur.size := by
     simp only [List.size_toArray, List.length_append, List.length_drop, Array.length_toList]; omega
    rw [h14]; exact hsz
   ·simp only [zl _ _ _ _ e1] at hy
    obtain ⟨g1, g2⟩ := hI.objs o y hy
    exact ⟨g1, x6 he ⟨rfl, rfl, zl _ _ _ _ e1, rfl, rfl, fun b' _ ho' => ⟨rfl, zl _ _ _ _ (hne o g1 e1 b' ho'), hW.other b' (hne o g1 e1 b' ho')⟩⟩ g2⟩
  ·rw [hW.size] at hb'
   obtain ⟨g1, g2⟩ := hI.fresh b' hb'
   refine ⟨?_, g2⟩
   show upd G.lim b _ b' = 0
   have := hI.own_lt hb3
   rw [zl _ _ _ _ (by omega)]; exact g1
  ·refine ⟨vs ++ news, _, _, wv (yd he _ _ hc) (yd he _ _ hd), ?_, rfl, hroom, h5, hb2, by simp, fun t' ht' => ?_, fun _ => by simp⟩
   ·refine held_new (n := 0) hW.at_ (vs ++ news) (by rw [List.toList_toArray]; exact List.take_left) ?_
    show _ ≤ upd G.lim b _ b
    rw [zd, hlen]; exact Nat.le_refl _
   ·cases ht'
    refine ⟨hu, fun b' hb' => ?_⟩
    have e1 : b = b' := Option.some.inj (hb1.symm.trans hb')
    subst e1
    have e2 : (G.tipped k b (len + n) ((len + n) * i.size)).tip k = len + n := zd _ _ _
    rw [e2]
    exact ⟨Nat.le_refl _, fun _ => rfl⟩
 ·-- in a new block
  have hold := firstCells_held (P := P) (cap := G.cap k) hvl hh w.drew (fun x u h => h)
  have hr := run_append_grow_src (P := P) w t tx ty e i z hE.und hi hz (some ⟨b, 0, none⟩) len (G.cap k) vs hold x n news hs (by omega) (by simp only [maxLen] at h63; omega) (growslice_fits (by omega) hb)
  obtain ⟨f1, f2, f3, f4⟩ := grown_facts (w := w) (e := e) (old := G.cap k) (z := z) hzs hlen h63
  have hbel : Below w.heap.size w (w.drew.alloc (.cells ((vs ++ news).toArray ++ Builtin.zeroCells z.cells (grownCap w (len + n) (G.cap k) e - (len + n))) e)) :=
   ((Below.refl _ w).drew).alloc (Nat.le_refl _) _
  have hhd := heap_alloc_new w.drew (.cells ((vs ++ news).toArray ++ Builtin.zeroCells z.cells (grownCap w (len + n) (G.cap k) e - (len + n))) e)
  have hlt : ∀ o b', G.own b' = some o → b' ≠ w.heap.size := fun o b' h1 => own_ne hI (Nat.le_refl _) h1
  have he : Ext base G w (G.moved k w.heap.size (len + n) (grownCap w (len + n) (G.cap k) e) ((len + n) * i.size)) (w.drew.alloc (.cells ((vs ++ news).toArray ++ Builtin.zeroCells z.cells (grownCap w (len + n) (G.cap k) e - (len + n))) e)) := by
   refine ⟨hbel.mono hI.size, fun _ h => h, fun _ _ => .inl rfl, fun t' ht' => ?_, fun _ _ => rfl, fun b' off u g1 g2 => ?_⟩
   ·by_cases e1 : t' = k
    ·subst e1
     refine .inr (.inl ⟨by rw [hb1]; simp, ?_⟩)
     show G.tip t' < upd G.tip t' (len + n) t'
     rw [zd]; omega
    ·exact .inl ⟨zl _ _ _ _ e1, zl _ _ _ _ e1, zl _ _ _ _ e1⟩
   ·have hlt' := World.block_lt_of_cell? w _ g2
    refine ⟨?_, (hbel.cell hlt').trans g2⟩
    show off < upd G.lim w.heap.size _ b'
    rw [zl _ _ _ _ (by simp only at hlt'; omega)]
    exact g1
  refine ⟨_, _, _, hr, he, fun o => Iff.rfl, ⟨hI.old.trans he.below, hI.scope, fun o y hy => ?_, fun b' hb' => ?_, Nat.le_trans hI.size hbel.size⟩, ?_⟩
  ·by_cases e1 : o = k
   ·subst e1
    simp only [zd, Option.some.injEq] at hy
    subst hy
    have e3 : (G.moved o w.heap.size (len + n) (grownCap w (len + n) (G.cap o) e) ((len + n) * i.size)).cap o = grownCap w (len + n) (G.cap o) e := zd _ _ _
    refine ⟨hu, w.heap.size, _, zd _ _ _, zd _ _ _, hI.size, zd _ _ _, zd _ _ _, hhd, ?_, ?_, hpos, ?_⟩ <;> rw [e3]
    ·exact f3
    ·exact f2
    ·exact f1
   ·simp only [zl _ _ _ _ e1] at hy
    obtain ⟨g1, g2⟩ := hI.objs o y hy
    exact ⟨g1, x6 he ⟨rfl, zl _ _ _ _ e1, zl _ _ _ _ e1, zl _ _ _ _ e1, rfl, fun b' _ ho' => ⟨zl _ _ _ _ (hlt o b' ho'), zl _ _ _ _ (hlt o b' ho'), hbel.block b' (hI.own_lt ho')⟩⟩ g2⟩
  ·have hb'' : w.heap.size + 1 ≤ b' := by simpa using hb'
   obtain ⟨g1, g2⟩ := hI.fresh b' (by omega)
   refine ⟨?_, ?_⟩
   ·show upd G.lim w.heap.size _ b' = 0
    rw [zl _ _ _ _ (by omega)]; exact g1
   ·show upd G.own w.heap.size _ b' = none
    rw [zl _ _ _ _ (by omega)]; exact g2
  ·refine ⟨vs ++ news, _, _, wv (yd he _ _ hc) (yd he _ _ hd), ?_, rfl, f1, f2, hb2, by simp, fun t' ht' => ?_, fun _ => by simp⟩
   ·refine held_new (b := w.heap.size) (n := 0) hhd (vs ++ news) f4 ?_
    show _ ≤ upd G.lim w.heap.size ((len + n) * i.size) w.heap.size
    rw [zd, hlen]
    exact Nat.le_refl _
   ·cases ht'
    refine ⟨hu, fun b' hb' => ?_⟩
    have e1 : w.heap.size = b' := Option.some.inj ((zd G.tblk k (some w.heap.size)).symm.trans hb')
    subst e1
    have e2 : (G.moved k w.heap.size (len + n) (grownCap w (len + n) (G.cap k) e) ((len + n) * i.size)).tip k = len + n := zd _ _ _
    have e3 : (G.moved k w.heap.size (len + n) (grownCap w (len + n) (G.cap k) e) ((len + n) * i.size)).cap k = grownCap w (len + n) (G.cap k) e := zd _ _ _
    rw [e2, e3]
    exact ⟨Nat.le_refl _, fun _ => rfl⟩
theorem append_newrow {t tx ty e size bytes k : Nat} (hE : Elem P t e size bytes) (hI : Inv w0 base G st w) (hk : ¬ G.used k) (hkn : k < st.next) {cs ds : List AV} {a : Option Addr} {len cap n : Nat} {vs news : List Value} {x : Value}
  (hc : RepC G w cs vs) (hold : (Builtin.firstCells size len (.slice a len cap)).run P w.drew = .ok vs.toArray w.drew) (hcl : cs.length = len * size) (hs : Src P size tx x n news w) (hd : RepC G w ds news) (hg : cap < len + n) (hb : (len + n) * bytes ≤ big) (hb2 : len + n ≤ big) :
  ∃ v' w' G', (Builtin.append_ #[t, tx] ty #[.slice a len cap, x]).run P w = .ok v' w' ∧ Ext base G w G' w' ∧ (∀ o, G'.used o ↔ (o = k ∨ G.used o)) ∧
   Inv w0 base G' { st with objs := upd st.objs k (some (.row e size (cs ++ ds))) } w' ∧ Rep G' w' (.row k (len + n)) v' := by
 obtain ⟨i, z, hi, hz, rfl, rfl, hzs⟩ := hE.info
 have h63 : len + n ≤ maxLen := by simp only [big, maxLen] at *; omega
 have hvl : vs.length = len * i.size := (yw hc).trans hcl
 have hlen : (vs ++ news).length = (len + n) * i.size := by rw [List.length_append, hvl, hs.newsLen, Nat.add_mul]
 have hr := run_append_grow_src (P := P) w t tx ty e i z hE.und hi hz a len cap vs hold x n news hs hg (by simp only [maxLen] at h63; omega) (growslice_fits hg hb)
 obtain ⟨f1, f2, f3, f4⟩ := grown_facts (w := w) (e := e) (old := cap) (z := z) hzs hlen h63
 have hbel : Below w.heap.size w (w.drew.alloc (.cells ((vs ++ news).toArray ++ Builtin.zeroCells z.cells (grownCap w (len + n) cap e - (len + n))) e)) :=
  ((Below.refl _ w).drew).alloc (Nat.le_refl _) _
 have hhd := heap_alloc_new w.drew (.cells ((vs ++ news).toArray ++ Builtin.zeroCells z.cells (grownCap w (len + n) cap e - (len + n))) e)
 have he := ext_addObj hI hbel (k := k) (b := w.heap.size) (c := grownCap w (len + n) cap e) hk
 have hlim := (hI.fresh w.heap.size (Nat.le_refl _)).1
 have hrc : (G.addObj k w.heap.size (grownCap w (len + n) cap e)).rcap k = grownCap w (len + n) cap e := zd _ _ _
 have hinv := inv_addObj hI hbel (k := k) (b := w.heap.size) (c := grownCap w (len + n) cap e) hk hkn (Nat.le_refl _) (Array.getElem?_eq_some_iff.1 hhd).1 (.row e i.size (cs ++ ds))
  ⟨w.heap.size, _, zd _ _ _, zd _ _ _, hI.size, hlim, hhd, by
   have hl : (cs ++ ds).length = (vs ++ news).length := by rw [List.length_append, List.length_append, yw hc, yw hd]
   rw [hl, f4]
   exact wv (yd he _ _ hc) (yd he _ _ hd), by rw [hrc]; exact f3, by rw [hrc]; exact f2, hE.pos⟩
 refine ⟨_, _, _, hr, he, fun o => Iff.rfl, hinv, .inl rfl, _, _, rfl, f1, f2, hb2, fun b hb => ?_⟩
 have : w.heap.size = b := Option.some.inj ((zd G.blk k (some w.heap.size)).symm.trans hb)
 subst this
 exact ⟨rfl, hrc.symm⟩
def Gh.reown (G : Gh) (o k b : Nat) : Gh :=
 { G with used := fun p => p = k ∨ G.used p, blk := upd (upd G.blk o none) k (some b), tblk := upd G.tblk k none, rcap := upd G.rcap k (G.rcap o), own := upd G.own b (some k) }
theorem append_row {t tx ty e size bytes k o : Nat} (hE : Elem P t e size bytes) (hI : Inv w0 base G st w) (hk : ¬ G.used k) (hkn : k < st.next) {cs ds : List AV} {v x : Value} {len n : Nat} {news : List Value}
  (ho : st.objs o = some (.row e size cs)) (hv : Rep G w (.row o len) v) (hcl : len * size ≤ cs.length) (hs : Src P size tx x n news w) (hd : RepC G w ds news) (hn : 0 < n) (hb : (len + n) * bytes ≤ big) (hb2 : len + n ≤ big) :
  ∃ v' w' G', (Builtin.append_ #[t, tx] ty #[v, x]).run P w = .ok v' w' ∧ Ext base G w G' w' ∧ (∀ p, G'.used p ↔ (p = k ∨ G.used p)) ∧
   Inv w0 base G' { st with objs := upd (fun p => if p = o then none else st.objs p) k (some (.row e size (cs.take (len * size) ++ ds))) } w' ∧ Rep G' w' (.row k (len + n)) v' := by
 have h63 : len + n ≤ maxLen := by simp only [big, maxLen] at *; omega
 obtain ⟨hu, b, cur, hb1, hb3, hbase, hlim, hheap, hcs, hsz, hcm, hpos⟩ := hI.objs o _ ho
 obtain ⟨-, ad, c, rfl, h4, h5, h6, h7⟩ := hv
 obtain ⟨rfl, rfl⟩ := h7 b hb1
 obtain ⟨i, z, hi, hz, rfl, rfl, hzs⟩ := hE.info
 have hok : o ≠ k := fun e => hk (e ▸ hu)
 have hcut : RepC G w (cs.take (len * i.size)) (cur.toList.take (len * i.size)) := by
  have := repC_take (len * i.size) hcs
  rwa [List.take_take, Nat.min_eq_left hcl] at this
 have hcutl : (cs.take (len * i.size)).length = len * i.size := by rw [List.length_take]; omega
 have hvl : (cur.toList.take (len * i.size)).length = len * i.size := (yw hcut).trans hcutl
 by_cases hroom : len + n ≤ G.rcap o
 ·have hfit : len * i.size + news.length ≤ cur.size := by rw [hs.newsLen, hsz, ← Nat.add_mul]; exact Nat.mul_le_mul_right _ hroom
  have hr := run_append_room_src (P := P) w t tx ty e i hE.und hi b 0 len (G.rcap o) x n news hs hroom
   (fun j hj => by rw [cell_of_row w b _ cur e (0, 0) hheap]; simp; omega)
   (fun j hj => by simp [World.frozen?, hheap])
  rw [Nat.zero_add, uq b e (0, 0) news _ w cur hheap hfit] at hr
  have hW := wrote_setRow (cs := (cur.toList.take (len * i.size) ++ news ++ cur.toList.drop (len * i.size + news.length)).toArray) hheap
  have he : Ext base G w (G.reown o k b) (w.setRow b (cur.toList.take (len * i.size) ++ news ++ cur.toList.drop (len * i.size + news.length)).toArray) := by
   refine ⟨hW.below hbase, fun _ h => .inr h, fun p hp => ?_, fun t' ht' => ?_, fun p hp => ?_, fun b' off u g1 g2 => ⟨g1, ?_⟩⟩
   ·have hpk : p ≠ k := fun e => hk (e ▸ hp)
    show upd (upd G.blk o none) k (some b) p = _ ∨ upd (upd G.blk o none) k (some b) p = _
    rw [zl _ _ _ _ hpk]
    by_cases e1 : p = o
    ·subst e1; rw [zd]; exact .inr rfl
    ·rw [zl _ _ _ _ e1]; exact .inl rfl
   ·have htk : t' ≠ k := fun e => hk (e ▸ ht')
    exact .inl ⟨zl _ _ _ _ htk, rfl, rfl⟩
   ·have hpk : p ≠ k := fun e => hk (e ▸ hp)
    exact zl _ _ _ _ hpk
   ·have : b' ≠ b := fun e => by subst e; omega
    rw [← g2]
    exact World.cell?_of_block (w := w) (a := ⟨b', off, none⟩) (hW.other b' this)
  refine ⟨_, _, _, hr, he, fun p => Iff.rfl, ⟨hI.old.trans he.below, fun p hp => ?_, fun p y hy => ?_, fun b' hb' => ?_, by rw [hW.size]; exact hI.size⟩, .inl rfl, _, _, rfl, hroom, h5, hb2, fun b' hb' => ?_⟩
  ·rcases hp with rfl | hp
   ·exact hkn
   ·exact hI.scope p hp
  ·by_cases e1 : p = k
   ·subst e1
    simp only [zd, Option.some.injEq] at hy
    subst hy
    refine ⟨.inl rfl, b, _, zd _ _ _, zd _ _ _, hbase, hlim, hW.at_, ?_, ?_, ?_, hpos⟩
    ·have hl : (cs.take (len * i.size) ++ ds).length = (cur.toList.take (len * i.size) ++ news).length := by rw [List.length_append, List.length_append, yw hcut, yw hd]
     rw [hl, List.toList_toArray, List.take_left]
     exact wv (yd he _ _ hcut) (yd he _ _ hd)
    ·rw [show (G.reown o p b).rcap p = G.rcap o from zd _ _ _, ← hsz]
     simp only [List.size_toArray, List.length_append, List.length_drop, hvl, Array.length_toList]; omega
    ·rw [show (G.reown o p b).rcap p = G.rcap o from zd _ _ _]; exact hcm
   ·simp only [zl _ _ _ _ e1] at hy
    split at hy
    ·cases hy
    ·rename_i e2
     obtain ⟨g1, g2⟩ := hI.objs p y hy
     have hnb : ∀ b', G.own b' = some p → b' ≠ b := fun b' h1 h2 => by subst h2; rw [hb3] at h1; exact e2 (Option.some.inj h1).symm
     refine ⟨.inr g1, x6 he ⟨?_, zl _ _ _ _ e1, rfl, rfl, zl _ _ _ _ e1, fun b' _ ho' => ⟨zl _ _ _ _ (hnb b' ho'), rfl, hW.other b' (hnb b' ho')⟩⟩ g2⟩
     show upd (upd G.blk o none) k (some b) p = _
     rw [zl _ _ _ _ e1, zl _ _ _ _ e2]
  ·rw [hW.size] at hb'
   obtain ⟨g1, g2⟩ := hI.fresh b' hb'
   have := hI.own_lt hb3
   exact ⟨g1, (zl _ _ _ _ (by omega)).trans g2⟩
  ·have : b = b' := Option.some.inj ((zd (upd G.blk o none) k (some b)).symm.trans hb')
   subst this
   exact ⟨rfl, (show (G.reown o k b).rcap k = G.rcap o from zd _ _ _).symm⟩
 ·have hold : (Builtin.firstCells i.size len (.slice (some ⟨b, 0, none⟩) len (G.rcap o))).run P w.drew = .ok (cur.toList.take (len * i.size)).toArray w.drew := by
   refine run_firstCells_some w.drew i.size len ⟨b, 0, none⟩ len (G.rcap o) _ hvl (fun j u hj => ?_)
   rw [wd]
   show w.cell? ⟨b, 0 + j, none⟩ = _
   rw [cell_of_row w b _ cur e (0, 0) hheap]
   rw [List.getElem?_take] at hj
   split at hj
   ·simpa using hj
   ·cases hj
  obtain ⟨v', w', G', q1, q2, q3, q4, q5⟩ := append_newrow (ty := ty) hE hI hk hkn hcut hold hcutl hs hd (by omega) hb hb2
  refine ⟨v', w', G', q1, q2, q3, inv_forget q4 (fun p y hy => ?_) (Nat.le_refl _), q5⟩
  by_cases e1 : p = k
  ·subst e1; simpa only [zd] using hy
  ·simp only [zl _ _ _ _ e1] at hy ⊢
   split at hy
   ·cases hy
   ·exact hy
end
end
section
inductive Opd where
 | tmp (t : Nat)
 | lit (a : AV)
abbrev Env := Nat → AV
def Env.set (e : Env) (d : Nat) (a : AV) : Env := fun i => if i = d then a else e i
def Opd.ev (env : Env) : Opd → AV
 | .tmp t => env t
 | .lit a => a
def ofLeaf : Value → Option AV
 | .bool b => some (.bool b)
 | .int k n => some (.int k n)
 | .string s => if s.data.toList.length ≤ 9223372036854775807 then some (.str s.data.toList) else none
 | .pointer none => some .nilp
 | .slice none 0 0 => some (.sl [] 0 .full)
 | .map none => some .nilmap
 | .nilFunc => some .nilFunc
 | .nilIface => some .nilIface
 | _ => none
def ofConst : Value → Option AV
 | .agg cs => (cs.toList.mapM ofLeaf).map .agg
 | v => ofLeaf v
def resO : Operand → Option Opd
 | .tmp t => some (.tmp t)
 | .const v => (ofConst v).map .lit
 | .func f => some (.lit (.func (.func f) [] []))
 | .global _ => none
def AV.solid : AV → Bool
 | .undef | .tuple _ => false
 | _ => true
inductive Cv where
 | toInt (k : IntKind) | same | bytesStr
inductive BK where
 | int | str | bool | ptr | map
inductive PE where
 | mov (x : Opd)
 | pick (c a b : Opd)
 | bin (d : BK) (op : BinOp) (x y : Opd)
 | eqs (neg : Bool) (ks : List BK) (x y : Opd)
 | un (op : UnOp) (x : Opd)
 | nilck (x : Opd)
 | conv (c : Cv) (x : Opd)
 | build (zero : List AV) (parts : List (Nat × Nat × Opd))
 | lits (size : Nat) (xs : List Opd)
 | fld (off n : Nat) (agg : Bool) (x : Opd)
 | fldA (off : Nat) (x : Opd)
 | idxA (size : Nat) (x i : Opd)
 | idxArr (size len : Nat) (x i : Opd)
 | idxS (x i : Opd)
 | ext (x : Opd) (i : Nat)
 | mkI (t : TypeId) (x : Opd)
 | mkF (fn : Fn) (first cap : List Opd)
 | slcS (x : Opd) (lo hi : Option Opd)
 | slcL (size : Nat) (x : Opd) (lo hi : Option Opd)
 | lenS (x : Opd)
 | lenL (x : Opd)
 | lenM (x : Opd)
 | max2 (x y : Opd)
 | min2 (x y : Opd)
def setMany (cells : List AV) (off : Nat) (xs : List AV) : List AV := cells.take off ++ xs ++ cells.drop (off + xs.length)
def fillA (env : Env) : List AV → List (Nat × Nat × Opd) → Option (List AV)
 | cells, [] => some cells
 | cells, (off, n, x) :: rest =>
  if (x.ev env).solid ∧ (x.ev env).cells.length = n ∧ off + n ≤ cells.length then fillA env (setMany cells off (x.ev env).cells) rest else none
def litsA (env : Env) (size : Nat) : List Opd → Option (List AV)
 | [] => some []
 | x :: rest => if (x.ev env).solid ∧ (x.ev env).cells.length = size then (litsA env size rest).map ((x.ev env).cells ++ ·) else none
def intA (op : BinOp) (k : IntKind) (a b : Int) : Option AV :=
 match op with
 | .add => some (.int k (k.wrap (a + b)))
 | .sub => some (.int k (k.wrap (a - b)))
 | .mul => some (.int k (k.wrap (a * b)))
 | .quo => if b = 0 then none else some (.int k (k.wrap (a.tdiv b)))
 | .rem => if b = 0 then none else some (.int k (a.tmod b))
 | .and => some (.int k (k.wrap (BitVec.ofInt k.bits a &&& BitVec.ofInt k.bits b).toNat))
 | .or => some (.int k (k.wrap (BitVec.ofInt k.bits a ||| BitVec.ofInt k.bits b).toNat))
 | .xor => some (.int k (k.wrap (BitVec.ofInt k.bits a ^^^ BitVec.ofInt k.bits b).toNat))
 | .andNot => some (.int k (k.wrap (BitVec.ofInt k.bits a &&& ~~~ BitVec.ofInt k.bits b).toNat))
 | .eql => some (.bool (a == b))
 | .neq => some (.bool (a != b))
 | .lss => some (.bool (decide (a < b)))
 | .leq => some (.bool (decide (a ≤ b)))
 | .gtr => some (.bool (decide (a > b)))
 | .geq => some (.bool (decide (a ≥ b)))
 | _ => none
def strA (op : BinOp) (x y : List UInt8) : Option AV :=
 match op with
 | .add => if x.length + y.length ≤ 9223372036854775807 then some (.str (x ++ y)) else none
 | .eql => some (.bool (x == y))
 | .neq => some (.bool !(x == y))
 | .lss => some (.bool (Op.bytesLess x y))
 | _ => none
def eqA (op : BinOp) (b : Bool) : Option AV := if op = .eql then some (.bool b) else if op = .neq then some (.bool !b) else none
def binA (d : BK) (op : BinOp) (x y : AV) : Option AV :=
 match d, x, y with
 | .int, .int k a, .int k' b =>
  if op = .shl then (if b < 0 then none else some (.int k (k.wrap (a * 2 ^ (min b.toNat k.bits)))))
  else if op = .shr then (if b < 0 then none else some (.int k (a.fdiv (2 ^ (min b.toNat k.bits)))))
  else if k = k' then intA op k a b else none
 | .str, .str a, .str b => strA op a b
 | .bool, .bool a, .bool b => eqA op (a == b)
 | .ptr, .nilp, .nilp | .map, .nilmap, .nilmap => eqA op true
 | .ptr, .ptr _ _, .nilp | .ptr, .iptr _ _, .nilp | .map, .map _, .nilmap => eqA op false
 | _, _, _ => none
def leafEq : BK → AV → AV → Option Bool
 | .int, .int k a, .int k' b => if k = k' then some (a == b) else none
 | .str, .str a, .str b => some (a == b)
 | .bool, .bool a, .bool b => some (a == b)
 | _, _, _ => none
def leavesEq : List BK → List AV → List AV → Option Bool
 | [], [], [] => some true
 | k :: ks, x :: xs, y :: ys =>
  match leafEq k x y, leavesEq ks xs ys with
  | some b, some r => some (b && r)
  | _, _ => none
 | _, _, _ => none
def unA (op : UnOp) : AV → Option AV
 | .int k n => match op with
  | .neg => some (.int k (k.wrap (0 - n)))
  | .xor => some (.int k (k.wrap (BitVec.ofInt k.bits (if k.signed then -1 else k.max) ^^^ BitVec.ofInt k.bits n).toNat))
  | _ => none
 | .bool b => match op with
  | .not => some (.bool !b)
  | _ => none
 | _ => none
def bytesA : List AV → Option (List UInt8)
 | [] => some []
 | .int .u8 n :: r => (bytesA r).map (UInt8.ofNat n.toNat :: ·)
 | _ => none
def cvA : Cv → AV → Option AV
 | .toInt k, .int _ n => some (.int k (k.wrap n))
 | .same, .str s => some (.str s)
 | .bytesStr, .sl cs len _ => if cs.length = len then (bytesA cs).map .str else none
 | _, _ => none
def boundA (env : Env) (d : Nat) : Option Opd → Option Nat
 | none => some d
 | some x => match x.ev env with
  | .int _ i => if 0 ≤ i then some i.toNat else none
  | _ => none
def PE.eval (env : Env) : PE → Option AV
 | .mov x => some (x.ev env)
 | .pick c a b => match c.ev env with
  | .bool t => some (if t then a.ev env else b.ev env)
  | _ => none
 | .bin d op x y => binA d op (x.ev env) (y.ev env)
 | .eqs neg ks x y => match x.ev env, y.ev env with
  | .agg xs, .agg ys => (leavesEq ks xs ys).map fun b => .bool (if neg then !b else b)
  | _, _ => none
 | .un op x => unA op (x.ev env)
 | .nilck x => match x.ev env with
  | .ptr o f => some (.ptr o f)
  | .iptr cs f => some (.iptr cs f)
  | .func (.func f) a b => some (.func (.func f) a b)
  | _ => none
 | .conv c x => cvA c (x.ev env)
 | .build zero parts => (fillA env zero parts).map .agg
 | .lits size xs => (litsA env size xs).map fun cs => .sl cs xs.length .full
 | .fld off n agg x => match x.ev env with
  | .agg cs => if agg then (if off + n ≤ cs.length then some (.agg ((cs.drop off).take n)) else none) else cs[off]?
  | _ => none
 | .fldA off x => match x.ev env with
  | .ptr o f => some (.ptr o (f + off))
  | .iptr cs f => some (.iptr cs (f + off))
  | _ => none
 | .idxA size x i => match x.ev env, i.ev env with
  | .sl cs m _, .int _ j => if 0 ≤ j ∧ j < m then some (.iptr cs (j.toNat * size)) else none
  | .row o m, .int _ j => if 0 ≤ j ∧ j < m then some (.ptr o (j.toNat * size)) else none
  | _, _ => none
 | .idxArr size n x i => match x.ev env, i.ev env with
  | .ptr o f, .int _ j => if 0 ≤ j ∧ j < n then some (.ptr o (f + j.toNat * size)) else none
  | .iptr cs f, .int _ j => if 0 ≤ j ∧ j < n then some (.iptr cs (f + j.toNat * size)) else none
  | _, _ => none
 | .idxS x i => match x.ev env, i.ev env with
  | .str s, .int _ j => if 0 ≤ j then (s[j.toNat]?).map fun b => .int .u8 b.toNat else none
  | _, _ => none
 | .ext x i => match x.ev env with
  | .tuple vs => vs[i]?
  | _ => none
 | .mkI t x => some (.iface t (x.ev env))
 | .mkF fn first cap => some (.func fn (first.map (·.ev env)) (cap.map (·.ev env)))
 | .slcS x lo hi => match x.ev env with
  | .str s => match boundA env 0 lo, boundA env s.length hi with
   | some l, some h => if l ≤ h ∧ h ≤ s.length then some (.str ((s.take h).drop l)) else none
   | _, _ => none
  | _ => none
 | .slcL size x lo hi => match x.ev env with
  | .sl cs m p => match boundA env 0 lo, boundA env m hi with
   | some l, some h => if l ≤ h ∧ h ≤ m ∧ cs.length = m * size then
     some (.sl ((cs.drop (l * size)).take ((h - l) * size)) (h - l) (if h = m then (if p = .full then .full else if l = 0 then p else .no) else .no)) else none
   | _, _ => none
  | .row o m => match boundA env 0 lo, boundA env m hi with
   | some 0, some h => if h ≤ m then some (.row o h) else none
   | _, _ => none
  | _ => none
 | .lenS x => match x.ev env with
  | .str s => some (.int .i64 s.length)
  | _ => none
 | .lenL x => match x.ev env with
  | .sl _ n _ => some (.int .i64 n)
  | .row _ n => some (.int .i64 n)
  | _ => none
 | .lenM x => match x.ev env with
  | .nilmap => some (.int .i64 0)
  | _ => none
 | .max2 x y => match x.ev env, y.ev env with
  | .int k a, .int _ b => some (.int k (if b > a then b else a))
  | _, _ => none
 | .min2 x y => match x.ev env, y.ev env with
  | .int k a, .int _ b => some (.int k (if b < a then b else a))
  | _, _ => none
def sizeT (P : Program) (t : TypeId) : Option Nat := (P.info? t).map (·.size)
def aggT (P : Program) (t : TypeId) : Bool := match P.underlying t with
 | some (.struct _) | some (.array _ _) => true
 | _ => false
def zeroT (P : Program) (t : TypeId) : Option AV := ((P.info? t).bind (·.zero)).bind ofConst
def plainFields (P : Program) : Nat → List Field → Option (List BK)
 | _, [] => some []
 | i, f :: r => if f.offset = i ∧ f.name ≠ "_" then
   match P.underlying f.type, plainFields P (i + 1) r with
   | some (.int _), some ks => some (.int :: ks)
   | some .string, some ks => some (.str :: ks)
   | some .bool, some ks => some (.bool :: ks)
   | _, _ => none
  else none
def resParts (P : Program) (fields : Array Field) : List (Nat × Operand) → Option (List (Nat × Nat × Opd))
 | [] => some []
 | (i, x) :: r => do
  let f ← fields[i]?
  let n ← sizeT P f.type
  let x ← resO x
  let r ← resParts P fields r
  pure ((f.offset, n, x) :: r)
def resLits : Nat → List (Nat × Operand) → Option (List Opd)
 | _, [] => some []
 | k, (i, x) :: r => if i = k then do
   let x ← resO x
   let r ← resLits (k + 1) r
   pure (x :: r)
  else none
def resOs : List Operand → Option (List Opd)
 | [] => some []
 | x :: r => do
  let x ← resO x
  let r ← resOs r
  pure (x :: r)
def resOO : Option Operand → Option (Option Opd)
 | none => some none
 | some x => (resO x).map some
def resB (P : Program) (b : Builtin) (args : List Operand) (tys : List TypeId) : Option PE :=
 match b with
 | .len => match args, tys with
  | [x], [t] => match resO x, P.underlying t with
   | some x, some .string => some (.lenS x)
   | some x, some (.slice _) => some (.lenL x)
   | some x, some (.map _ _) => some (.lenM x)
   | _, _ => none
  | _, _ => none
 | .max => match args with
  | [x, y] => match resO x, resO y with
   | some x, some y => some (.max2 x y)
   | _, _ => none
  | _ => none
 | .min => match args with
  | [x, y] => match resO x, resO y with
   | some x, some y => some (.min2 x y)
   | _, _ => none
  | _ => none
 | _ => none
def resPE (P : Program) : Op → Option PE
 | .move x | .assign x => (resO x).map .mov
 | .pick c a b => do pure (.pick (← resO c) (← resO a) (← resO b))
 | .nilCheck x => (resO x).map .nilck
 | .binOp op t x y _ => do
  let x ← resO x
  let y ← resO y
  match P.underlying t with
  | some (.struct fs) =>
   match plainFields P 0 fs.toList with
   | some ks => if (op = .eql ∨ op = .neq) ∧ !P.stoodInHeld t ∧ !P.eqGuardType P.depth t then pure (.eqs (op = .neq) ks x y) else none
   | none => none
  | some (.int _) => pure (.bin .int op x y)
  | some .string => pure (.bin .str op x y)
  | some .bool => pure (.bin .bool op x y)
  | some (.pointer _) => pure (.bin .ptr op x y)
  | some (.map _ _) => pure (.bin .map op x y)
  | _ => none
 | .unOp op _ x => do pure (.un op (← resO x))
 | .convert src dst x => do
  let x ← resO x
  match P.underlying src, P.underlying dst with
  | some _, some (.int k) => pure (.conv (.toInt k) x)
  | some .string, some .string => pure (.conv .same x)
  | some (.slice e), some .string => if (match P.underlying e with | some (.int .u8) => true | _ => false) then pure (.conv .bytesStr x) else none
  | _, _ => none
 | .build t parts => do
  let .agg z ← zeroT P t | none
  let some (.struct fields) := P.underlying t | none
  let rs ← resParts P fields parts.toList
  if (fields.toList.mapM fun f => (P.info? f.type).map fun i => (f.offset, i.size)).isSome then pure (.build z rs) else none
 | .buildSlice t len parts => do
  let some (.slice e) := P.underlying t | none
  let n ← sizeT P e
  let xs ← resLits 0 parts.toList
  if n = 0 ∨ len * n > 2 ^ 24 ∨ xs.length ≠ len ∨ (zeroT P e).isNone then none else pure (.lits n xs)
 | .field t x f => do
  let x ← resO x
  let some (.struct fields) := P.underlying t | none
  let f ← fields[f]?
  let n ← sizeT P f.type
  if (P.underlying f.type).isSome then pure (.fld f.offset n (aggT P f.type) x) else none
 | .fieldAddr t x f => do
  let x ← resO x
  let some (.struct fields) := P.underlying t | none
  let f ← fields[f]?
  let n ← sizeT P f.type
  if n = 0 then none else pure (.fldA f.offset x)
 | .indexAddr t x i => do
  let x ← resO x
  let i ← resO i
  match P.underlying t with
  | some (.slice e) => pure (.idxA (← sizeT P e) x i)
  | some (.array n e) => pure (.idxArr (← sizeT P e) n x i)
  | _ => none
 | .index t x i => do
  let x ← resO x
  let i ← resO i
  match P.underlying t with
  | some .string => pure (.idxS x i)
  | _ => none
 | .extract x i => do pure (.ext (← resO x) i)
 | .makeInterface t x => do
  let x ← resO x
  match P.underlying t with
  | some (.interface _) | none => none
  | _ => pure (.mkI t x)
 | .makeFunc fn first cap => do pure (.mkF fn (← resOs first.toList) (← resOs cap.toList))
 | .slice t x lo hi none => do
  let x ← resO x
  let lo ← resOO lo
  let hi ← resOO hi
  match P.underlying t with
  | some .string => pure (.slcS x lo hi)
  | some (.slice e) => pure (.slcL (← sizeT P e) x lo hi)
  | _ => none
 | .call c => match c.callee with
  | .builtin b => resB P b c.args.toList c.argTypes.toList
  | _ => none
 | _ => none
end
section
def RepEnv (G : Gh) (w : World) (env : Env) (a : Act) : Prop := ∀ i, Rep G w (env i) (a.tmps.getD i undef)
theorem ofLeaf_sound {v : Value} {av : AV} (h : ofLeaf v = some av) (G : Gh) (w : World) : Rep G w av v ∧ v.oneCell' = true := by
  unfold ofLeaf at h
  split at h <;> first
    | (cases h; exact ⟨rfl, rfl⟩)
    | (split at h
       · rename_i hs; cases h; exact ⟨⟨rfl, hs⟩, rfl⟩
       · cases h)
    | (cases h; refine ⟨⟨[], none, 0, rfl, .inl rfl, rfl, Nat.le_refl _, by simp [maxLen], by simp [big], by simp, fun t ht => (by cases ht), fun h => absurd h (by simp)⟩, rfl⟩)
    | cases h
theorem ofLeaves_sound : ∀ (vs : List Value) (cs : List AV), vs.mapM ofLeaf = some cs → ∀ (G : Gh) (w : World), RepC G w cs vs
 | [], cs, h, G, w => by simp at h; subst h; rfl
 | v :: vs, cs, h, G, w => by
  simp only [List.mapM_cons, Option.pure_def, Option.bind_eq_bind, Option.bind_eq_some_iff] at h
  obtain ⟨c, hc, cs', hcs, e⟩ := h
  cases e
  obtain ⟨h1, h2⟩ := ofLeaf_sound hc G w
  exact ⟨v, vs, rfl, h2, h1, ofLeaves_sound vs cs' hcs G w⟩
theorem ofConst_sound {v : Value} {av : AV} (h : ofConst v = some av) (G : Gh) (w : World) : Rep G w av v := by
 unfold ofConst at h
 split at h
 ·rename_i cs
  obtain ⟨l, hl, rfl⟩ := Option.map_eq_some_iff.1 h
  exact ⟨cs.toList, by simp, ofLeaves_sound _ _ hl G w⟩
 ·exact (ofLeaf_sound h G w).1
section
variable {P : Program} {w0 : World} {base : Nat} {G : Gh} {st : St} {w : World} {env : Env} {a : Act}
theorem ze (hR : RepEnv G w env a) {x : Operand} {o : Opd} (h : resO x = some o) : Rep G w (o.ev env) (a.eval x) := by
 cases x with
 | tmp t => cases h; exact hR t
 | const v =>
  obtain ⟨av, hv, rfl⟩ := Option.map_eq_some_iff.1 h
  exact ofConst_sound hv G w
 | global g => cases h
 | func f => cases h; exact ⟨[], [], rfl, rfl, rfl⟩
theorem ui (hR : RepEnv G w env a) : ∀ {xs : List Operand} {os : List Opd}, resOs xs = some os → RepL G w (os.map (·.ev env)) (xs.map a.eval)
 | [], os, h => by cases h; rfl
 | x :: xs, os, h => by
  simp only [resOs, Option.pure_def, Option.bind_eq_bind, Option.bind_eq_some_iff] at h
  obtain ⟨o, ho, os', hos, e⟩ := h
  cases e
  exact ⟨_, _, rfl, ze hR ho, ui hR hos⟩
theorem solid_cells {x : AV} {v : Value} (hs : x.solid = true) (h : Rep G w x v) : RepC G w x.cells v.cells.toList := by
 cases x with
 | undef => cases hs
 | tuple vs => cases hs
 | agg cs => obtain ⟨vs, rfl, h1⟩ := h; simpa [AV.cells, Value.cells] using h1
 | _ =>
  have hv : v.oneCell' = true ∧ v.cells = #[v] := by
   first
    | (simp only [Rep] at h; subst h; exact ⟨rfl, rfl⟩)
    | (obtain ⟨rfl, _⟩ := h; exact ⟨rfl, rfl⟩)
    | (obtain ⟨_, a, rfl, _⟩ := h; exact ⟨rfl, rfl⟩)
    | (obtain ⟨_, a, c, rfl, _⟩ := h; exact ⟨rfl, rfl⟩)
    | (obtain ⟨vs, ad, _, _, rfl⟩ := h; exact ⟨rfl, rfl⟩)
    | (obtain ⟨vs, a, cap, _, _, rfl, _⟩ := h; exact ⟨rfl, rfl⟩)
    | (obtain ⟨a, b, rfl, _⟩ := h; exact ⟨rfl, rfl⟩)
    | (obtain ⟨u, rfl, _⟩ := h; exact ⟨rfl, rfl⟩)
  rw [hv.2]
  exact ⟨v, [], rfl, hv.1, h, rfl⟩
def Worth (P : Program) (w0 : World) (base : Nat) (G : Gh) (st st' : St) (w : World) (s : Sem Next) (av : AV) : Prop :=
 ∃ v w' G', (s.run P w = .ok (.value v) w' ∨ (s.run P w = .ok .skip w' ∧ v = undef)) ∧ Ext base G w G' w' ∧ (∀ k, G'.used k → G.used k) ∧ Inv w0 base G' st' w' ∧ Rep G' w' av v
theorem xi (hI : Inv w0 base G st w) {s : Sem Next} {av : AV} {v : Value} (h : s.run P w = .ok (.value v) w) (hr : Rep G w av v) : Worth P w0 base G st st w s av :=
 ⟨v, w, G, .inl h, Ext.refl _ _ _, fun _ h => h, hI, hr⟩
theorem xh (hI : Inv w0 base G st w) {s : Sem Value} {av : AV} {v : Value} (h : s.run P w = .ok v w) (hr : Rep G w av v) :
  Worth P w0 base G st st w (do pure (.value (← s))) av :=
 xi hI (v := v) (by simp only [Sem.run_bind, h, Result.andThen_ok, Sem.run_pure]) hr
theorem run_intA {op : BinOp} {k : IntKind} {x y : Int} {av : AV} (h : intA op k x y = some av) (h1 : op ≠ .shl) (h2 : op ≠ .shr) (t : TypeId) :
    ∃ v, (binOp op t (.int k x) (.int k y)).run P w = .ok v w ∧ Rep G w av v := by
  cases op <;> simp only [intA] at h <;> first
    | exact absurd rfl h1
    | exact absurd rfl h2
    | (cases h; exact ⟨_, by simp [binOp, Op.intArith, Op.intBits, Op.intCmp] <;> rfl, rfl⟩)
    | (split at h
       · cases h
       · rename_i hne; cases h; exact ⟨_, by simp [binOp, Op.intDiv, hne] <;> rfl, rfl⟩)
theorem ba_toList (x : List UInt8) : (⟨⟨x⟩⟩ : ByteArray).toList = x := by rw [ByteArray.toList_eq]
theorem ba_size (x : List UInt8) : (⟨⟨x⟩⟩ : ByteArray).size = x.length := rfl
theorem ba_append (x y : List UInt8) : (⟨⟨x⟩⟩ : ByteArray) ++ ⟨⟨y⟩⟩ = ⟨⟨x ++ y⟩⟩ := by
 apply ByteArray.ext
 simp [ByteArray.data_append]
theorem ba_extract (x : List UInt8) (l h : Nat) : (⟨⟨x⟩⟩ : ByteArray).extract l h = ⟨⟨(x.take h).drop l⟩⟩ := by
 apply ByteArray.ext
 simp [ByteArray.data_extract, List.extract_eq_take_drop, List.drop_take]
theorem run_strA {op : BinOp} {x y : List UInt8} {av : AV} (h : strA op x y = some av) (t : TypeId) :
    ∃ v, (binOp op t (.string ⟨⟨x⟩⟩) (.string ⟨⟨y⟩⟩)).run P w = .ok v w ∧ Rep G w av v := by
  cases op <;> simp only [strA] at h <;> first
    | (cases h; exact ⟨_, by simp [binOp, Op.stringOp, ba_toList] <;> rfl, rfl⟩)
    | (split at h
       · rename_i hle
         cases h
         refine ⟨.string ⟨⟨x ++ y⟩⟩, ?_, rfl, by simpa using hle⟩
         have : ¬ (9223372036854775807 : Int) < (x.length : Int) + (y.length : Int) := by omega
         simp [binOp, Op.stringOp, ba_size, ba_append, this]
       · cases h)
    | cases h
theorem ww {op : BinOp} {t : TypeId} {x y : Operand} {u v : Value} (h1 : u ≠ .nilIface) (h2 : ∀ cs, u ≠ .agg cs) : eqGuard op t x y u v = pure () := by
 cases op <;> cases u <;> first | rfl | exact absurd rfl h1 | exact absurd rfl (h2 _)
def BK.fits : BK → TypeDesc → Prop
 | .int, .int _ | .str, .string | .bool, .bool | .ptr, .pointer _ | .map, .map _ _ => True
 | _, _ => False
theorem run_eqA {op : BinOp} {b : Bool} {av : AV} {u v : Value} {t : TypeId} (h : eqA op b = some av) (he : (Op.equal t u v).run P w = .ok b w)
  (h1 : binOp .eql t u v = (do pure (.bool (← Op.equal t u v)))) (h2 : binOp .neq t u v = (do pure (.bool (!(← Op.equal t u v))))) :
  ∃ r, (binOp op t u v).run P w = .ok r w ∧ Rep G w av r := by
 unfold eqA at h
 split at h
 ·rename_i e; subst e; cases h; exact ⟨.bool b, by rw [h1]; simp [he], rfl⟩
 ·split at h
  ·rename_i e; subst e; cases h; exact ⟨.bool !b, by rw [h2]; simp [he], rfl⟩
  ·cases h
theorem equalIn_bool (n : Nat) {t : TypeId} (ht : P.underlying t = some .bool) (a b : Bool) (w : World) : (Op.equalIn (n + 1) t (.bool a) (.bool b)).run P w = .ok (a == b) w := by
 simp [Op.equalIn, run_underlying ht]
theorem equalIn_nilp (n : Nat) {t e : TypeId} (ht : P.underlying t = some (.pointer e)) (b : Option Addr) (w : World) : (Op.equalIn (n + 1) t (.pointer none) (.pointer b)).run P w = .ok b.isNone w := by
 simp [Op.equalIn, run_underlying ht]
theorem equalIn_pnil (n : Nat) {t e : TypeId} (ht : P.underlying t = some (.pointer e)) (b : Addr) (w : World) : (Op.equalIn (n + 1) t (.pointer (some b)) (.pointer none)).run P w = .ok false w := by
 simp [Op.equalIn, run_underlying ht]
theorem equalIn_nilm (n : Nat) {t k e : TypeId} (ht : P.underlying t = some (.map k e)) (b : Option Nat) (w : World) : (Op.equalIn (n + 1) t (.map none) (.map b)).run P w = .ok b.isNone w := by
 simp [Op.equalIn, run_underlying ht]
theorem equalIn_mnil (n : Nat) {t k e : TypeId} (ht : P.underlying t = some (.map k e)) (b : Nat) (w : World) : (Op.equalIn (n + 1) t (.map (some b)) (.map none)).run P w = .ok false w := by
 simp [Op.equalIn, run_underlying ht]
theorem run_binA {k : BK} {op : BinOp} {x y : AV} {av : AV} {u v : Value} (h : binA k op x y = some av) (hx : Rep G w x u) (hy : Rep G w y v) {t : TypeId} {d : TypeDesc} (ht : P.underlying t = some d)
  (hd : k.fits d) (ox oy : Operand) :
  ∃ r, (do eqGuard op t ox oy u v; binOp op t u v : Sem Value).run P w = .ok r w ∧ Rep G w av r := by
 have heq : Op.equal t u v = Op.equalIn (9999 + 1) t u v := rfl
 unfold binA at h
 split at h
 ·-- ints
  rename_i ka a kb b
  simp only [Rep] at hx hy
  subst hx; subst hy
  rw [ww (by simp) (by simp)]
  simp only [Sem.run_bind, Sem.run_pure, Result.andThen_ok]
  split at h
  ·rename_i e; subst e
   split at h
   ·cases h
   ·rename_i hb; cases h; exact ⟨_, by simp [binOp, Op.shift, hb] <;> rfl, rfl⟩
  ·split at h
   ·rename_i e; subst e
    split at h
    ·cases h
    ·rename_i hb; cases h; exact ⟨_, by simp [binOp, Op.shift, hb] <;> rfl, rfl⟩
   ·split at h
    ·rename_i e; subst e; exact run_intA h ‹_› ‹_› t
    ·cases h
 ·rename_i a b
  obtain ⟨rfl, _⟩ := hx
  obtain ⟨rfl, _⟩ := hy
  rw [ww (by simp) (by simp)]
  simp only [Sem.run_bind, Sem.run_pure, Result.andThen_ok]
  exact run_strA h t
 ·rename_i a b
  simp only [Rep] at hx hy
  subst hx; subst hy
  rw [ww (by simp) (by simp)]
  simp only [Sem.run_bind, Sem.run_pure, Result.andThen_ok]
  cases d <;> simp only [BK.fits] at hd
  exact run_eqA h (by rw [heq]; exact equalIn_bool 9999 ht _ _ w) rfl rfl
 ·simp only [Rep] at hx hy
  subst hx; subst hy
  rw [ww (by simp) (by simp)]
  simp only [Sem.run_bind, Sem.run_pure, Result.andThen_ok]
  cases d <;> simp only [BK.fits] at hd
  exact run_eqA h (by rw [heq]; exact equalIn_nilp 9999 ht _ w) rfl rfl
 ·simp only [Rep] at hx hy
  subst hx; subst hy
  rw [ww (by simp) (by simp)]
  simp only [Sem.run_bind, Sem.run_pure, Result.andThen_ok]
  cases d <;> simp only [BK.fits] at hd
  exact run_eqA h (by rw [heq]; exact equalIn_nilm 9999 ht _ w) rfl rfl
 ·obtain ⟨_, ad, rfl, _⟩ := hx
  simp only [Rep] at hy
  subst hy
  rw [ww (by simp) (by simp)]
  simp only [Sem.run_bind, Sem.run_pure, Result.andThen_ok]
  cases d <;> simp only [BK.fits] at hd
  exact run_eqA h (by rw [heq]; exact equalIn_pnil 9999 ht _ w) rfl rfl
 ·obtain ⟨_, ad, _, _, rfl⟩ := hx
  simp only [Rep] at hy
  subst hy
  rw [ww (by simp) (by simp)]
  simp only [Sem.run_bind, Sem.run_pure, Result.andThen_ok]
  cases d <;> simp only [BK.fits] at hd
  exact run_eqA h (by rw [heq]; exact equalIn_pnil 9999 ht _ w) rfl rfl
 ·obtain ⟨_, ad, rfl, _⟩ := hx
  simp only [Rep] at hy
  subst hy
  rw [ww (by simp) (by simp)]
  simp only [Sem.run_bind, Sem.run_pure, Result.andThen_ok]
  cases d <;> simp only [BK.fits] at hd
  exact run_eqA h (by rw [heq]; exact equalIn_mnil 9999 ht _ w) rfl rfl
 ·cases h
end
end
section
section
variable {P : Program} {w0 : World} {base : Nat} {G : Gh} {st : St} {w : World} {env : Env} {a : Act}
theorem part_leaf {t : TypeId} {cs : Array Value} {off : Nat} {v : Value} (ht : ∃ d, P.underlying t = some d ∧ (∀ fs, d ≠ .struct fs) ∧ (∀ n e, d ≠ .array n e)) (h : cs[off]? = some v) (w : World) : (part t cs off).run P w = .ok v w := by
 obtain ⟨d, hd, h1, h2⟩ := ht
 cases d <;> first
  | exact absurd rfl (h1 _)
  | exact absurd rfl (h2 _ _)
  | simp [part, isAgg, run_underlying hd, h]
def BK.desc : BK → TypeDesc → Prop
 | .int, d => ∃ k, d = .int k
 | .str, d => d = .string
 | .bool, d => d = .bool
 | _, _ => False
theorem run_leafEq {k : BK} {x y : AV} {u v : Value} {b : Bool} (h : leafEq k x y = some b) (hx : Rep G w x u) (hy : Rep G w y v) {t : TypeId} {d : TypeDesc} (ht : P.underlying t = some d) (hd : k.desc d) (n : Nat) :
  (Op.equalIn (n + 1) t u v).run P w = .ok b w := by
 unfold leafEq at h
 split at h
 ·simp only [Rep] at hx hy
  subst hx; subst hy
  obtain ⟨k, rfl⟩ := hd
  split at h
  ·rename_i e; subst e; cases h; simp [Op.equalIn, run_underlying ht]
  ·cases h
 ·obtain ⟨rfl, _⟩ := hx
  obtain ⟨rfl, _⟩ := hy
  cases hd; cases h
  simp [Op.equalIn, run_underlying ht, beq_toListBytes, ba_toList]
 ·simp only [Rep] at hx hy
  subst hx; subst hy
  cases hd; cases h
  simp [Op.equalIn, run_underlying ht]
 ·cases h
theorem run_eqFields : ∀ (fs : List Field) (i : Nat) (ks : List BK) (xs ys : List AV) (us vs : List Value) (b : Bool) (d : Nat), plainFields P i fs = some ks → RepC G w xs us → RepC G w ys vs → leavesEq ks xs ys = some b →
  ∀ (us0 vs0 : Array Value), (∀ j u, us[j]? = some u → us0[i + j]? = some u) → (∀ j u, vs[j]? = some u → vs0[i + j]? = some u) →
  (Op.eqFields (d + 1) us0 vs0 fs).run P w = .ok b w
 | [], i, ks, xs, ys, us, vs, b, d, hp, hx, hy, h, us0, vs0, _, _ => by
  simp only [plainFields, Option.some.injEq] at hp
  subst hp
  cases xs <;> cases ys <;> simp [leavesEq] at h
  subst h; simp [Op.eqFields]
 | f :: fs, i, ks, xs, ys, us, vs, b, d, hp, hx, hy, h, us0, vs0, h1, h2 => by
  simp only [plainFields] at hp
  split at hp
  ·rename_i hon
   obtain ⟨hoff, hname⟩ := hon
   have key : ∃ k ks' d0, ks = k :: ks' ∧ plainFields P (i + 1) fs = some ks' ∧ P.underlying f.type = some d0 ∧ k.desc d0 ∧ (∀ fs, d0 ≠ .struct fs) ∧ (∀ n e, d0 ≠ .array n e) := by
    split at hp <;> first
     | (cases hp; exact ⟨_, _, _, rfl, ‹_›, ‹_›, ⟨_, rfl⟩, by simp, by simp⟩)
     | (cases hp; exact ⟨_, _, _, rfl, ‹_›, ‹_›, rfl, by simp, by simp⟩)
     | cases hp
   obtain ⟨k, ks', d0, rfl, hrest, hty, hkd, hn1, hn2⟩ := key
   cases xs with
   | nil => simp [leavesEq] at h
   | cons x xs =>
    cases ys with
    | nil => simp [leavesEq] at h
    | cons y ys =>
     obtain ⟨u, us, rfl, _, hu, hus⟩ := hx
     obtain ⟨v, vs, rfl, _, hv, hvs⟩ := hy
     simp only [leavesEq] at h
     split at h
     ·rename_i b1 b2 hb1 hb2
      cases h
      have e1 : us0[i]? = some u := h1 0 u rfl
      have e2 : vs0[i]? = some v := h2 0 v rfl
      have hpart : ∃ d, P.underlying f.type = some d ∧ (∀ fs, d ≠ .struct fs) ∧ (∀ n e, d ≠ .array n e) := ⟨_, hty, hn1, hn2⟩
      have hq := run_leafEq hb1 hu hv hty hkd d
      have ih := run_eqFields fs (i + 1) ks' xs ys us vs b2 d hrest hus hvs hb2 us0 vs0
       (fun j u' hj => by have := h1 (j + 1) u' hj; rwa [show i + 1 + j = i + (j + 1) from by omega]) (fun j u' hj => by have := h2 (j + 1) u' hj; rwa [show i + 1 + j = i + (j + 1) from by omega])
      rw [Op.eqFields, if_pos hname]
      simp only [Sem.run_bind, hoff, part_leaf hpart e1, part_leaf hpart e2, hq, Result.andThen_ok]
      cases b1
      ·simp
      ·simpa using ih
     ·cases h
  ·cases hp
theorem run_eqs {t : TypeId} {fs : Array Field} {ks : List BK} {xs ys : List AV} {us vs : List Value} {b : Bool} (ht : P.underlying t = some (.struct fs)) (hp : plainFields P 0 fs.toList = some ks) (h1 : P.stoodInHeld t = false) (h2 : P.eqGuardType P.depth t = false)
  (hx : RepC G w xs us) (hy : RepC G w ys vs) (h : leavesEq ks xs ys = some b) (op : BinOp) (hop : op = .eql ∨ op = .neq) (ox oy : Operand) :
  (do eqGuard op t ox oy (.agg ⟨us⟩) (.agg ⟨vs⟩); binOp op t (.agg ⟨us⟩) (.agg ⟨vs⟩) : Sem Value).run P w = .ok (.bool (if decide (op = .neq) then !b else b)) w := by
 have hf : P.fieldsOf t = fs := by simp [Program.fieldsOf, ht]
 have hq : (Op.equalIn 10000 t (.agg ⟨us⟩) (.agg ⟨vs⟩)).run P w = .ok b w := by
  rw [show (10000 : Nat) = 9999 + 1 from rfl, run_equalIn_struct w 9999 t ⟨us⟩ ⟨vs⟩ (by rw [hf]; exact ht) h1, hf]
  exact run_eqFields fs.toList 0 ks xs ys us vs b 9998 hp hx hy h ⟨us⟩ ⟨vs⟩ (fun j u hj => by simpa using hj) (fun j u hj => by simpa using hj)
 simp only [Sem.run_bind, run_eqGuard_agg w op t ox oy _ _ h2, Result.andThen_ok]
 rcases hop with rfl | rfl
 ·rw [run_eql_struct]; simp [hq]
 ·rw [run_neq_struct]; simp [hq]
end
end
section
section
variable {P : Program} {w0 : World} {base : Nat} {G : Gh} {st : St} {w : World} {env : Env} {a : Act}
theorem run_unA {op : UnOp} {x : AV} {u : Value} {av : AV} (h : unA op x = some av) (hx : Rep G w x u) : ∃ r, (Op.unary op u).run P w = .ok r w ∧ Rep G w av r := by
 unfold unA at h
 split at h
 ·simp only [Rep] at hx; subst hx
  cases op <;> simp at h
  ·subst h; exact ⟨_, by simp [Op.unary, Op.intArith] <;> rfl, rfl⟩
  ·subst h; exact ⟨_, by simp [Op.unary, Op.intBits] <;> rfl, rfl⟩
 ·simp only [Rep] at hx; subst hx
  cases op <;> simp at h
  subst h; exact ⟨_, by simp [Op.unary] <;> rfl, rfl⟩
 ·cases h
theorem bytesA_sound : ∀ {cs : List AV} {l : List UInt8} {vs : List Value}, bytesA cs = some l → RepC G w cs vs → ∃ xs : List Int, vs = xs.map (fun x => Value.int .u8 x) ∧ l = xs.map (fun x => UInt8.ofNat x.toNat)
 | [], l, vs, h, hr => by simp [bytesA] at h; subst h; cases hr; exact ⟨[], rfl, rfl⟩
 | c :: cs, l, vs, h, hr => by
  obtain ⟨u, us, rfl, _, hu, hus⟩ := hr
  unfold bytesA at h
  split at h
  ·rename_i heq; cases heq
  ·rename_i n r heq
   cases heq
   obtain ⟨l', hl', rfl⟩ := Option.map_eq_some_iff.1 h
   obtain ⟨xs, rfl, rfl⟩ := bytesA_sound hl' hus
   simp only [Rep] at hu
   exact ⟨n :: xs, by simp [hu], rfl⟩
  ·cases h
theorem run_bytesStr {src dst e : TypeId} (hs : P.underlying src = some (.slice e)) (he : P.underlying e = some (.int .u8)) (hd : P.underlying dst = some .string) {cs : List AV} {len : Nat} {p : Perm} {l : List UInt8} {v : Value}
  (hl : cs.length = len) (hb : bytesA cs = some l) (hr : Rep G w (.sl cs len p) v) : ∃ r, (convert src dst v).run P w = .ok r w ∧ Rep G w (.str l) r := by
 obtain ⟨vs, ad, cap, hc, hh, rfl, h4, h5, h6, -, -, -⟩ := hr
 obtain ⟨xs, rfl, rfl⟩ := bytesA_sound hb hc
 have hlen : xs.length = len := by have := yw hc; simp at this; omega
 have hsz : (xs.map (fun x => UInt8.ofNat x.toNat)).length ≤ 9223372036854775807 := by simp [maxLen] at h5; simp; omega
 rcases hh with hnil | ⟨ad, rfl, hcell⟩
 ·have : xs = [] := by simpa using hnil
  subst this
  simp at hlen
  subst hlen
  refine ⟨.string ⟨⟨[]⟩⟩, ?_, rfl, by simp⟩
  cases ad with
  | none => simp [convert, run_underlying hs, run_underlying he, run_underlying hd, Conv.bytesToString]; rfl
  | some ad => simp [convert, run_underlying hs, run_underlying he, run_underlying hd, Conv.bytesToString, loadCells, loadCellsFrom]; rfl
 ·obtain ⟨b, o, s⟩ := ad
  have hsp : s = none ∨ xs = [] := by
   cases xs with
   | nil => exact .inr rfl
   | cons x xs =>
    have := (hcell 0 _ rfl).1
    rw [Addr.add, if_pos rfl] at this
    have := spot_of_cell this
    simp at this
    exact .inl this
  rcases hsp with rfl | rfl
  ·have hrun := run_convert_bytes_arg (P := P) w src e hs he b o len cap xs hlen (fun i hi => by
    have := (hcell i (Value.int .u8 (xs.getD i 0)) (by simp [List.getElem?_eq_getElem (show i < xs.length by omega), List.getD_eq_getElem?_getD])).1
    rwa [wd] at this) dst hd
   refine ⟨_, hrun, ?_, hsz⟩
   rfl
  ·simp at hlen
   subst hlen
   refine ⟨.string ⟨⟨[]⟩⟩, ?_, rfl, by simp⟩
   simp [convert, run_underlying hs, run_underlying he, run_underlying hd, Conv.bytesToString, loadCells, loadCellsFrom]; rfl
end
end
section
section
variable {P : Program} {w0 : World} {base : Nat} {G : Gh} {st : St} {w : World} {env : Env} {a : Act}
theorem foldl_set_list : ∀ (vs : List Value) (k off : Nat) (cells : Array Value), off + k + vs.length ≤ cells.size →
  ((vs.zipIdx k).foldl (fun cs (x : Value × Nat) => cs.setIfInBounds (off + x.2) x.1) cells).toList = cells.toList.take (off + k) ++ vs ++ cells.toList.drop (off + k + vs.length)
 | [], k, off, cells, _ => by simp
 | v :: vs, k, off, cells, h => by
  simp only [List.length_cons] at h
  rw [List.zipIdx_cons, List.foldl_cons, foldl_set_list vs (k + 1) off _ (by simp; omega)]
  have e := list_seg_step cells.toList (off + k) v vs (by simp; omega)
  simpa [Array.toList_setIfInBounds, Nat.add_assoc, Nat.add_comm 1] using e
theorem foldl_set (vs : Array Value) (off : Nat) (cells : Array Value) (h : off + vs.size ≤ cells.size) :
  (vs.zipIdx.foldl (fun cs (x : Value × Nat) => cs.setIfInBounds (off + x.2) x.1) cells).toList = cells.toList.take off ++ vs.toList ++ cells.toList.drop (off + vs.size) := by
 have := foldl_set_list vs.toList 0 off cells (by simpa using h)
 rw [← Array.foldl_toList, Array.toList_zipIdx]
 simpa using this
theorem fill_cons {place : Nat → Option (Nat × Nat)} {cells : Array Value} {i : Nat} {v : Value} {rest : List (Nat × Value)} {off size : Nat} (hp : place i = some (off, size)) (h1 : v.cells.size = size) (h2 : off + v.cells.size ≤ cells.size) :
  Instr.fill place cells ((i, v) :: rest) = Instr.fill place (cells.toList.take off ++ v.cells.toList ++ cells.toList.drop (off + v.cells.size)).toArray rest := by
 have e : v.cells.zipIdx.foldl (fun cs (x : Value × Nat) => cs.setIfInBounds (off + x.2) x.1) cells = (cells.toList.take off ++ v.cells.toList ++ cells.toList.drop (off + v.cells.size)).toArray := by
  apply Array.ext'
  rw [foldl_set _ _ _ h2]
 rw [Instr.fill]
 simp only [hp]
 rw [if_neg (by simp [h1]; omega)]
 exact congrArg (fun c => Instr.fill place c rest) e
theorem repC_setMany {cs ds : List AV} {vs us : List Value} {off : Nat} (h : RepC G w cs vs) (h' : RepC G w ds us) : RepC G w (setMany cs off ds) (vs.take off ++ us ++ vs.drop (off + us.length)) := by
 rw [yw h']
 exact wv (wv (repC_take off h) h') (repC_drop _ h)
theorem fill_struct (hR : RepEnv G w env a) {fields : Array Field} {place : Nat → Option (Nat × Nat)} (hpl : ∀ i f n, fields[i]? = some f → sizeT P f.type = some n → place i = some (f.offset, n)) :
  ∀ (parts : List (Nat × Operand)) (rs : List (Nat × Nat × Opd)) (cs cs' : List AV) (cells : Array Value), resParts P fields parts = some rs → fillA env cs rs = some cs' → RepC G w cs cells.toList →
  ∃ cells', Instr.fill place cells (parts.map fun x => (x.1, a.eval x.2)) = some cells' ∧ RepC G w cs' cells'.toList
 | [], rs, cs, cs', cells, h1, h2, h3 => by
  simp only [resParts, Option.some.injEq] at h1; subst h1
  simp only [fillA, Option.some.injEq] at h2; subst h2
  exact ⟨cells, rfl, h3⟩
 | (i, x) :: parts, rs, cs, cs', cells, h1, h2, h3 => by
  simp only [resParts, Option.pure_def, Option.bind_eq_bind, Option.bind_eq_some_iff] at h1
  obtain ⟨f, hf, n, hn, o, ho, rs', hrs, e⟩ := h1
  cases e
  simp only [fillA] at h2
  split at h2
  ·rename_i hc
   obtain ⟨hs, hl, hb⟩ := hc
   have hx := ze hR ho
   have hxc := solid_cells hs hx
   have hsz : (a.eval x).cells.size = n := by have := yw hxc; rw [Array.length_toList] at this; omega
   have hcl : cells.size = cs.length := by have := yw h3; rw [Array.length_toList] at this; omega
   rw [List.map_cons, fill_cons (hpl i f n hf hn) hsz (by omega)]
   refine fill_struct hR hpl parts rs' _ cs' _ hrs h2 ?_
   have := repC_setMany (off := f.offset) h3 hxc
   rw [Array.length_toList] at this
   simpa using this
  ·cases h2
theorem zeroT_sound {t : TypeId} {z : AV} (h : zeroT P t = some z) : ∃ i v, P.info? t = some i ∧ i.zero = some v ∧ ofConst v = some z := by
 unfold zeroT at h
 obtain ⟨v, hv, hz⟩ := Option.bind_eq_some_iff.1 h
 obtain ⟨i, hi, hv⟩ := Option.bind_eq_some_iff.1 hv
 exact ⟨i, v, hi, hv, hz⟩
theorem run_zero {t : TypeId} {i : TypeInfo} {v : Value} (hi : P.info? t = some i) (hz : i.zero = some v) (w : World) : (zeroValue t).run P w = .ok v w := by
 simp [zeroValue, typeInfo, hi, hz]
theorem uz {t n : Nat} (h : sizeT P t = some n) (w : World) : (sizeOf t).run P w = .ok n w := by
 unfold sizeT at h
 obtain ⟨i, hi, rfl⟩ := Option.map_eq_some_iff.1 h
 simp [sizeOf, typeInfo, hi]
theorem mapM_get {α β : Type} {f : α → Option β} : ∀ {l : List α} {ys : List β}, l.mapM f = some ys → ∀ (i : Nat) x, l[i]? = some x → ∃ y, f x = some y ∧ ys[i]? = some y
 | [], _, _, i, x, h => by simp at h
 | x0 :: l, ys, h, i, x, hx => by
  simp only [List.mapM_cons, Option.pure_def, Option.bind_eq_bind, Option.bind_eq_some_iff] at h
  obtain ⟨y0, hy0, ys', hys, e⟩ := h
  cases e
  cases i with
  | zero => simp at hx; subst hx; exact ⟨y0, hy0, rfl⟩
  | succ i => simp at hx ⊢; exact mapM_get hys i x hx
theorem run_buildA (hR : RepEnv G w env a) {t : TypeId} {z : List AV} {fields : Array Field} {parts : Array (Nat × Operand)} {rs : List (Nat × Nat × Opd)} {cs' : List AV} (hz : zeroT P t = some (.agg z)) (ht : P.underlying t = some (.struct fields))
  (hp : resParts P fields parts.toList = some rs) (h : fillA env z rs = some cs') (hall : (fields.toList.mapM fun f => (P.info? f.type).map fun i => (f.offset, i.size)).isSome = true) :
  ∃ r, (Instr.build t (parts.map fun (x : Nat × Operand) => (x.1, a.eval x.2))).run P w = .ok r w ∧ Rep G w (.agg cs') r := by
 obtain ⟨i, v, hi, hzv, hv⟩ := zeroT_sound hz
 have hrz := ofConst_sound hv G w
 obtain ⟨zs, rfl, hzs⟩ := hrz
 obtain ⟨places, hpl⟩ := Option.isSome_iff_exists.1 hall
 obtain ⟨cells', hf, hr⟩ := fill_struct hR (place := (places.toArray[·]?)) (fun i f n h1 h2 => by
  obtain ⟨y, hy, hy'⟩ := mapM_get hpl i f (by simpa using h1)
  unfold sizeT at h2
  cases hif : P.info? f.type with
  | none => rw [hif] at h2; cases h2
  | some it =>
   rw [hif] at h2 hy
   cases h2; cases hy
   simpa using hy') parts.toList rs z cs' ⟨zs⟩ hp h (by simpa using hzs)
 refine ⟨.agg cells', Go.run_build w t _ cells' ?_, cells'.toList, by simp, hr⟩
 have e : (parts.map fun (x : Nat × Operand) => (x.1, a.eval x.2)).toList = parts.toList.map fun x => (x.1, a.eval x.2) := by simp
 simp only [Program.built, hi, ht, hzv, hpl, Value.cells, e]
 exact hf
theorem fill_lits (hR : RepEnv G w env a) {size : Nat} : ∀ (parts : List (Nat × Operand)) (k : Nat) (xs : List Opd) (cs pre : List AV) (cells : Array Value), resLits k parts = some xs → litsA env size xs = some cs →
  cells.size = (k + parts.length) * size → RepC G w pre (cells.toList.take (k * size)) →
  ∃ cells', Instr.fill (fun i => some (i * size, size)) cells (parts.map fun x => (x.1, a.eval x.2)) = some cells' ∧ cells'.size = cells.size ∧ RepC G w (pre ++ cs) cells'.toList
 | [], k, xs, cs, pre, cells, h1, h2, h3, h4 => by
  simp only [resLits, Option.some.injEq] at h1; subst h1
  simp only [litsA, Option.some.injEq] at h2; subst h2
  refine ⟨cells, rfl, rfl, ?_⟩
  rw [List.take_of_length_le (by rw [Array.length_toList, h3]; simp)] at h4
  simpa using h4
 | (i, x) :: parts, k, xs, cs, pre, cells, h1, h2, h3, h4 => by
  simp only [resLits] at h1
  split at h1
  ·rename_i e
   subst e
   simp only [Option.pure_def, Option.bind_eq_bind, Option.bind_eq_some_iff] at h1
   obtain ⟨o, ho, xs', hxs, e⟩ := h1
   cases e
   simp only [litsA] at h2
   split at h2
   ·rename_i hc
    obtain ⟨hs, hl⟩ := hc
    obtain ⟨cs', hcs, rfl⟩ := Option.map_eq_some_iff.1 h2
    have hx := ze hR ho
    have hxc := solid_cells hs hx
    have hsz : (a.eval x).cells.size = size := by have := yw hxc; rw [Array.length_toList] at this; omega
    have hlen : (i + (parts.length + 1)) * size = i * size + size + parts.length * size := by rw [Nat.add_mul, Nat.add_mul]; omega
    simp only [List.length_cons] at h3
    rw [List.map_cons, fill_cons (off := i * size) (size := size) rfl hsz (by omega)]
    have hnew : RepC G w (pre ++ (o.ev env).cells) ((cells.toList.take (i * size) ++ (a.eval x).cells.toList ++ cells.toList.drop (i * size + (a.eval x).cells.size)).toArray.toList.take ((i + 1) * size)) := by
     have e1 : (cells.toList.take (i * size) ++ (a.eval x).cells.toList ++ cells.toList.drop (i * size + (a.eval x).cells.size)).take ((i + 1) * size) = cells.toList.take (i * size) ++ (a.eval x).cells.toList := by
      rw [List.take_left']
      simp only [List.length_append, List.length_take, Array.length_toList, hsz, Nat.add_mul]; omega
     rw [List.toList_toArray, e1]
     exact wv h4 hxc
    obtain ⟨cells', g1, g2, g3⟩ := fill_lits hR parts (i + 1) xs' cs' _ _ hxs hcs (by
     simp only [List.size_toArray, List.length_append, List.length_take, List.length_drop, Array.length_toList, hsz]
     have : (i + 1 + parts.length) * size = i * size + size + parts.length * size := by rw [Nat.add_mul, Nat.add_mul]; omega
     omega) hnew
    refine ⟨cells', g1, ?_, by simpa using g3⟩
    rw [g2]
    simp only [List.size_toArray, List.length_append, List.length_take, List.length_drop, Array.length_toList, hsz]
    omega
   ·cases h2
  ·cases h1
theorem run_litsA (hI : Inv w0 base G st w) (hR : RepEnv G w env a) {t e size len : Nat} {parts : Array (Nat × Operand)} {xs : List Opd} {cs : List AV} (ht : P.underlying t = some (.slice e)) (hn : sizeT P e = some size)
  (hp : resLits 0 parts.toList = some xs) (h : litsA env size xs = some cs) (h0 : size ≠ 0) (h24 : ¬ len * size > 2 ^ 24) (hlen : xs.length = len) (hz : (zeroT P e).isSome) :
  ∃ r w' G', (Instr.buildSlice t len (parts.map fun (x : Nat × Operand) => (x.1, a.eval x.2))).run P w = .ok r w' ∧ Ext base G w G' w' ∧ (∀ k, G'.used k → G.used k) ∧ Inv w0 base G' st w' ∧ Rep G' w' (.sl cs xs.length .full) r := by
 obtain ⟨z, hz⟩ := Option.isSome_iff_exists.1 hz
 obtain ⟨i, v, hi, hzv, hv⟩ := zeroT_sound hz
 have hpl : ∀ (k : Nat) (ps : List (Nat × Operand)) (xs : List Opd), resLits k ps = some xs → ps.length = xs.length := by
  intro k ps
  induction ps generalizing k with
  | nil => intro xs h; simp [resLits] at h; subst h; rfl
  | cons p ps ih =>
   intro xs h
   simp only [resLits] at h
   split at h
   ·simp only [Option.pure_def, Option.bind_eq_bind, Option.bind_eq_some_iff] at h
    obtain ⟨o, ho, xs', hxs, e⟩ := h
    cases e
    simp [ih _ _ hxs]
   ·cases h
 have hplen := hpl 0 _ _ hp
 have hcl : ∀ (xs : List Opd) (cs : List AV), litsA env size xs = some cs → cs.length = xs.length * size := by
  intro xs
  induction xs with
  | nil => intro cs h; simp [litsA] at h; subst h; simp
  | cons x xs ih =>
   intro cs h
   simp only [litsA] at h
   split at h
   ·rename_i hc
    obtain ⟨cs', hcs, rfl⟩ := Option.map_eq_some_iff.1 h
    rw [List.length_append, ih _ hcs, hc.2, List.length_cons, Nat.add_mul]; omega
   ·cases h
 let zero : Array Value := if len * size = 0 then #[] else v.cells
 obtain ⟨cells', g1, g2, g3⟩ := fill_lits hR parts.toList 0 xs cs [] ((Array.range (len * size)).map (zero[· % zero.size]!)) hp h (by simp [hplen, hlen]) (by simp [RepC])
 have ep : (parts.map fun (x : Nat × Operand) => (x.1, a.eval x.2)).toList = parts.toList.map fun x => (x.1, a.eval x.2) := by simp
 have hrun : (Instr.buildSlice t len (parts.map fun (x : Nat × Operand) => (x.1, a.eval x.2))).run P w = .ok (.slice (some ⟨w.heap.size, 0, none⟩) len len) (w.alloc (.cells cells' e)) := by
  simp only [Instr.buildSlice, Sem.run_bind, run_underlying ht, Result.andThen_ok, uz hn]
  rw [if_neg h24]
  try simp only [Sem.run_pure, Result.andThen_ok, Sem.run_bind]
  by_cases hz0 : len * size = 0
  ·simp only [hz0, if_true, Sem.run_bind, Sem.run_pure, Result.andThen_ok]
   have : zero = #[] := by simp [zero, hz0]
   rw [this, hz0] at g1
   rw [ep, g1]
   simp [newRow]
  ·simp only [hz0, if_false, Sem.run_bind, run_zero hi hzv, Result.andThen_ok, Sem.run_pure]
   have : zero = v.cells := by simp [zero, hz0]
   rw [this] at g1
   rw [ep, g1]
   simp [newRow]
 have hbel : Below w.heap.size w (w.alloc (.cells cells' e)) := (Below.refl _ w).alloc (Nat.le_refl _) _
 have hh := heap_alloc_new w (.cells cells' e)
 obtain ⟨he, hI'⟩ := inv_imm hI hbel (b := w.heap.size) (n := cells'.size) (Nat.le_refl _) (by simp)
 subst hlen
 have hlb : xs.length ≤ 2 ^ 24 := by
  have : xs.length * 1 ≤ xs.length * size := Nat.mul_le_mul_left _ (by omega)
  omega
 refine ⟨_, _, _, hrun, he, fun _ h => h, hI', cells'.toList, _, _, yd he _ _ (by simpa using g3), ?_, rfl, Nat.le_refl _, by simp [maxLen]; omega, by simp [big]; omega, fun _ => ⟨rfl, fun h00 => ?_⟩, fun t ht => (by cases ht), fun _ => by simp⟩
 ·refine held_new (n := 0) hh cells'.toList (List.take_length) ?_
  show _ ≤ upd G.lim w.heap.size cells'.size w.heap.size
  rw [zd, Array.length_toList]
  exact Nat.le_refl _
 ·have := hcl xs cs h
  rw [h00] at this
  simpa using this
end
end
section
section
variable {P : Program} {w0 : World} {base : Nat} {G : Gh} {st : St} {w : World} {env : Env} {a : Act}
theorem run_isAgg {t : TypeId} (h : (P.underlying t).isSome = true) (w : World) : (isAgg t).run P w = .ok (aggT P t) w := by
 obtain ⟨d, hd⟩ := Option.isSome_iff_exists.1 h
 unfold isAgg aggT
 simp only [Sem.run_bind, run_underlying hd, Result.andThen_ok, hd]
 cases d <;> rfl
theorem run_part {t n off : Nat} {cs : List AV} {vs : List Value} (hu : (P.underlying t).isSome = true) (hn : sizeT P t = some n) (hr : RepC G w cs vs) {av : AV}
  (h : (if aggT P t then (if off + n ≤ cs.length then some (.agg ((cs.drop off).take n)) else none) else cs[off]?) = some av) :
  ∃ r, (part t ⟨vs⟩ off).run P w = .ok r w ∧ Rep G w av r := by
 simp only [part, Sem.run_bind, run_isAgg hu, Result.andThen_ok]
 split at h
 ·rename_i ha
  split at h
  ·cases h
   refine ⟨.agg ⟨(vs.drop off).take n⟩, ?_, _, rfl, repC_take _ (repC_drop _ hr)⟩
   simp only [ha, if_true, Sem.run_bind, uz hn, Result.andThen_ok, Sem.run_pure]
   congr 2
   apply Array.ext'
   simp [List.extract_eq_take_drop]
  ·cases h
 ·rename_i ha
  obtain ⟨u, hu, _, hru⟩ := repC_get hr off av h
  refine ⟨u, ?_, hru⟩
  have ha' : aggT P t = false := by simpa using ha
  simp [ha', hu]
theorem uo (hR : RepEnv G w env a) {d : Nat} {x : Option Operand} {o : Option Opd} {n : Nat} (ho : resOO x = some o) (h : boundA env d o = some n) :
  (x = none ∧ n = d) ∨ ∃ y k, x = some y ∧ a.eval y = .int k n := by
 cases x with
 | none => simp [resOO] at ho; subst ho; simp [boundA] at h; exact .inl ⟨rfl, h.symm⟩
 | some y =>
  obtain ⟨o', ho', rfl⟩ := Option.map_eq_some_iff.1 ho
  right
  simp only [boundA] at h
  split at h
  ·rename_i k i heq
   split at h
   ·rename_i h0
    cases h
    have := ze hR ho'
    rw [heq] at this
    simp only [Rep] at this
    exact ⟨y, k, rfl, by rw [this, Int.toNat_of_nonneg h0]⟩
   ·cases h
  ·cases h
theorem run_sliceBoundA {k : IntKind} {n y : Nat} (h : n ≤ y) (c : BoundsCode) (w : World) : (Instr.sliceBound (.int k n) y c).run P w = .ok n w := by
 simp [Instr.sliceBound, asIntOf, h]
theorem run_bounds (isS : Bool) {len cap l h : Nat} {lo hi : Option Value} (hl : lo = none ∧ l = 0 ∨ ∃ k, lo = some (.int k l)) (hh : hi = none ∧ h = len ∨ ∃ k, hi = some (.int k h)) (h1 : l ≤ h) (h2 : h ≤ len) (h3 : len ≤ cap) (w : World) :
  (Instr.sliceBounds isS len cap lo hi none).run P w = .ok (l, h, cap) w := by
 rcases hl with ⟨rfl, rfl⟩ | ⟨k, rfl⟩ <;> rcases hh with ⟨rfl, rfl⟩ | ⟨k', rfl⟩ <;>
  simp [Instr.sliceBounds, run_sliceBoundA h1, run_sliceBoundA (Nat.le_trans h2 h3)]
theorem opt_map {x : Option Operand} {d n : Nat} (h : (x = none ∧ n = d) ∨ ∃ y k, x = some y ∧ a.eval y = .int k n) : (x.map a.eval = none ∧ n = d) ∨ ∃ k, x.map a.eval = some (.int k n) := by
 rcases h with ⟨rfl, rfl⟩ | ⟨y, k, rfl, e⟩
 ·exact .inl ⟨rfl, rfl⟩
 ·exact .inr ⟨k, by simp [e]⟩
theorem run_slcL {t e size : Nat} (ht : P.underlying t = some (.slice e)) (hn : sizeT P e = some size) {x : AV} {v : Value} (hx : Rep G w x v) {lo hi : Option Value} {l h : Nat} {av : AV} {m : Nat}
  (hm : (∃ cs p, x = .sl cs m p ∧ l ≤ h ∧ h ≤ m ∧ cs.length = m * size ∧ av = .sl ((cs.drop (l * size)).take ((h - l) * size)) (h - l) (if h = m then (if p = .full then .full else if l = 0 then p else .no) else .no)) ∨
   (∃ o, x = .row o m ∧ l = 0 ∧ h ≤ m ∧ av = .row o h))
  (hl : lo = none ∧ l = 0 ∨ ∃ k, lo = some (.int k l)) (hh : hi = none ∧ h = m ∨ ∃ k, hi = some (.int k h)) :
  ∃ r, (Instr.sliceAt t v lo hi none).run P w = .ok r w ∧ Rep G w av r := by
 rcases hm with ⟨cs, p, rfl, h1, h2, h3, rfl⟩ | ⟨o, rfl, rfl, h2, rfl⟩
 ·obtain ⟨vs, ad, cap, hc, hd, rfl, g1, g2, g3, g4, g5, g6⟩ := hx
  have hb := run_bounds (P := P) true hl hh h1 h2 g1 w
  refine ⟨.slice (if cap = l then ad else ad.map (·.add (l * size))) (h - l) (cap - l), ?_, ?_⟩
  ·simp [Instr.sliceAt, Instr.slice, run_underlying ht, hb, uz hn]
  ·have hlen := yw hc
   refine ⟨(vs.drop (l * size)).take ((h - l) * size), _, _, repC_take _ (repC_drop _ hc), ?_, rfl, by omega, by omega, by omega, fun hp => ?_, fun t' ht' => ?_, fun h0 => ?_⟩
   ·by_cases hcl : cap = l
    ·left
     rw [show h - l = 0 from by omega]; simp
    ·rw [if_neg hcl]
     rcases hd with rfl | ⟨ad', rfl, hcell⟩
     ·left; simp
     ·right
      refine ⟨_, rfl, fun j u hj => ?_⟩
      rw [List.getElem?_take] at hj
      split at hj
      ·rw [List.getElem?_drop] at hj
       obtain ⟨q1, q2⟩ := hcell _ _ hj
       rw [add_add]
       refine ⟨q1, ?_⟩
       rw [add_off, add_block]; omega
      ·cases hj
   ·split at hp
    ·rename_i hhm
     subst hhm
     split at hp
     ·rename_i hpf
      obtain ⟨q1, q2⟩ := g4 hpf
      exact ⟨by omega, fun q3 => by rw [q3]; simp⟩
     ·rename_i hpf
      split at hp
      ·exact absurd hp hpf
      ·cases hp
    ·cases hp
   ·split at ht'
    ·rename_i hhm
     subst hhm
     split at ht'
     ·cases ht'
     ·split at ht'
      ·rename_i hl0
       subst hl0
       obtain ⟨q1, q2⟩ := g5 t' ht'
       refine ⟨q1, fun b hb => ?_⟩
       obtain ⟨q3, q4⟩ := q2 b hb
       refine ⟨by simpa using q3, fun q5 => ?_⟩
       have q6 := q4 (by simpa using q5)
       simp only [Value.slice.injEq, true_and] at q6
       obtain ⟨rfl, rfl⟩ := q6
       simp [Addr.add]
      ·cases ht'
    ·cases ht'
   ·have := g6 (by omega)
    rw [if_neg (by omega)]
    cases ad with
    | none => exact absurd rfl this
    | some ad => simp
 ·obtain ⟨g0, ad, cap, rfl, g1, g2, g3, g4⟩ := hx
  have hb := run_bounds (P := P) true hl hh (Nat.zero_le _) h2 g1 w
  refine ⟨.slice (some ad) h cap, ?_, g0, ad, cap, rfl, by omega, g2, by omega, g4⟩
  simp [Instr.sliceAt, Instr.slice, run_underlying ht, hb, uz hn, Addr.add]
theorem run_idxA {t e size : Nat} (ht : P.underlying t = some (.slice e)) (hn : sizeT P e = some size) {x i : AV} {v u : Value} (hx : Rep G w x v) (hi : Rep G w i u) {k : IntKind} {j : Int} {m : Nat} {av : AV} (hj : i = .int k j) (h0 : 0 ≤ j) (h1 : j < m)
  (hm : (∃ cs p, x = .sl cs m p ∧ av = .iptr cs (j.toNat * size)) ∨ (∃ o, x = .row o m ∧ av = .ptr o (j.toNat * size))) :
  ∃ r, (Instr.indexAt t v u).run P w = .ok r w ∧ Rep G w av r := by
 subst hj
 simp only [Rep] at hi
 subst hi
 rcases hm with ⟨cs, p, rfl, rfl⟩ | ⟨o, rfl, rfl⟩
 ·obtain ⟨vs, ad, cap, hc, hd, rfl, g1, g2, g3, g4, g5, g6⟩ := hx
  cases ad with
  | none => exact absurd rfl (g6 (by omega))
  | some ad =>
   refine ⟨.pointer (some (ad.add (j.toNat * size))), ?_, vs, ad, hc, hd, rfl⟩
   simp [Instr.indexAt, asIntOf, run_underlying ht, h0, h1, uz hn]
 ·obtain ⟨g0, ad, cap, rfl, g1, g2, g3, g4⟩ := hx
  refine ⟨.pointer (some (ad.add (j.toNat * size))), ?_, g0, _, rfl, fun b hb => ?_⟩
  ·simp [Instr.indexAt, asIntOf, run_underlying ht, h0, h1, uz hn]
  ·obtain ⟨rfl, _⟩ := g4 b hb
   rw [wd, Nat.zero_add]
end
end
section
section
variable {P : Program} {w0 : World} {base : Nat} {G : Gh} {st : St} {w : World} {env : Env} {a : Act}
theorem pe_sound (hI : Inv w0 base G st w) (hR : RepEnv G w env a) {o : Oper} {e : PE} {av : AV} (hr : resPE P o.op = some e) (he : e.eval env = some av) :
    Worth P w0 base G st st w (execOp a.eval o) av := by
  obtain ⟨dst, op, ty, pos, after, guard⟩ := o
  simp only at hr
  cases op with
  | move x =>
    obtain ⟨o, ho, rfl⟩ := Option.map_eq_some_iff.1 hr
    cases he
    exact xi hI rfl (ze hR ho)
  | assign x =>
    obtain ⟨o, ho, rfl⟩ := Option.map_eq_some_iff.1 hr
    cases he
    exact xi hI rfl (ze hR ho)
  | pick c x y =>
    simp only [resPE, Option.pure_def, Option.bind_eq_bind, Option.bind_eq_some_iff] at hr
    obtain ⟨c', hc, x', hx, y', hy, e⟩ := hr
    cases e
    simp only [PE.eval] at he
    split at he
    · rename_i t ht
      cases he
      have h1 := ze hR hc
      rw [ht] at h1
      simp only [Rep] at h1
      refine xi hI (v := if t then a.eval x else a.eval y) (by simp [execOp, h1, asBool]) ?_
      cases t
      · exact ze hR hy
      · exact ze hR hx
    · cases he
  | nilCheck x =>
    obtain ⟨o, ho, rfl⟩ := Option.map_eq_some_iff.1 hr
    have h1 := ze hR ho
    simp only [PE.eval] at he
    split at he
    · rename_i o' f heq
      cases he
      rw [heq] at h1
      obtain ⟨h2, ad, h3, h4⟩ := h1
      refine xi hI (v := a.eval x) ?_ ⟨h2, ad, h3, h4⟩
      simp only [execOp, h3]; rfl
    · rename_i cs f heq
      cases he
      rw [heq] at h1
      obtain ⟨vs, ad, h2, h3, h4⟩ := h1
      refine xi hI (v := a.eval x) ?_ ⟨vs, ad, h2, h3, h4⟩
      simp only [execOp, h4]; rfl
    · rename_i f p q heq
      cases he
      rw [heq] at h1
      obtain ⟨p', q', h2, h3, h4⟩ := h1
      refine xi hI (v := a.eval x) ?_ ⟨p', q', h2, h3, h4⟩
      simp only [execOp, h2]; rfl
    · cases he
  | binOp op t x y yt =>
    simp only [resPE, Option.pure_def, Option.bind_eq_bind, Option.bind_eq_some_iff] at hr
    obtain ⟨x', hx, y', hy, hr⟩ := hr
    have h1 := ze hR hx
    have h2 := ze hR hy
    split at hr
    · rename_i fs hu
      split at hr
      · rename_i ks hks
        split at hr
        · rename_i hc
          cases hr
          simp only [Bool.not_eq_true', Bool.not_eq_eq_eq_not, Bool.not_true] at hc
          obtain ⟨hop, hs1, hs2⟩ := hc
          simp only [PE.eval] at he
          split at he
          · rename_i xs ys e1 e2
            obtain ⟨b, hb, rfl⟩ := Option.map_eq_some_iff.1 he
            rw [e1] at h1
            rw [e2] at h2
            obtain ⟨us, e3, h3⟩ := h1
            obtain ⟨vs, e4, h4⟩ := h2
            refine xh hI (v := .bool (if decide (op = .neq) then !b else b)) ?_ rfl
            have := run_eqs (w := w) hu hks hs1 hs2 h3 h4 hb op hop x y
            rw [← e3, ← e4] at this
            exact this
          · cases he
        · cases hr
      · cases hr
    all_goals first
      | (cases hr
         obtain ⟨r, hr1, hr2⟩ := run_binA (d := _) he h1 h2 ‹_› (by trivial) x y
         exact xh hI hr1 hr2)
      | cases hr
  | unOp op t x =>
    simp only [resPE, Option.pure_def, Option.bind_eq_bind, Option.bind_eq_some_iff] at hr
    obtain ⟨x', hx, e⟩ := hr
    cases e
    obtain ⟨r, hr1, hr2⟩ := run_unA he (ze hR hx)
    exact xh hI hr1 hr2
  | convert src dst x =>
    simp only [resPE, Option.pure_def, Option.bind_eq_bind, Option.bind_eq_some_iff] at hr
    obtain ⟨x', hx, hr⟩ := hr
    have h1 := ze hR hx
    split at hr
    · rename_i d k hs hd
      cases hr
      simp only [PE.eval] at he
      unfold cvA at he
      split at he <;> rename_i heq1 heq2 <;> first
        | (cases heq1
           cases he
           rw [heq2] at h1
           simp only [Rep] at h1
           refine xh hI (v := .int k (k.wrap _)) ?_ rfl
           simp only [h1, convert, Sem.run_bind, run_underlying hs, run_underlying hd, Result.andThen_ok]
           rfl)
        | cases heq1
        | cases he
    · rename_i hs hd
      cases hr
      simp only [PE.eval] at he
      unfold cvA at he
      split at he <;> rename_i heq1 heq2 <;> first
        | (cases heq1
           cases he
           rw [heq2] at h1
           refine xh hI (v := a.eval x) ?_ h1
           obtain ⟨h1, _⟩ := h1
           simp only [h1, convert, Sem.run_bind, run_underlying hs, run_underlying hd, Result.andThen_ok]
           rfl)
        | cases heq1
        | cases he
    · rename_i e hs hd
      split at hr
      · rename_i he8
        cases hr
        have he8' : P.underlying e = some (.int .u8) := by
          first
            | exact he8
            | (split at he8
               · assumption
               · cases he8)
        simp only [PE.eval] at he
        unfold cvA at he
        split at he <;> rename_i heq1 heq2 <;> first
          | (cases heq1
             split at he
             · rename_i hlen
               obtain ⟨l, hl, rfl⟩ := Option.map_eq_some_iff.1 he
               rw [heq2] at h1
               obtain ⟨r, hr1, hr2⟩ := run_bytesStr hs he8' hd hlen hl h1
               exact xh hI hr1 hr2
             · cases he)
          | cases heq1
          | cases he
      · cases hr
    · cases hr
  | build t parts =>
    simp only [resPE, Option.pure_def, Option.bind_eq_bind, Option.bind_eq_some_iff] at hr
    obtain ⟨z, hz, hr⟩ := hr
    split at hr
    · rename_i z' 
      split at hr
      · rename_i fields hu
        simp only [Option.bind_eq_some_iff] at hr
        obtain ⟨rs, hrs, hr⟩ := hr
        split at hr
        · rename_i hall
          cases hr
          simp only [PE.eval] at he
          obtain ⟨cs, hcs, rfl⟩ := Option.map_eq_some_iff.1 he
          obtain ⟨r, hr1, hr2⟩ := run_buildA hR hz hu hrs hcs hall
          exact xh hI hr1 hr2
        · cases hr
      · cases hr
    · cases hr
  | buildSlice t len parts =>
    simp only [resPE, Option.pure_def, Option.bind_eq_bind] at hr
    split at hr
    · rename_i e hu
      simp only [Option.bind_eq_some_iff] at hr
      obtain ⟨n, hn, xs, hxs, hr⟩ := hr
      split at hr
      · cases hr
      · rename_i hc
        cases hr
        simp only [not_or] at hc
        obtain ⟨c1, c2, c3, c4⟩ := hc
        simp only [PE.eval] at he
        obtain ⟨cs, hcs, rfl⟩ := Option.map_eq_some_iff.1 he
        obtain ⟨r, w', G', q1, q2, q3, q4, q5⟩ := run_litsA (len := len) hI hR hu hn hxs hcs c1 c2 (by simpa using c3) (by simpa [Option.isSome_iff_ne_none] using c4)
        exact ⟨r, w', G', .inl (by simp only [execOp, Sem.run_bind, q1, Result.andThen_ok, Sem.run_pure]), q2, q3, q4, q5⟩
    · cases hr
  | field t x f =>
    simp only [resPE, Option.pure_def, Option.bind_eq_bind, Option.bind_eq_some_iff] at hr
    obtain ⟨x', hx, hr⟩ := hr
    split at hr
    · rename_i fields hu
      simp only [Option.bind_eq_some_iff] at hr
      obtain ⟨fd, hf, n, hn, hr⟩ := hr
      split at hr
      · rename_i hus
        cases hr
        simp only [PE.eval] at he
        split at he
        · rename_i cs heq
          have h1 := ze hR hx
          rw [heq] at h1
          obtain ⟨vs, h2, h3⟩ := h1
          obtain ⟨r, hr1, hr2⟩ := run_part hus hn h3 he
          refine xh hI (v := r) ?_ hr2
          simp only [Instr.field, Sem.run_bind, run_underlying hu, Result.andThen_ok, hf, h2, asAgg, Sem.run_pure, hr1]
        · cases he
      · cases hr
    · cases hr
  | fieldAddr t x f =>
    simp only [resPE, Option.pure_def, Option.bind_eq_bind, Option.bind_eq_some_iff] at hr
    obtain ⟨x', hx, hr⟩ := hr
    split at hr
    · rename_i fields hu
      simp only [Option.bind_eq_some_iff] at hr
      obtain ⟨fd, hf, n, hn, hr⟩ := hr
      split at hr
      · cases hr
      · rename_i hn0
        cases hr
        have h1 := ze hR hx
        have key : ∀ ad : Addr, a.eval x = .pointer (some ad) → (Instr.fieldAt t (a.eval x) f).run P w = .ok (.pointer (some (ad.add fd.offset))) w := by
          intro ad had
          simp [Instr.fieldAt, run_underlying hu, hf, had, Instr.sureAddr, fieldPlace, uz hn, hn0]
        simp only [PE.eval] at he
        split at he
        · rename_i o' g heq
          cases he
          rw [heq] at h1
          obtain ⟨h2, ad, h3, h4⟩ := h1
          refine xh hI (key ad h3) ⟨h2, _, rfl, fun b hb => ?_⟩
          rw [h4 b hb, wd]
        · rename_i cs g heq
          cases he
          rw [heq] at h1
          obtain ⟨vs, ad, h2, h3, h4⟩ := h1
          exact xh hI (key _ h4) ⟨vs, ad, h2, h3, by rw [add_add]⟩
        · cases he
    · cases hr
  | indexAddr t x i =>
    simp only [resPE, Option.pure_def, Option.bind_eq_bind, Option.bind_eq_some_iff] at hr
    obtain ⟨x', hx, i', hi, hr⟩ := hr
    have h1 := ze hR hx
    have h2 := ze hR hi
    split at hr
    · rename_i e hu
      simp only [Option.bind_eq_some_iff] at hr
      obtain ⟨n, hn, hr⟩ := hr
      cases hr
      simp only [PE.eval] at he
      split at he
      · rename_i cs m p k j e1 e2
        split at he
        · rename_i hc
          cases he
          obtain ⟨r, hr1, hr2⟩ := run_idxA hu hn h1 h2 e2 hc.1 hc.2 (.inl ⟨cs, p, e1, rfl⟩)
          exact xh hI hr1 hr2
        · cases he
      · rename_i o m k j e1 e2
        split at he
        · rename_i hc
          cases he
          obtain ⟨r, hr1, hr2⟩ := run_idxA hu hn h1 h2 e2 hc.1 hc.2 (.inr ⟨o, e1, rfl⟩)
          exact xh hI hr1 hr2
        · cases he
      · cases he
    · rename_i len e hu
      simp only [Option.bind_eq_some_iff] at hr
      obtain ⟨n, hn, hr⟩ := hr
      cases hr
      have key : ∀ (ad : Addr) (k : IntKind) (j : Int), a.eval x = .pointer (some ad) → a.eval i = .int k j → 0 ≤ j → j < len → (Instr.indexAt t (a.eval x) (a.eval i)).run P w = .ok (.pointer (some (ad.add (j.toNat * n)))) w := by
        intro ad k j had hj h0 h1
        simp [Instr.indexAt, asIntOf, run_underlying hu, had, hj, Instr.sureAddr, uz hn, h0, h1]
      simp only [PE.eval] at he
      split at he
      · rename_i o f k j e1 e2
        split at he
        · rename_i hc
          cases he
          rw [e1] at h1
          rw [e2] at h2
          obtain ⟨h3, ad, h4, h5⟩ := h1
          refine xh hI (key ad k j h4 h2 hc.1 hc.2) ⟨h3, _, rfl, fun b hb => ?_⟩
          rw [h5 b hb, wd]
        · cases he
      · rename_i cs f k j e1 e2
        split at he
        · rename_i hc
          cases he
          rw [e1] at h1
          rw [e2] at h2
          obtain ⟨vs, ad, h3, h4, h5⟩ := h1
          exact xh hI (key _ k j h5 h2 hc.1 hc.2) ⟨vs, ad, h3, h4, by rw [add_add]⟩
        · cases he
      · cases he
    · cases hr
  | index t x i =>
    simp only [resPE, Option.pure_def, Option.bind_eq_bind, Option.bind_eq_some_iff] at hr
    obtain ⟨x', hx, i', hi, hr⟩ := hr
    have h1 := ze hR hx
    have h2 := ze hR hi
    split at hr
    · rename_i hu
      cases hr
      simp only [PE.eval] at he
      split at he
      · rename_i s k j e1 e2
        split at he
        · rename_i h0
          obtain ⟨b, hb, rfl⟩ := Option.map_eq_some_iff.1 he
          rw [e1] at h1
          rw [e2] at h2
          obtain ⟨h1, _⟩ := h1
          simp only [Rep] at h2
          refine xh hI (v := .int .u8 b.toNat) ?_ rfl
          have hget : (⟨⟨s⟩⟩ : ByteArray)[j.toNat]? = some b := by
            obtain ⟨hlt, hv⟩ := List.getElem?_eq_some_iff.1 hb
            exact getElem?_eq_some_iff.2 ⟨hlt, hv⟩
          simp [Instr.index, asIntOf, run_underlying hu, h1, h2, h0, hget]
        · cases he
      · cases he
    · cases hr
  | extract x i =>
    simp only [resPE, Option.pure_def, Option.bind_eq_bind, Option.bind_eq_some_iff] at hr
    obtain ⟨x', hx, e⟩ := hr
    cases e
    simp only [PE.eval] at he
    split at he
    · rename_i vs heq
      have h1 := ze hR hx
      rw [heq] at h1
      obtain ⟨us, h2, h3⟩ := h1
      obtain ⟨u, hu, hru⟩ := repL_get h3 i av he
      refine xh hI (v := u) ?_ hru
      simp [Instr.extract, h2, hu]
    · cases he
  | makeInterface t x =>
    simp only [resPE, Option.pure_def, Option.bind_eq_bind, Option.bind_eq_some_iff] at hr
    obtain ⟨x', hx, hr⟩ := hr
    split at hr
    · cases hr
    · cases hr
    · rename_i hni hnn
      cases hr
      cases he
      refine xh hI (v := .iface t (a.eval x)) ?_ ⟨_, rfl, ze hR hx⟩
      cases hu : P.underlying t with
      | none => exact absurd hu hnn
      | some d =>
        simp only [Instr.makeInterface, Sem.run_bind, run_underlying hu, Result.andThen_ok]
        split
        · rename_i m; exact absurd hu (hni m)
        · rfl
  | makeFunc fn first cap =>
    simp only [resPE, Option.pure_def, Option.bind_eq_bind, Option.bind_eq_some_iff] at hr
    obtain ⟨f', hf, c', hc, e⟩ := hr
    cases e
    cases he
    refine xh hI (v := .func fn (first.map a.eval) (cap.map a.eval)) rfl ⟨first.toList.map a.eval, cap.toList.map a.eval, ?_, ui hR hf, ui hR hc⟩
    congr 1 <;> (apply Array.ext'; simp)
  | slice t x lo hi mx =>
    cases mx with
    | some m => cases hr
    | none =>
      simp only [resPE, Option.pure_def, Option.bind_eq_bind, Option.bind_eq_some_iff] at hr
      obtain ⟨x', hx, lo', hlo, hi', hhi, hr⟩ := hr
      have h1 := ze hR hx
      split at hr
      · rename_i hu
        cases hr
        simp only [PE.eval] at he
        split at he
        · rename_i s heq
          split at he
          · rename_i l h hl hh
            split at he
            · rename_i hc
              cases he
              rw [heq] at h1
              obtain ⟨h2, h3⟩ := h1
              have hb := run_bounds (P := P) false (opt_map (uo hR hlo hl)) (opt_map (uo hR hhi hh)) hc.1 hc.2 (Nat.le_refl _) w
              refine xh hI (v := .string ⟨⟨(s.take h).drop l⟩⟩) ?_ ⟨rfl, by simp; omega⟩
              simp only [Option.map_none, Instr.sliceAt, Instr.slice, Sem.run_bind, run_underlying hu, Result.andThen_ok, h2, Option.isSome_none, Bool.false_eq_true, if_false, ba_size, hb, ba_extract, Sem.run_pure]
            · cases he
          · cases he
        · cases he
      · rename_i e hu
        simp only [Option.bind_eq_some_iff] at hr
        obtain ⟨n, hn, hr⟩ := hr
        cases hr
        simp only [PE.eval] at he
        split at he
        · rename_i cs m p heq
          split at he
          · rename_i l h hl hh
            split at he
            · rename_i hc
              cases he
              obtain ⟨r, hr1, hr2⟩ := run_slcL hu hn h1 (.inl ⟨cs, p, heq, hc.1, hc.2.1, hc.2.2, rfl⟩) (opt_map (uo hR hlo hl)) (opt_map (uo hR hhi hh))
              exact xh hI hr1 hr2
            · cases he
          · cases he
        · rename_i o m heq
          split at he
          · rename_i h hl hh
            split at he
            · rename_i hc
              cases he
              obtain ⟨r, hr1, hr2⟩ := run_slcL hu hn h1 (.inr ⟨o, heq, rfl, hc, rfl⟩) (opt_map (uo hR hlo hl)) (opt_map (uo hR hhi hh))
              exact xh hI hr1 hr2
            · cases he
          · cases he
        · cases he
      · cases hr
  | call c =>
    obtain ⟨callee, args, tys⟩ := c
    simp only [resPE] at hr
    split at hr
    · rename_i b
      have hargs : args = args.toList.toArray := by simp
      have htys : tys = tys.toList.toArray := by simp
      generalize args.toList = al at *
      generalize tys.toList = tl at *
      subst hargs; subst htys
      unfold resB at hr
      split at hr
      · split at hr
        · rename_i x t
          split at hr
          · rename_i x' hx hu
            cases hr
            have h1 := ze hR hx
            simp only [PE.eval] at he
            split at he
            · rename_i s heq
              cases he
              rw [heq] at h1
              obtain ⟨h1, _⟩ := h1
              exact xi hI (v := .int .i64 s.length) (by simp [execOp, resolve, invoke, builtin, Builtin.len_, run_underlying hu, h1, ba_size, goInt]) rfl
            · cases he
          · rename_i x' e hx hu
            cases hr
            have h1 := ze hR hx
            simp only [PE.eval] at he
            split at he
            · rename_i cs n p heq
              cases he
              rw [heq] at h1
              obtain ⟨vs, ad, cap, _, _, h1, _⟩ := h1
              exact xi hI (v := .int .i64 n) (by simp [execOp, resolve, invoke, builtin, Builtin.len_, run_underlying hu, h1, goInt]) rfl
            · rename_i o n heq
              cases he
              rw [heq] at h1
              obtain ⟨_, ad, cap, h1, _⟩ := h1
              exact xi hI (v := .int .i64 n) (by simp [execOp, resolve, invoke, builtin, Builtin.len_, run_underlying hu, h1, goInt]) rfl
            · cases he
          · rename_i x' k e hx hu
            cases hr
            have h1 := ze hR hx
            simp only [PE.eval] at he
            split at he
            · rename_i heq
              cases he
              rw [heq] at h1
              simp only [Rep] at h1
              exact xi hI (v := .int .i64 0) (by simp [execOp, resolve, invoke, builtin, Builtin.len_, run_underlying hu, h1, goInt]) rfl
            · cases he
          · cases hr
        · cases hr
      · split at hr
        · rename_i x y
          split at hr
          · rename_i x' y' hx hy
            cases hr
            have h1 := ze hR hx
            have h2 := ze hR hy
            simp only [PE.eval] at he
            split at he
            · rename_i k p k' q e1 e2
              cases he
              rw [e1] at h1
              rw [e2] at h2
              simp only [Rep] at h1 h2
              exact xi hI (v := .int k (if q > p then q else p)) (by simp [execOp, resolve, invoke, builtin, Builtin.max_, Builtin.max2, h1, h2]) rfl
            · cases he
          · cases hr
        · cases hr
      · split at hr
        · rename_i x y
          split at hr
          · rename_i x' y' hx hy
            cases hr
            have h1 := ze hR hx
            have h2 := ze hR hy
            simp only [PE.eval] at he
            split at he
            · rename_i k p k' q e1 e2
              cases he
              rw [e1] at h1
              rw [e2] at h2
              simp only [Rep] at h1 h2
              exact xi hI (v := .int k (if q < p then q else p)) (by simp [execOp, resolve, invoke, builtin, Builtin.min_, Builtin.min2, h1, h2]) rfl
            · cases he
          · cases hr
        · cases hr
      · cases hr
    · cases hr
  | _ => cases hr
end
end
section
inductive SOp where
 | pe (e : PE)
 | load (n : Nat) (agg : Bool) (x : Opd)
 | store (n : Nat) (x v : Opd)
 | alloc (T : TypeId) (z : AV) (k : Nat)
 | box (T : TypeId) (x : Opd) (k : Nat)
 | append (str : Bool) (e : TypeId) (size bytes : Nat) (s x : Opd) (k : Nat)
 | appendR (e : TypeId) (size bytes : Nat) (s x : Opd) (k : Nat)
 | lookup (kk : BK) (zero : AV) (ok : Bool) (m key : Opd)
 | mapUpd (kk : BK) (m key v : Opd)
 | mkMap (k : Nat)
 | call (f : FuncId) (args : List Opd)
 | callV (x : Opd) (args : List Opd)
 | defer (x : Opd) (args : List Opd)
def SOp.plain : SOp → SOp
 | .appendR e size bytes s x k => .append false e size bytes s x k
 | op => op
theorem SOp.plain_inv (s : SOp) : s.plain = s ∨ ∃ e n b a c k, s = .appendR e n b a c k := by
 cases s
 case appendR e n b a c k => exact .inr ⟨e, n, b, a, c, k, rfl⟩
 all_goals exact .inl rfl
def dataOf : AObj → Option (List AV)
 | .cells _ cs => some cs
 | .row _ _ cs => some cs
 | _ => none
def withData : AObj → List AV → AObj
 | .cells T _, cs => .cells T cs
 | .row e n _, cs => .row e n cs
 | x, _ => x
def St.del (st : St) (o : Nat) : St := { st with objs := fun p => if p = o then none else st.objs p }
def St.put (st : St) (o : Nat) (x : AObj) : St := { st with objs := upd st.objs o (some x) }
def loadA (n : Nat) (agg : Bool) (cs : List AV) (off : Nat) : Option AV :=
 if agg then (if off + n ≤ cs.length then some (.agg ((cs.drop off).take n)) else none) else cs[off]?
def St.data (st : St) (o : Nat) : Option (List AV) := (st.objs o).bind dataOf
def findA (kk : BK) (key : AV) : List (AV × AV) → Nat → Option (Option (Nat × AV))
 | [], _ => some none
 | (k, v) :: r, i => match leafEq kk key k with
  | some true => some (some (i, v))
  | some false => findA kk key r (i + 1)
  | none => none
def srcA (str : Bool) (size : Nat) : AV → Option (Nat × List AV)
 | .sl ds n _ => if str = false ∧ ds.length = n * size then some (n, ds) else none
 | .str bs => if str = true ∧ size = 1 then some (bs.length, bs.map fun b => .int .u8 b.toNat) else none
 | _ => none
def SOp.step (r : Nat) (env : Env) (st : St) : SOp → Option (AV × St)
 | .pe e => (e.eval env).map fun v => (v, st)
 | .load n agg x => match x.ev env with
  | .iptr cs off => (loadA n agg cs off).map fun v => (v, st)
  | .ptr o off => match st.data o with
   | some cs => (loadA n agg cs off).map fun v => (v, st)
   | none => none
  | _ => none
 | .store n x v => match x.ev env with
  | .ptr o off => match st.objs o with
   | some ob => match dataOf ob with
    | some cs => if (v.ev env).solid ∧ (v.ev env).cells.length = n ∧ off + n ≤ cs.length then some (.undef, st.put o (withData ob (setMany cs off (v.ev env).cells))) else none
    | none => none
   | none => none
  | _ => none
 | .alloc T z k => some (.ptr (r + k) 0, st.put (r + k) (.cells T z.cells))
 | .box T x k => if (x.ev env).solid then some (.ptr (r + k) 0, st.put (r + k) (.cells T (x.ev env).cells)) else none
 | .append str e size bytes s x k => match s.ev env, srcA str size (x.ev env) with
  | .sl cs len p, some (n, ds) =>
   if n = 0 then some (.sl cs len p, st) else
   if cs.length = len * size ∧ (len + n) * bytes ≤ big ∧ len + n ≤ big then
    match p with
    | .full => some (.sl (cs ++ ds) (len + n) (.tok (r + k)), st.put (r + k) (.tip e size (len + n)))
    | .tok t => match st.objs t with
     | some (.tip e' s' l') => if e' = e ∧ s' = size ∧ l' = len then some (.sl (cs ++ ds) (len + n) (.tok t), st.put t (.tip e size (len + n))) else none
     | _ => none
    | .no => none
   else none
  | _, _ => none
 | .appendR e size bytes s x k => match s.ev env, srcA false size (x.ev env) with
  | .sl cs len .full, some (n, ds) => if n ≠ 0 ∧ cs.length = len * size ∧ (len + n) * bytes ≤ big ∧ len + n ≤ big then
    some (.row (r + k) (len + n), st.put (r + k) (.row e size (cs ++ ds))) else none
  | .row o len, some (n, ds) => match st.objs o with
   | some (.row e' s' cs) => if e' = e ∧ s' = size ∧ n ≠ 0 ∧ len * size ≤ cs.length ∧ (len + n) * bytes ≤ big ∧ len + n ≤ big then
     some (.row (r + k) (len + n), (st.del o).put (r + k) (.row e size (cs.take (len * size) ++ ds))) else none
   | _ => none
  | _, _ => none
 | .lookup kk zero ok m key => match m.ev env with
  | .nilmap => if (key.ev env).solid then some (if ok then .tuple [zero, .bool false] else zero, st) else none
  | .map o => match st.objs o with
   | some (.map es) => match findA kk (key.ev env) es 0 with
    | some (some (_, v)) => some (if ok then .tuple [v, .bool true] else v, st)
    | some none => if (leafEq kk (key.ev env) (key.ev env)).isSome then some (if ok then .tuple [zero, .bool false] else zero, st) else none
    | none => none
   | _ => none
  | _ => none
 | .mapUpd kk m key v => match m.ev env with
  | .map o => match st.objs o with
   | some (.map es) => match findA kk (key.ev env) es 0 with
    | some (some (i, _)) => some (.undef, st.put o (.map (es.set i (key.ev env, v.ev env))))
    | some none => if (leafEq kk (key.ev env) (key.ev env)).isSome then some (.undef, st.put o (.map (es ++ [(key.ev env, v.ev env)]))) else none
    | none => none
   | _ => none
  | _ => none
 | .mkMap k => some (.map (r + k), st.put (r + k) (.map []))
 | .call _ _ | .callV _ _ | .defer _ _ => none
section
variable {P : Program} {w0 : World} {base : Nat} {G : Gh} {st st' : St} {w : World} {env : Env} {a : Act}
theorem data_row {o : Nat} {x : AObj} {cs : List AV} (h : ObjRep base G w o x) (hd : dataOf x = some cs) :
  ∃ b vs T, G.blk o = some b ∧ G.own b = some o ∧ base ≤ b ∧ G.lim b = 0 ∧ w.heap[b]? = some (.cells vs T (0, 0)) ∧ RepC G w cs (vs.toList.take cs.length) ∧
   ∀ (w' : World) (vs' : Array Value) (cs' : List AV), w'.heap[b]? = some (.cells vs' T (0, 0)) → vs'.size = vs.size → RepC G w' cs' (vs'.toList.take cs'.length) → cs'.length = cs.length → ObjRep base G w' o (withData x cs') := by
 cases x with
 | cells T cs0 =>
  cases hd
  obtain ⟨b, vs, h1, h2, h3, h4, h5, h6, h7⟩ := h
  exact ⟨b, vs, T, h1, h2, h3, h4, h5, h6, fun w' vs' cs' g1 g2 g3 g4 => ⟨b, vs', h1, h2, h3, h4, g1, g3, g2.trans (h7.trans g4.symm)⟩⟩
 | row e n cs0 =>
  cases hd
  obtain ⟨b, vs, h1, h2, h3, h4, h5, h6, h7, h8, h9⟩ := h
  exact ⟨b, vs, e, h1, h2, h3, h4, h5, h6, fun w' vs' cs' g1 g2 g3 _ => ⟨b, vs', h1, h2, h3, h4, g1, g3, g2.trans h7, h8, h9⟩⟩
 | tip e s n => cases hd
 | map es => cases hd
theorem run_loadVar {t n : Nat} {agg : Bool} (hu : (P.underlying t).isSome = true) (hn : sizeT P t = some n) (ha : aggT P t = agg) {cs : List AV} {vs : List Value} (hr : RepC G w cs vs) {ad : Addr} (hc : ∀ j u, vs[j]? = some u → w.cell? (ad.add j) = some u) {off : Nat} {av : AV}
  (h : loadA n agg cs off = some av) : ∃ r, (loadVar t (ad.add off)).run P w = .ok r w ∧ Rep G w av r := by
 subst ha
 unfold loadA at h
 simp only [loadVar, Sem.run_bind, run_isAgg hu, Result.andThen_ok]
 split at h
 ·rename_i ha
  split at h
  ·rename_i hle
   cases h
   have hlen := yw hr
   refine ⟨.agg ⟨(vs.drop off).take n⟩, ?_, _, rfl, repC_take _ (repC_drop _ hr)⟩
   have := run_loadCells_list (P := P) w (ad.add off) ((vs.drop off).take n) (fun j v hj => by
    rw [add_add]
    rw [List.getElem?_take] at hj
    split at hj
    ·rw [List.getElem?_drop] at hj; exact hc _ _ hj
    ·cases hj)
   rw [show ((vs.drop off).take n).length = n from by simp; omega] at this
   simp only [ha, if_true, Sem.run_bind, uz hn, Result.andThen_ok, this, Sem.run_pure]
  ·cases h
 ·rename_i ha
  obtain ⟨u, hu', _, hru⟩ := repC_get hr off av h
  refine ⟨u, ?_, hru⟩
  have ha' : aggT P t = false := by simpa using ha
  simp [ha', hc off u hu']
theorem held_cells {ad : Addr} {vs : List Value} (h : Held G w (some ad) vs) : ∀ j u, vs[j]? = some u → w.cell? (ad.add j) = some u := by
 rcases h with rfl | ⟨ad', e, hc⟩
 ·intro j u hj; simp at hj
 ·cases e; exact fun j u hj => (hc j u hj).1
theorem load_sound (hI : Inv w0 base G st w) {t n : Nat} {agg : Bool} {x : AV} {v : Value} (hx : Rep G w x v) (hu : (P.underlying t).isSome = true) (hn : sizeT P t = some n) (ha : aggT P t = agg) {av : AV}
  (h : (∃ cs off, x = .iptr cs off ∧ loadA n agg cs off = some av) ∨ (∃ o off cs, x = .ptr o off ∧ st.data o = some cs ∧ loadA n agg cs off = some av)) :
  ∃ r, (Instr.loadAt t v).run P w = .ok r w ∧ Rep G w av r := by
 rcases h with ⟨cs, off, rfl, h⟩ | ⟨o, off, cs, rfl, hd, h⟩
 ·obtain ⟨vs, ad, h1, h2, rfl⟩ := hx
  obtain ⟨r, hr1, hr2⟩ := run_loadVar hu hn ha h1 (held_cells h2) h
  exact ⟨r, by simp [Instr.loadAt, Instr.sureAddr, hr1], hr2⟩
 ·obtain ⟨h1, ad, rfl, h2⟩ := hx
  obtain ⟨ob, ho, hd⟩ := Option.bind_eq_some_iff.1 hd
  obtain ⟨b, vs, T, g1, g2, g3, g4, g5, g6, -⟩ := data_row (hI.objs o ob ho).2 hd
  have := h2 b g1
  subst this
  have hc : ∀ j u, (vs.toList.take cs.length)[j]? = some u → w.cell? ((⟨b, 0, none⟩ : Addr).add j) = some u := by
   intro j u hj
   rw [wd, cell_of_row w b _ vs T (0, 0) g5]
   rw [List.getElem?_take] at hj
   split at hj
   ·simpa using hj
   ·cases hj
  obtain ⟨r, hr1, hr2⟩ := run_loadVar hu hn ha g6 hc h
  rw [wd, Nat.zero_add] at hr1
  exact ⟨r, by simp [Instr.loadAt, Instr.sureAddr, hr1], hr2⟩
theorem store_sound (hI : Inv w0 base G st w) {t n : Nat} {x y : AV} {v u : Value} (hx : Rep G w x v) (hy : Rep G w y u) (hn : sizeT P t = some n) {o off : Nat} {ob : AObj} {cs : List AV} (hxo : x = .ptr o off) (ho : st.objs o = some ob) (hd : dataOf ob = some cs)
  (hs : y.solid = true) (hl : y.cells.length = n) (hle : off + n ≤ cs.length) :
  ∃ w', (Instr.storeAt t v u).run P w = .ok () w' ∧ Ext base G w G w' ∧ Inv w0 base G (st.put o (withData ob (setMany cs off y.cells))) w' := by
 subst hxo
 obtain ⟨h1, ad, rfl, h2⟩ := hx
 obtain ⟨hu, hob⟩ := hI.objs o ob ho
 obtain ⟨b, vs, T, g1, g2, g3, g4, g5, g6, g7⟩ := data_row hob hd
 have := h2 b g1
 subst this
 have hyc := solid_cells hs hy
 have hcl := yw hyc
 have hsz : u.cells.size = n := by rw [Array.length_toList] at hcl; omega
 have hvl : (vs.toList.take cs.length).length = cs.length := yw g6
 have hvs : cs.length ≤ vs.size := by simp at hvl; omega
 have hst := run_storeCells_at P b off T u.cells.toList 0 vs w g5 (by simp; omega) (repC_one hyc)
 simp only [Nat.add_zero] at hst
 have hW := wrote_setRow (cs := (vs.toList.take off ++ u.cells.toList ++ vs.toList.drop (off + u.cells.toList.length)).toArray) g5
 obtain ⟨he, hinv⟩ := inv_write hI hu g1 g2 g3 g4 hW
 refine ⟨_, ?_, he, hinv _ (g7 _ _ _ hW.at_ ?_ ?_ (by simp only [setMany, List.length_append, List.length_take, List.length_drop]; omega))⟩
 ·simp only [Instr.storeAt, Instr.sureAddr, Sem.run_bind, Sem.run_pure, Result.andThen_ok, storeVar, uz hn]
  rw [if_neg (by simp [hsz])]
  exact hst
 ·simp only [List.size_toArray, List.length_append, List.length_take, List.length_drop, Array.length_toList]; omega
 ·have e1 : (setMany cs off y.cells).length = cs.length := by
   simp only [setMany, List.length_append, List.length_take, List.length_drop]; omega
  rw [e1]
  have e2 : ((vs.toList.take off ++ u.cells.toList ++ vs.toList.drop (off + u.cells.toList.length)).toArray.toList.take cs.length) =
    (vs.toList.take cs.length).take off ++ u.cells.toList ++ (vs.toList.take cs.length).drop (off + u.cells.toList.length) := by
   have hul : u.cells.toList.length = n := by simp [hsz]
   have hxl : (vs.toList.take off ++ u.cells.toList).length = off + n := by simp [hsz]; omega
   rw [List.toList_toArray, List.take_append, List.take_of_length_le (by omega), hxl, hul, List.take_take, Nat.min_eq_left (by omega), List.drop_take]
  rw [e2]
  exact repC_setMany (yd he _ _ g6) (yd he _ _ hyc)
end
end
section
section
variable {P : Program} {w0 : World} {base : Nat} {G : Gh} {st st' : St} {w : World} {env : Env} {a : Act}
theorem new_sound (hI : Inv w0 base G st w) {t k : Nat} {x : AV} {v : Value} (hx : Rep G w x v) (hs : x.solid = true) (hk : ¬ G.used k) (hkn : k < st.next) :
  ∃ r w' G', (do pure (.pointer (some (← newVar t v))) : Sem Value).run P w = .ok r w' ∧ Ext base G w G' w' ∧ (∀ o, G'.used o ↔ (o = k ∨ G.used o)) ∧ Inv w0 base G' (st.put k (.cells t x.cells)) w' ∧ Rep G' w' (.ptr k 0) r := by
 have hbel : Below w.heap.size w (w.alloc (.cells v.cells t)) := (Below.refl _ w).alloc (Nat.le_refl _) _
 have hh := heap_alloc_new w (.cells v.cells t)
 have hlim := (hI.fresh w.heap.size (Nat.le_refl _)).1
 have he := ext_addObj hI hbel (k := k) (b := w.heap.size) (c := 0) hk
 have hxc := solid_cells hs hx
 have hinv := inv_addObj hI hbel (k := k) (b := w.heap.size) (c := 0) hk hkn (Nat.le_refl _) (by simp) (.cells t x.cells)
  ⟨w.heap.size, v.cells, zd _ _ _, zd _ _ _, hI.size, hlim, hh, by
   rw [List.take_of_length_le (by rw [yw hxc]; exact Nat.le_refl _)]
   exact yd he _ _ hxc, by have := yw hxc; simpa using this⟩
 refine ⟨_, _, _, by simp [newVar, newRow]; rfl, he, fun o => Iff.rfl, hinv, .inl rfl, _, rfl, fun b hb => ?_⟩
 have : w.heap.size = b := Option.some.inj ((zd G.blk k (some w.heap.size)).symm.trans hb)
 subst this; rfl
theorem repC_bytes : ∀ bs : List UInt8, RepC G w (bs.map fun b => .int .u8 b.toNat) (byteCells ⟨⟨bs⟩⟩)
 | [] => rfl
 | b :: bs => ⟨_, _, rfl, rfl, rfl, repC_bytes bs⟩
theorem src_sound {size tx : Nat} {x : AV} {v : Value} (hx : Rep G w x v) {n : Nat} {ds : List AV} {str : Bool} (h : srcA str size x = some (n, ds)) (h1 : str = false → ∃ e', P.underlying tx = some (.slice e')) (h2 : str = true → P.underlying tx = some .string) :
  ∃ news, Src P size tx v n news w ∧ RepC G w ds news := by
 cases x with
 | sl ds' n' p =>
  simp only [srcA] at h
  split at h
  ·rename_i hl
   obtain ⟨hstr, hl⟩ := hl
   obtain ⟨e', htx⟩ := h1 hstr
   cases h
   obtain ⟨vs, ad, cap, h1, h2, rfl, h4, h5, h6, h7, h8, h9⟩ := hx
   refine ⟨vs, ?_, h1⟩
   have hvl := (yw h1).trans hl
   cases ad with
   | none =>
    have hn : n = 0 := by
     rcases Nat.eq_zero_or_pos n with h0 | h0
     ·exact h0
     ·exact absurd rfl (h9 h0)
    subst hn
    have : vs = [] := List.eq_nil_of_length_eq_zero (by simpa using hvl)
    subst this
    exact Src.ofNil w htx cap
   | some ad => exact Src.ofSlice w htx ad n cap vs hvl (held_cells h2) (repC_one h1)
  ·cases h
 | str bs =>
  simp only [srcA] at h
  split at h
  ·rename_i hs1
   obtain ⟨hstr, hs1⟩ := hs1
   have htx := h2 hstr
   cases h
   subst hs1
   obtain ⟨rfl, hle⟩ := hx
   exact ⟨byteCells ⟨⟨bs⟩⟩, Src.ofString w htx _, repC_bytes bs⟩
  ·cases h
 | _ => simp [srcA] at h
theorem append_sound (hI : Inv w0 base G st w) {t tx ty e size bytes k : Nat} (hE : Elem P t e size bytes) {s x : AV} {v u : Value} (hs : Rep G w s v) (hx : Rep G w x u) {cs ds : List AV} {len n : Nat} {p : Perm} (hse : s = .sl cs len p)
    {str : Bool} (hsrc : srcA str size x = some (n, ds)) (ht1 : str = false → ∃ e', P.underlying tx = some (.slice e')) (ht2 : str = true → P.underlying tx = some .string) (hk : ¬ G.used k) (hkn : k < st.next) {av : AV}
    (h : (n = 0 ∧ av = s ∧ st' = st) ∨ (n ≠ 0 ∧ cs.length = len * size ∧ (len + n) * bytes ≤ big ∧ len + n ≤ big ∧
      ((p = .full ∧ av = .sl (cs ++ ds) (len + n) (.tok k) ∧ st' = st.put k (.tip e size (len + n))) ∨
       (∃ t, p = .tok t ∧ st.objs t = some (.tip e size len) ∧ av = .sl (cs ++ ds) (len + n) (.tok t) ∧ st' = st.put t (.tip e size (len + n)))))) :
    ∃ r w' G', (Builtin.append_ #[t, tx] ty #[v, u]).run P w = .ok r w' ∧ Ext base G w G' w' ∧ (∀ o, G'.used o → (o = k ∨ G.used o)) ∧ Inv w0 base G' st' w' ∧ Rep G' w' av r := by
  subst hse
  obtain ⟨news, hS, hd⟩ := src_sound hx hsrc ht1 ht2
  rcases h with ⟨rfl, rfl, rfl⟩ | ⟨hn, hl, hb1, hb2, h⟩
  · have := src_zero hS
    subst this
    obtain ⟨vs, ad, cap, h1, h2, h3, h4, h5⟩ := id hs
    refine ⟨v, w, G, ?_, Ext.refl _ _ _, fun _ h => .inr h, hI, hs⟩
    rw [h3]
    exact run_append_none hE h4 hS
  · rcases h with ⟨rfl, rfl, rfl⟩ | ⟨t', rfl, ht', rfl, rfl⟩
    · obtain ⟨vs, ad, cap, h1, h2, rfl, h4, h5, h6, h7, h8, h9⟩ := hs
      obtain ⟨hcap, _⟩ := h7 rfl
      subst hcap
      obtain ⟨r, w', G', q1, q2, q3, q4, q5⟩ := append_grows (ty := ty) (cap := cap) hE hI hk hkn h1 h2 hl hS hd (by omega) hb1 hb2
      exact ⟨r, w', G', q1, q2, fun o ho => (q3 o).1 ho, q4, q5⟩
    · obtain ⟨r, w', G', q1, q2, q3, q4, q5⟩ := append_room (ty := ty) hE hI ht' hs hl hS hd (by omega) hb1 hb2
      exact ⟨r, w', G', q1, q2, fun o ho => .inr ((q3 o).1 ho), q4, q5⟩
theorem append_row_sound (hI : Inv w0 base G st w) {t tx ty e size bytes k : Nat} (hE : Elem P t e size bytes) {s x : AV} {v u : Value} (hs : Rep G w s v) (hx : Rep G w x u) {ds : List AV} {len n : Nat}
  (hsrc : srcA false size x = some (n, ds)) (ht1 : ∃ e', P.underlying tx = some (.slice e')) (hk : ¬ G.used k) (hkn : k < st.next) (hn : n ≠ 0) (hb1 : (len + n) * bytes ≤ big) (hb2 : len + n ≤ big)
  (h : (∃ cs, s = .sl cs len .full ∧ cs.length = len * size ∧ st' = st.put k (.row e size (cs ++ ds))) ∨
   (∃ o cs, s = .row o len ∧ st.objs o = some (.row e size cs) ∧ len * size ≤ cs.length ∧ st' = (st.del o).put k (.row e size (cs.take (len * size) ++ ds)))) :
  ∃ r w' G', (Builtin.append_ #[t, tx] ty #[v, u]).run P w = .ok r w' ∧ Ext base G w G' w' ∧ (∀ o, G'.used o → (o = k ∨ G.used o)) ∧ Inv w0 base G' st' w' ∧ Rep G' w' (.row k (len + n)) r := by
 obtain ⟨news, hS, hd⟩ := src_sound hx hsrc (fun _ => ht1) (fun h => by cases h)
 rcases h with ⟨cs, rfl, hl, rfl⟩ | ⟨o, cs, rfl, ho, hl, rfl⟩
 ·obtain ⟨vs, ad, cap, h1, h2, rfl, h4, h5, h6, h7, h8, h9⟩ := hs
  obtain ⟨hcap, _⟩ := h7 rfl
  subst hcap
  have hold := firstCells_held (P := P) (cap := cap) ((yw h1).trans hl) h2 w.drew (fun x u h => h)
  obtain ⟨r, w', G', q1, q2, q3, q4, q5⟩ := append_newrow (ty := ty) (cap := cap) hE hI hk hkn h1 hold hl hS hd (by omega) hb1 hb2
  exact ⟨r, w', G', q1, q2, fun o ho => (q3 o).1 ho, q4, q5⟩
 ·obtain ⟨r, w', G', q1, q2, q3, q4, q5⟩ := append_row (ty := ty) hE hI hk hkn ho hs hl hS hd (by omega) hb1 hb2
  exact ⟨r, w', G', q1, q2, fun o ho => (q3 o).1 ho, q4, q5⟩
theorem leafEq_now {k : BK} {x y : AV} {u v : Value} {b : Bool} (h : leafEq k x y = some b) (hx : Rep G w x u) (hy : Rep G w y v) {d : TypeDesc} (hd : k.desc d) : Instr.sameNow d u v = some b := by
 unfold leafEq at h
 split at h
 ·simp only [Rep] at hx hy
  subst hx; subst hy
  obtain ⟨k, rfl⟩ := hd
  split at h
  ·rename_i e; subst e; cases h; simp [Instr.sameNow]
  ·cases h
 ·obtain ⟨rfl, _⟩ := hx
  obtain ⟨rfl, _⟩ := hy
  cases hd; cases h
  simp [Instr.sameNow, beq_toListBytes, ba_toList]
 ·simp only [Rep] at hx hy
  subst hx; subst hy
  cases hd; cases h
  simp [Instr.sameNow]
 ·cases h
theorem findA_sound {kk : BK} {d : TypeDesc} (hd : kk.desc d) {key : AV} {kv : Value} (hk : Rep G w key kv) : ∀ (es : List (AV × AV)) (ms : List MapEntry) (i : Nat) (r : Option (Nat × AV)), RepE G w es ms → findA kk key es i = some r →
  (r = none ∧ Instr.findNow d kv ms i = some none) ∨ ∃ j av e, r = some (i + j, av) ∧ es[j]?.map (·.2) = some av ∧ ms[j]? = some e ∧ Instr.findNow d kv ms i = some (some (i + j, e.val)) ∧ Rep G w av e.val ∧ Instr.sameNow d kv e.key = some true
 | [], ms, i, r, h, hf => by
  obtain ⟨h1, h2⟩ := h
  have : ms = [] := by cases ms with
   | nil => rfl
   | cons m ms => simp [RepL] at h1
  subst this
  simp [findA] at hf
  subst hf
  exact .inl ⟨rfl, rfl⟩
 | (k, v) :: es, ms, i, r, h, hf => by
  obtain ⟨h1, h2⟩ := h
  cases ms with
  | nil => obtain ⟨u, us, e, _⟩ := h1; cases e
  | cons m ms =>
   obtain ⟨u, us, e, h3, h4⟩ := h1
   obtain ⟨u', us', e', h5, h6⟩ := h2
   cases e; cases e'
   simp only [findA] at hf
   split at hf
   ·rename_i hl
    cases hf
    have hn := leafEq_now hl hk h3 hd
    exact .inr ⟨0, v, m, rfl, rfl, rfl, by simp [Instr.findNow, hn], h5, hn⟩
   ·rename_i hl
    have hn := leafEq_now hl hk h3 hd
    rcases findA_sound hd hk es ms (i + 1) r ⟨h4, h6⟩ hf with ⟨rfl, hq⟩ | ⟨j, av, e, rfl, q1, q2, q3, q4, q5⟩
    ·exact .inl ⟨rfl, by simp [Instr.findNow, hn, hq]⟩
    ·exact .inr ⟨j + 1, av, e, by rw [Nat.add_assoc, Nat.add_comm 1], by simpa using q1, by simpa using q2, by simp only [Instr.findNow, hn, q3]; rw [Nat.add_assoc, Nat.add_comm 1], q4, q5⟩
   ·cases hf
theorem run_checkKey {t : TypeId} {d : TypeDesc} {kk : BK} (ht : P.underlying t = some d) (hd : kk.desc d) (v : Value) (b : Bool) (n : Nat) (w : World) : (Instr.checkKey b (n + 1) t v).run P w = .ok () w := by
 cases kk <;> simp only [BK.desc] at hd
 ·obtain ⟨k, rfl⟩ := hd; simp [Instr.checkKey, run_underlying ht]
 ·subst hd; simp [Instr.checkKey, run_underlying ht]
 ·subst hd; simp [Instr.checkKey, run_underlying ht]
theorem run_findKey {t : TypeId} {d : TypeDesc} (ht : P.underlying t = some d) {k : Value} {es : List MapEntry} {r : Option (Nat × Value)} (h : Instr.findNow d k es 0 = some r) (w : World) : (Instr.findKey t k es).run P w = .ok r w := by
 simp [Instr.findKey, run_underlying ht, h]
theorem run_getObj {b : Nat} {ms : Array MapEntry} {clock : Nat} (h : w.heap[b]? = some (.map ms clock)) : (getObj b).run P w = .ok (.map ms clock) w := by
 simp [getObj, Sem.run, h]
theorem lookup_sound (hI : Inv w0 base G st w) {t kt et : TypeId} {d : TypeDesc} {kk : BK} {zero : AV} {ok : Bool} (ht : P.underlying t = some (.map kt et)) (hkt : P.underlying kt = some d) (hd : kk.desc d) (hz : zeroT P et = some zero) {m key : AV} {mv kv : Value} (hm : Rep G w m mv) (hk : Rep G w key kv) {av : AV}
  (h : (m = .nilmap ∧ av = (if ok then .tuple [zero, .bool false] else zero)) ∨
   (∃ o es, m = .map o ∧ st.objs o = some (.map es) ∧ ((∃ i v, findA kk key es 0 = some (some (i, v)) ∧ av = (if ok then .tuple [v, .bool true] else v)) ∨ (findA kk key es 0 = some none ∧ av = (if ok then .tuple [zero, .bool false] else zero))))) :
  ∃ r, (Instr.lookup t mv kv ok).run P w = .ok r w ∧ Rep G w av r := by
 obtain ⟨i, zv, hi, hzv, hc⟩ := zeroT_sound hz
 have hrz := ofConst_sound hc G w
 have hz' := run_zero (P := P) hi hzv w
 have hck := fun b => run_checkKey (P := P) hkt hd kv b 9999 w
 rcases h with ⟨rfl, rfl⟩ | ⟨o, es, rfl, ho, h⟩
 ·simp only [Rep] at hm
  subst hm
  have hf := run_findKey (P := P) hkt (k := kv) (es := []) (r := none) rfl w
  refine ⟨if ok then .tuple #[zv, .bool false] else zv, ?_, ?_⟩
  ·simp only [Instr.lookup, Sem.run_bind, run_underlying ht, Result.andThen_ok, Sem.run_pure]
   rw [hck]
   simp only [Result.andThen_ok, hf, Sem.run_bind, hz', Sem.run_pure]
  ·cases ok
   ·simpa using hrz
   ·exact ⟨[zv, .bool false], rfl, zv, _, rfl, hrz, _, _, rfl, rfl, rfl⟩
 ·obtain ⟨hu, ad, rfl, hb⟩ := hm
  obtain ⟨b, ms, clock, g1, g2, g3, g4, g5, g6⟩ := (hI.objs o _ ho).2
  have := hb b g1
  subst this
  have hget := run_getObj (P := P) g5
  rcases h with ⟨i, v, hf, rfl⟩ | ⟨hf, rfl⟩
  ·rcases findA_sound hd hk es ms.toList 0 _ g6 hf with ⟨h1, _⟩ | ⟨j, v', e, h1, _, _, h4, h5, _⟩
   ·cases h1
   ·cases h1
    have hfk := run_findKey (P := P) hkt h4 w
    refine ⟨if ok then .tuple #[e.val, .bool true] else e.val, ?_, ?_⟩
    ·simp only [Instr.lookup, Sem.run_bind, run_underlying ht, Result.andThen_ok, Sem.run_pure, hget]
     rw [hck]
     simp only [Result.andThen_ok, hfk, Sem.run_pure]
     try rfl
    ·cases ok
     ·simpa using h5
     ·exact ⟨[e.val, .bool true], rfl, _, _, rfl, h5, _, _, rfl, rfl, rfl⟩
  ·rcases findA_sound hd hk es ms.toList 0 _ g6 hf with ⟨_, h4⟩ | ⟨j, v', e, h1, _⟩
   ·have hfk := run_findKey (P := P) hkt h4 w
    refine ⟨if ok then .tuple #[zv, .bool false] else zv, ?_, ?_⟩
    ·simp only [Instr.lookup, Sem.run_bind, run_underlying ht, Result.andThen_ok, Sem.run_pure, hget]
     rw [hck]
     simp only [Result.andThen_ok, hfk, Sem.run_bind, hz', Sem.run_pure]
     try rfl
    ·cases ok
     ·simpa using hrz
     ·exact ⟨[zv, .bool false], rfl, zv, _, rfl, hrz, _, _, rfl, rfl, rfl⟩
   ·cases h1
end
end
end Go.Proofs.YthaekebedmoipaaGreatDoor.AM
