/- Part 6 of the proof: P2 D1 F1 F2 F3 P1 F4 P3 F5 F6 F7 F8 F9 F10 F11 F12 F13 F14 F15. -/
import Derived.Test.YthaekebedmoipaaGreatDoorJ4
import Derived.Test.YthaekebedmoipaaGreatDoorJ5
import Derived.Below
import Derived.Test.YthaekebedmoipaaGreatDoorJ3
import Derived.Shelf.Strings.Builder1
set_option linter.unusedVariables false
set_option linter.unusedSimpArgs false
set_option linter.unusedSectionVars false
set_option maxRecDepth 100000
namespace Go.Proofs.YthaekebedmoipaaGreatDoor.AM
open Go Go.RowKit
section
variable {w0 : World} {base : Nat}
structure Tabs (w0 : World) (base : Nat) : Prop where
 pow : Lib.TabIs Tryz.prog w0 "internal/strconv.uint64pow10" .u64 Lib.pow10Tab
 size : base = w0.heap.size
theorem det_below {P : Program} {f : FuncId} {args : List AV} {st : St} {r : AV} {v : Value} (hE : Enters P f) (hr : ∀ G w, Rep G w r v)
  (h : ∀ (G : Gh) (w : World) (us : List Value), Below base w0 w → RepL G w args us → Calls P f ⟨us⟩ w fun e w' => e = .returned v ∧ Below w.heap.size w w') : Det P w0 base f args st r st := by
 refine ⟨hE, Nat.le_refl _, fun _ _ h => h, fun X G w us hX hI hR => (h G w us hI.old hR).mono ?_⟩
 rintro e w' ⟨rfl, hb⟩
 exact ⟨v, G, rfl, ext_below hI.size hb, fun _ _ h => h, inv_below hI hb, hr _ _⟩
theorem below_grow (w : World) (k : Nat) (os : Array Obj) : Below w.heap.size w (Sort.grow (w.drewN k) os) :=
 ⟨rfl, rfl, rfl, by simp [Sort.grow], fun j hj => by simp [Sort.grow, Array.getElem?_append_left hj]⟩
theorem tab_keeps {P : Program} {nm : String} {g : Nat} {k : IntKind} {zs : List Int} {w w' : World} (hg : P.globalNamed nm = some g) (h : Lib.TabIs P w nm k zs) (hb : Below w.heap.size w w') : Lib.TabIs P w' nm k zs := by
 simp only [Lib.TabIs, World.var?, hg, Option.bind_some] at h ⊢
 rcases Nat.lt_or_ge g w.heap.size with hlt | hge
 ·rw [hb.block g hlt]; exact h
 ·rw [Array.getElem?_eq_none hge] at h; simp at h
theorem dec_small : ∀ (k u : Nat), u < 10 ^ k → (Lib.decDigits u).length ≤ k + 1 := by
 intro k
 induction k with
 | zero => intro u hu; rw [Lib.decDigits]; split <;> simp; omega
 | succ k ih =>
  intro u hu
  rw [Lib.decDigits]
  split
  ·simp
  ·have := ih (u / 10) (by rw [Nat.pow_succ] at hu; omega)
   simp only [List.length_append, List.length_singleton]
   omega
theorem itoa_fit (n : Int) (h0 : -9223372036854775808 ≤ n) (h1 : n ≤ 9223372036854775807) : (Lib.itoa n).length ≤ 21 := by
 unfold Lib.itoa
 split
 ·have := dec_small 19 n.natAbs (by omega)
  simp only [List.length_cons]; omega
 ·have := dec_small 19 n.toNat (by omega)
  omega
theorem d124 (hT : Tabs w0 base) (st : St) (n : Int) (h0 : -9223372036854775808 ≤ n) (h1 : n ≤ 9223372036854775807) : Det Tryz.prog w0 base 124 [.int .i64 n] st (.str (Lib.itoa n)) st := by
 refine det_below (v := .string ⟨(Lib.itoa n).toArray⟩) (zp Tryz.func124 r124) (fun G w => ⟨rfl, Nat.le_trans (itoa_fit n h0 h1) (by decide)⟩) ?_
 intro G w us hB hR
 obtain ⟨u, us', rfl, hu, rfl⟩ := hR
 obtain rfl : u = .int .i64 n := hu
 have ht : Lib.TabIs Tryz.prog w "internal/strconv.uint64pow10" .u64 Lib.pow10Tab := tab_keeps (g := Tryz.laysItoa_ren.g 17) (by kernel_rfl) hT.pow (by rw [hT.size] at hB; exact hB)
 refine (Any.strconv_Itoa Tryz.laysItoa n h0 h1 w ht).mono ?_
 rintro e w' ⟨rfl, k, os, rfl⟩
 exact ⟨rfl, below_grow _ _ _⟩
end
section
abbrev Str := List UInt8
inductive Ex where
 | mk (kind op typ : Int) (name : Str) (v : Int) (a : List Ex)
inductive Sm where
 | mk (kind op typ bound : Int) (name : Str) (x y : Ex) (body els : List Sm)
structure Ar where
 name : Str
 space : Int
 typ : Int
 len : Int
structure Pa where
 name : Str
 typ : Int
structure Fu where
 name : Str
 params : List Pa
 typ : Int
 body : List Sm
 ret : Ex
structure Ke where
 name : Str
 group : Int
 sub : Int
 arrays : List Ar
 params : List Pa
 funcs : List Fu
 body : List Sm
@[reducible] def vi (n : Int) : AV := .int .i64 n
@[reducible] def Ex.kind : Ex → Int | .mk k _ _ _ _ _ => k
@[reducible] def Ex.op : Ex → Int | .mk _ o _ _ _ _ => o
@[reducible] def Ex.typ : Ex → Int | .mk _ _ t _ _ _ => t
@[reducible] def Ex.name : Ex → Str | .mk _ _ _ n _ _ => n
@[reducible] def Ex.v : Ex → Int | .mk _ _ _ _ v _ => v
@[reducible] def Ex.a : Ex → List Ex | .mk _ _ _ _ _ a => a
@[reducible] def Sm.kind : Sm → Int | .mk k _ _ _ _ _ _ _ _ => k
@[reducible] def Sm.op : Sm → Int | .mk _ o _ _ _ _ _ _ _ => o
@[reducible] def Sm.typ : Sm → Int | .mk _ _ t _ _ _ _ _ _ => t
@[reducible] def Sm.bound : Sm → Int | .mk _ _ _ b _ _ _ _ _ => b
@[reducible] def Sm.name : Sm → Str | .mk _ _ _ _ n _ _ _ _ => n
@[reducible] def Sm.x : Sm → Ex | .mk _ _ _ _ _ x _ _ _ => x
@[reducible] def Sm.y : Sm → Ex | .mk _ _ _ _ _ _ y _ _ => y
@[reducible] def Sm.body : Sm → List Sm | .mk _ _ _ _ _ _ _ b _ => b
@[reducible] def Sm.els : Sm → List Sm | .mk _ _ _ _ _ _ _ _ e => e
def rowOf {α : Type} (f : α → List AV) : List α → List AV
 | [] => []
 | x :: l => f x ++ rowOf f l
mutual
def Ex.cells : Ex → List AV
 | .mk k o t n v a => [.int .i64 k, .int .i64 o, .int .i64 t, .str n, .int .i32 v, .sl (Ex.cellsL a) a.length .no]
def Ex.cellsL : List Ex → List AV
 | [] => []
 | e :: l => e.cells ++ Ex.cellsL l
end
mutual
def Sm.cells : Sm → List AV
 | .mk k o t b n x y body els => [.int .i64 k, .int .i64 o, .int .i64 t, .int .i64 b, .str n] ++ x.cells ++ y.cells ++ [.sl (Sm.cellsL body) body.length .no, .sl (Sm.cellsL els) els.length .no]
def Sm.cellsL : List Sm → List AV
 | [] => []
 | s :: l => s.cells ++ Sm.cellsL l
end
def Ar.cells (x : Ar) : List AV := [.str x.name, .int .i64 x.space, .int .i64 x.typ, .int .i64 x.len]
def Pa.cells (x : Pa) : List AV := [.str x.name, .int .i64 x.typ]
def Fu.cells (x : Fu) : List AV := [.str x.name, .sl (rowOf Pa.cells x.params) x.params.length .no, .int .i64 x.typ, .sl (Sm.cellsL x.body) x.body.length .no] ++ x.ret.cells
def Ke.cells (x : Ke) : List AV := [.str x.name, .int .i64 x.group, .int .i64 x.sub, .sl (rowOf Ar.cells x.arrays) x.arrays.length .no, .sl (rowOf Pa.cells x.params) x.params.length .no,
 .sl (rowOf Fu.cells x.funcs) x.funcs.length .no, .sl (Sm.cellsL x.body) x.body.length .no]
theorem Ex.cells_eq : ∀ e : Ex, e.cells = [.int .i64 e.kind, .int .i64 e.op, .int .i64 e.typ, .str e.name, .int .i32 e.v, .sl (Ex.cellsL e.a) e.a.length .no]
 | .mk _ _ _ _ _ _ => by simp only [Ex.cells]
theorem Sm.cells_eq : ∀ s : Sm, s.cells = [.int .i64 s.kind, .int .i64 s.op, .int .i64 s.typ, .int .i64 s.bound, .str s.name] ++ s.x.cells ++ s.y.cells ++ [.sl (Sm.cellsL s.body) s.body.length .no, .sl (Sm.cellsL s.els) s.els.length .no]
 | .mk _ _ _ _ _ _ _ _ _ => by simp only [Sm.cells]
mutual
theorem Ex.ind {p : Ex → Prop} (h : ∀ k op t n v a, (∀ x ∈ a, p x) → p (.mk k op t n v a)) : ∀ e, p e
 | .mk k op t n v a => h k op t n v a (Ex.indL h a)
theorem Ex.indL {p : Ex → Prop} (h : ∀ k op t n v a, (∀ x ∈ a, p x) → p (.mk k op t n v a)) : ∀ l : List Ex, ∀ x ∈ l, p x
 | [] => fun x hx => absurd hx (by simp)
 | e :: l => fun x hx => (List.mem_cons.1 hx).elim (fun e' => e' ▸ Ex.ind h e) (fun hx => Ex.indL h l x hx)
end
mutual
theorem Sm.ind {p : Sm → Prop} (h : ∀ k op t b n x y body els, (∀ s ∈ body, p s) → (∀ s ∈ els, p s) → p (.mk k op t b n x y body els)) : ∀ s, p s
 | .mk k op t b n x y body els => h k op t b n x y body els (Sm.indL h body) (Sm.indL h els)
theorem Sm.indL {p : Sm → Prop} (h : ∀ k op t b n x y body els, (∀ s ∈ body, p s) → (∀ s ∈ els, p s) → p (.mk k op t b n x y body els)) : ∀ l : List Sm, ∀ s ∈ l, p s
 | [] => fun x hx => absurd hx (by simp)
 | e :: l => fun x hx => (List.mem_cons.1 hx).elim (fun e' => e' ▸ Sm.ind h e) (fun hx => Sm.indL h l x hx)
end
@[simp] theorem Ex.cells_len (e : Ex) : e.cells.length = 6 := by rw [Ex.cells_eq]; rfl
@[simp] theorem Sm.cells_len (s : Sm) : s.cells.length = 19 := by rw [Sm.cells_eq]; simp
@[simp] theorem Ar.cells_len (x : Ar) : x.cells.length = 4 := rfl
@[simp] theorem Pa.cells_len (x : Pa) : x.cells.length = 2 := rfl
@[simp] theorem Fu.cells_len (x : Fu) : x.cells.length = 10 := by simp [Fu.cells]
@[simp] theorem Ke.cells_len (x : Ke) : x.cells.length = 7 := rfl
theorem Ex.cellsL_row (l : List Ex) : Ex.cellsL l = rowOf Ex.cells l := by
 induction l with
 | nil => simp [Ex.cellsL, rowOf]
 | cons e l ih => simp only [Ex.cellsL, rowOf, ih]
theorem Sm.cellsL_row (l : List Sm) : Sm.cellsL l = rowOf Sm.cells l := by
 induction l with
 | nil => simp [Sm.cellsL, rowOf]
 | cons e l ih => simp only [Sm.cellsL, rowOf, ih]
section
variable {α : Type} {f : α → List AV} {n : Nat}
@[simp] theorem rowOf_nil : rowOf f [] = [] := rfl
theorem xj (x : α) (l : List α) : rowOf f (x :: l) = f x ++ rowOf f l := rfl
theorem rowOf_append (a b : List α) : rowOf f (a ++ b) = rowOf f a ++ rowOf f b := by
 induction a with
 | nil => rfl
 | cons x a ih => simp [xj, ih]
theorem x5 (h : ∀ x, (f x).length = n) (l : List α) : (rowOf f l).length = l.length * n := by
 induction l with
 | nil => simp
 | cons x l ih => rw [xj, List.length_append, ih, h, List.length_cons, Nat.succ_mul, Nat.add_comm]
theorem rowOf_drop (h : ∀ x, (f x).length = n) : ∀ (l : List α) (j : Nat), (rowOf f l).drop (j * n) = rowOf f (l.drop j)
 | [], j => by simp
 | x :: l, 0 => by simp
 | x :: l, j + 1 => by
  rw [xj, List.drop_succ_cons, ← rowOf_drop h l j, Nat.succ_mul, Nat.add_comm (j * n) n, ← List.drop_drop]
  congr 1
  rw [List.drop_append, h x, Nat.sub_self, List.drop_zero, List.drop_of_length_le (by rw [h x]; exact Nat.le_refl _), List.nil_append]
theorem ur (h : ∀ x, (f x).length = n) : ∀ (l : List α) (j : Nat), (rowOf f l).take (j * n) = rowOf f (l.take j)
 | [], j => by simp
 | x :: l, 0 => by simp
 | x :: l, j + 1 => by
  rw [List.take_succ_cons, xj, xj, ← ur h l j, Nat.succ_mul, Nat.add_comm (j * n) n, List.take_append, h x, Nat.add_sub_cancel_left, List.take_of_length_le (by rw [h x]; omega)]
theorem yg (h : ∀ x, (f x).length = n) {l : List α} {j : Nat} {x : α} (hj : l[j]? = some x) : ((rowOf f l).drop (j * n)).take n = f x := by
 rw [rowOf_drop h]
 obtain ⟨hlt, e⟩ := List.getElem?_eq_some_iff.1 hj
 rw [List.drop_eq_getElem_cons hlt, e, xj, List.take_append, h x, Nat.sub_self, List.take_zero, List.append_nil, List.take_of_length_le (by rw [h x]; exact Nat.le_refl _)]
theorem rowOf_get (h : ∀ x, (f x).length = n) {l : List α} {j k : Nat} {x : α} (hj : l[j]? = some x) (hk : k < n) : (rowOf f l)[j * n + k]? = (f x)[k]? := by
 have := yg h hj
 rw [← this, List.getElem?_take, if_pos hk, List.getElem?_drop]
theorem ye (h : ∀ x, (f x).length = n) {l : List α} {j : Nat} {x : α} (hj : l[j]? = some x) : j * n + n ≤ (rowOf f l).length := by
 rw [x5 h]
 obtain ⟨hlt, _⟩ := List.getElem?_eq_some_iff.1 hj
 have : (j + 1) * n ≤ l.length * n := Nat.mul_le_mul_right n hlt
 rwa [Nat.succ_mul] at this
end
end
section
variable {w0 : World} {base : Nat}
def strs (l : List Str) : List AV := l.map .str
def wSpaces : List Str := [[103, 108, 111, 98, 97, 108], [115, 104, 97, 114, 101, 100], [112, 114, 105, 118, 97, 116, 101]]
theorem d126 (st : St) : Det Tryz.prog w0 base 126 [] st (.sl (strs wSpaces) 3 .full) st := by
 refine zh (zp Tryz.func126 r126) fun hwf hfit => z6 Tryz.func126 r126 rfl ?_
 unfold b126
 simp -dsimp -implicitDefEqProofs [strs, wSpaces]
 refine zg hwf (fun p hp => ?_) (by simp [eraseA, eraseL])
 simp
def wTypes : List Str := [[105, 110, 116], [102, 105, 120], [98, 111, 111, 108]]
theorem d156 (st : St) : Det Tryz.prog w0 base 156 [] st (.sl (strs wTypes) 3 .full) st := by
 refine zh (zp Tryz.func156 r156) fun hwf hfit => z6 Tryz.func156 r156 rfl ?_
 unfold b156
 simp -dsimp -implicitDefEqProofs [strs, wTypes]
 refine zg hwf (fun p hp => ?_) (by simp [eraseA, eraseL])
 simp
def wUnaries : List Str := [[110, 101, 103], [110, 111, 116], [97, 98, 115], [102, 105, 120], [105, 110, 116]]
theorem d199 (st : St) : Det Tryz.prog w0 base 199 [] st (.sl (strs wUnaries) 5 .full) st := by
 refine zh (zp Tryz.func199 r199) fun hwf hfit => z6 Tryz.func199 r199 rfl ?_
 unfold b199
 simp -dsimp -implicitDefEqProofs [strs, wUnaries]
 refine zg hwf (fun p hp => ?_) (by simp [eraseA, eraseL])
 simp
def wOthers : List Str := [[107, 101, 114, 110, 101, 108], [103, 114, 111, 117, 112], [115, 117, 98], [112, 97, 114, 97, 109], [102, 117, 110, 99], [98, 111, 111, 108], [118, 97, 114], [105, 102], [101, 108, 115, 101], [119, 104, 105, 108, 101], [109, 111, 115, 116], [98, 114, 101, 97, 107], [99, 111, 110, 116, 105, 110, 117, 101], [114, 101, 116, 117, 114, 110], [98, 97, 114, 114, 105, 101, 114], [102, 101, 110, 99, 101], [100, 101, 118, 105, 99, 101], [97, 116, 111, 109, 105, 99], [116, 114, 117, 101], [102, 97, 108, 115, 101]]
theorem d207 (st : St) : Det Tryz.prog w0 base 207 [] st (.sl (strs wOthers) 20 .full) st := by
 refine zh (zp Tryz.func207 r207) fun hwf hfit => z6 Tryz.func207 r207 rfl ?_
 unfold b207
 simp -dsimp -implicitDefEqProofs [strs, wOthers]
 refine zg hwf (fun p hp => ?_) (by simp [eraseA, eraseL])
 simp
def wCollects : List Str := [[98, 97, 108, 108, 111, 116], [97, 110, 121], [97, 108, 108], [115, 104, 117, 102, 102, 108, 101], [115, 99, 97, 110], [115, 117, 109]]
theorem d208 (st : St) : Det Tryz.prog w0 base 208 [] st (.sl (strs wCollects) 6 .full) st := by
 refine zh (zp Tryz.func208 r208) fun hwf hfit => z6 Tryz.func208 r208 rfl ?_
 unfold b208
 simp -dsimp -implicitDefEqProofs [strs, wCollects]
 refine zg hwf (fun p hp => ?_) (by simp [eraseA, eraseL])
 simp
def wAtomics : List Str := [[97, 100, 100], [109, 105, 110], [109, 97, 120], [97, 110, 100], [111, 114], [120, 111, 114]]
theorem d209 (st : St) : Det Tryz.prog w0 base 209 [] st (.sl (strs wAtomics) 6 .full) st := by
 refine zh (zp Tryz.func209 r209) fun hwf hfit => z6 Tryz.func209 r209 rfl ?_
 unfold b209
 simp -dsimp -implicitDefEqProofs [strs, wAtomics]
 refine zg hwf (fun p hp => ?_) (by simp [eraseA, eraseL])
 simp
def wIds : List Str := [[64, 105, 116, 101, 109], [64, 108, 111, 99, 97, 108], [64, 103, 114, 111, 117, 112], [64, 105, 116, 101, 109, 115], [64, 115, 105, 122, 101], [64, 108, 97, 110, 101], [64, 115, 117, 98]]
theorem d198 (st : St) : Det Tryz.prog w0 base 198 [] st (.sl (strs wIds) 7 .full) st := by
 refine zh (zp Tryz.func198 r198) fun hwf hfit => z6 Tryz.func198 r198 rfl ?_
 unfold b198
 simp -dsimp -implicitDefEqProofs [strs, wIds]
 refine zg hwf (fun p hp => ?_) (by simp [eraseA, eraseL])
 simp
def wChoices : List Str := [[109, 105, 110], [109, 97, 120]]
theorem d220 (st : St) : Det Tryz.prog w0 base 220 [] st (.sl (strs wChoices) 2 .full) st := by
 refine zh (zp Tryz.func220 r220) fun hwf hfit => z6 Tryz.func220 r220 rfl ?_
 unfold b220
 simp -dsimp -implicitDefEqProofs [strs, wChoices]
 refine zg hwf (fun p hp => ?_) (by simp [eraseA, eraseL])
 simp
def wBinaries : List Str := [[43], [45], [42], [47], [37], [42, 46], [47, 46], [38], [124], [94], [60, 60], [62, 62], [], [], [61, 61], [33, 61], [60], [60, 61], [62], [62, 61]]
theorem d221 (st : St) : Det Tryz.prog w0 base 221 [] st (.sl (strs wBinaries) 20 .full) st := by
 refine zh (zp Tryz.func221 r221) fun hwf hfit => z6 Tryz.func221 r221 rfl ?_
 unfold b221
 simp -dsimp -implicitDefEqProofs [strs, wBinaries]
 refine zg hwf (fun p hp => ?_) (by simp [eraseA, eraseL])
 simp
def wScopes : List Str := [[103, 114, 111, 117, 112], [100, 101, 118, 105, 99, 101]]
theorem d231 (st : St) : Det Tryz.prog w0 base 231 [] st (.sl (strs wScopes) 2 .full) st := by
 refine zh (zp Tryz.func231 r231) fun hwf hfit => z6 Tryz.func231 r231 rfl ?_
 unfold b231
 simp -dsimp -implicitDefEqProofs [strs, wScopes]
 refine zg hwf (fun p hp => ?_) (by simp [eraseA, eraseL])
 simp
theorem d50 (st : St) (t : Int) : Det Tryz.prog w0 base 50 [vi t] st (.bool (t == 1 || t == 2 || t == 3)) st := by
 refine zh (zp Tryz.func50 r50) fun hwf hfit => z6 Tryz.func50 r50 rfl ?_
 unfold b50
 simp -dsimp -implicitDefEqProofs
 repeat' (first | (refine Br_iff (fun hb => ?_) (fun hb => ?_) <;> simp -dsimp -implicitDefEqProofs [*]))
 all_goals (refine zg hwf (fun p hp => ?_) ?_ <;> simp_all [eraseA])
theorem or32 (c : UInt8) : IntKind.u8.wrap ((c.toNat % 2 ^ IntKind.u8.bits ||| 32 % 2 ^ IntKind.u8.bits : Nat) : Int) = ((c.toNat ||| 32 : Nat) : Int) := by
 have : ∀ c : _root_.Fin 256, IntKind.u8.wrap ((c.val % 2 ^ IntKind.u8.bits ||| 32 % 2 ^ IntKind.u8.bits : Nat) : Int) = ((c.val ||| 32 : Nat) : Int) := by decide +kernel
 exact this ⟨c.toNat, c.toNat_lt⟩
def isLetterP (c : UInt8) : Bool := decide (97 ≤ ((c.toNat ||| 32 : Nat) : Int)) && decide (((c.toNat ||| 32 : Nat) : Int) ≤ 122)
def isDigitP (c : UInt8) : Bool := decide (48 ≤ (c.toNat : Int)) && decide ((c.toNat : Int) ≤ 57)
def vb (c : UInt8) : AV := .int .u8 c.toNat
theorem d189 (st : St) (c : UInt8) : Det Tryz.prog w0 base 189 [vb c] st (.bool (isLetterP c)) st := by
 refine zh (zp Tryz.func189 r189) fun hwf hfit => z6 Tryz.func189 r189 rfl ?_
 unfold b189 isLetterP
 have h := or32 c
 generalize ((c.toNat ||| 32 : Nat) : Int) = x at *
 simp -dsimp -implicitDefEqProofs [vb, h]
 repeat' (first | (refine Br_iff (fun hb => ?_) (fun hb => ?_) <;> simp -dsimp -implicitDefEqProofs [*, vb]))
 all_goals (refine zg hwf (fun p hp => ?_) ?_ <;> simp_all [eraseA] <;> omega)
theorem d211 (st : St) (c : UInt8) : Det Tryz.prog w0 base 211 [vb c] st (.bool (isDigitP c)) st := by
 refine zh (zp Tryz.func211 r211) fun hwf hfit => z6 Tryz.func211 r211 rfl ?_
 unfold b211 isDigitP vb
 generalize (c.toNat : Int) = x at *
 simp -dsimp -implicitDefEqProofs
 repeat' (first | (refine Br_iff (fun hb => ?_) (fun hb => ?_) <;> simp -dsimp -implicitDefEqProofs [*, vb]))
 all_goals (refine zg hwf (fun p hp => ?_) ?_ <;> simp_all [eraseA] <;> omega)
end
section
variable {w0 : World} {base : Nat}
def indexP {α : Type} [BEq α] (x : α) : List α → Int
 | [] => -1
 | y :: l => if y == x then 0 else if indexP x l = -1 then -1 else indexP x l + 1
theorem index_drop {α : Type} [BEq α] (x : α) (l : List α) (j : Nat) (y : α) (h : l[j]? = some y) : indexP x (l.drop j) = if y == x then 0 else if indexP x (l.drop (j + 1)) = -1 then -1 else indexP x (l.drop (j + 1)) + 1 := by
 obtain ⟨hlt, e⟩ := List.getElem?_eq_some_iff.1 h
 rw [List.drop_eq_getElem_cons hlt, e]
 rfl
theorem index_ge {α : Type} [BEq α] (x : α) (l : List α) : -1 ≤ indexP x l := by
 induction l with
 | nil => simp [indexP]
 | cons y l ih => simp only [indexP]; split <;> (try split) <;> omega
theorem d223 (st : St) (l : List Str) (x : Str) : Det Tryz.prog w0 base 223 [.sl (strs l) l.length .no, .str x] st (vi (indexP x l)) st := by
 refine zh (zp Tryz.func223 r223) fun hwf hfit => z6 Tryz.func223 r223 rfl ?_
 have hlen : l.length ≤ big := hfit.1.1
 unfold big at hlen
 unfold b223 strs
 simp -dsimp -implicitDefEqProofs
 refine y1 (d := 9) (x := 8) (n := 7) (y := 18) l.length (fun j e s => (indexP x l = if indexP x (l.drop j) = -1 then -1 else indexP x (l.drop j) + j) ∧ s.objs = st.objs) hlen rfl rfl ⟨by simp [indexP], rfl⟩ rfl (fun j e e' s k h _ => h) ?_ ?_
 ·rintro j e s hj hf hx ⟨hI, hs⟩
  have e1 := hf 1 rfl
  have e0 := hf 0 rfl
  simp at e1 e0
  obtain ⟨y, hy⟩ : ∃ y, l[j]? = some y := ⟨_, List.getElem?_eq_getElem hj⟩
  have hy' : l[j] = y := by simpa [hj] using hy
  have hd := index_drop x l j y hy
  have hg := index_ge x (l.drop (j + 1))
  simp -dsimp -implicitDefEqProofs [e1, e0, hx, hj, hy', hy]
  refine Br_iff (fun hb => ?_) (fun hb => ?_)
  ·simp -dsimp -implicitDefEqProofs [e1, e0, hx, hj, hy']
   refine zg hwf (fun p hp => ?_) ?_
   ·simp [hs]
   ·have : y = x := by simp_all
    simp_all [eraseA]
  ·simp -dsimp -implicitDefEqProofs
   refine hold ⟨?_, by simp [hs]⟩
   have : (y == x) = false := by
    simp at hb ⊢
    exact fun h => hb h.symm
   rw [this] at hd
   rw [hI, hd]
   push_cast
   try simp only [Bool.false_eq_true, if_false]
   split <;> (try split) <;> (try split) <;> omega
 ·rintro e s hf ⟨hI, hs⟩
  simp -dsimp -implicitDefEqProofs
  refine zg hwf (fun p hp => ?_) ?_
  ·simp [hs]
  ·simp [indexP] at hI
   simp [hI, eraseA]
theorem d194 (st : St) (l : List Int) (x : Int) : Det Tryz.prog w0 base 194 [.sl (l.map (AV.int .i64)) l.length .no, .int .i64 x] st (vi (indexP x l)) st := by
 refine zh (zp Tryz.func194 r194) fun hwf hfit => z6 Tryz.func194 r194 rfl ?_
 have hlen : l.length ≤ big := hfit.1.1
 unfold big at hlen
 unfold b194
 simp -dsimp -implicitDefEqProofs
 refine y1 (d := 9) (x := 8) (n := 7) (y := 18) l.length (fun j e s => (indexP x l = if indexP x (l.drop j) = -1 then -1 else indexP x (l.drop j) + j) ∧ s.objs = st.objs) hlen rfl rfl ⟨by simp [indexP], rfl⟩ rfl (fun j e e' s k h _ => h) ?_ ?_
 ·rintro j e s hj hf hx ⟨hI, hs⟩
  have e1 := hf 1 rfl
  have e0 := hf 0 rfl
  simp at e1 e0
  obtain ⟨y, hy⟩ : ∃ y, l[j]? = some y := ⟨_, List.getElem?_eq_getElem hj⟩
  have hy' : l[j] = y := by simpa [hj] using hy
  have hd := index_drop x l j y hy
  have hg := index_ge x (l.drop (j + 1))
  simp -dsimp -implicitDefEqProofs [e1, e0, hx, hj, hy', hy]
  refine Br_iff (fun hb => ?_) (fun hb => ?_)
  ·simp -dsimp -implicitDefEqProofs [e1, e0, hx, hj, hy']
   refine zg hwf (fun p hp => ?_) ?_
   ·simp [hs]
   ·have : y = x := by simp_all
    simp_all [eraseA]
  ·simp -dsimp -implicitDefEqProofs
   refine hold ⟨?_, by simp [hs]⟩
   have : (y == x) = false := by
    simp at hb ⊢
    exact fun h => hb h.symm
   rw [this] at hd
   rw [hI, hd]
   push_cast
   try simp only [Bool.false_eq_true, if_false]
   split <;> (try split) <;> (try split) <;> omega
 ·rintro e s hf ⟨hI, hs⟩
  simp -dsimp -implicitDefEqProofs
  refine zg hwf (fun p hp => ?_) ?_
  ·simp [hs]
  ·simp [indexP] at hI
   simp [hI, eraseA]
theorem d243 (st : St) (l : List Bool) (x : Bool) : Det Tryz.prog w0 base 243 [.sl (l.map AV.bool) l.length .no, .bool x] st (vi (indexP x l)) st := by
 refine zh (zp Tryz.func243 r243) fun hwf hfit => z6 Tryz.func243 r243 rfl ?_
 have hlen : l.length ≤ big := hfit.1.1
 unfold big at hlen
 unfold b243
 simp -dsimp -implicitDefEqProofs
 refine y1 (d := 9) (x := 8) (n := 7) (y := 18) l.length (fun j e s => (indexP x l = if indexP x (l.drop j) = -1 then -1 else indexP x (l.drop j) + j) ∧ s.objs = st.objs) hlen rfl rfl ⟨by simp [indexP], rfl⟩ rfl (fun j e e' s k h _ => h) ?_ ?_
 ·rintro j e s hj hf hx ⟨hI, hs⟩
  have e1 := hf 1 rfl
  have e0 := hf 0 rfl
  simp at e1 e0
  obtain ⟨y, hy⟩ : ∃ y, l[j]? = some y := ⟨_, List.getElem?_eq_getElem hj⟩
  have hy' : l[j] = y := by simpa [hj] using hy
  have hd := index_drop x l j y hy
  have hg := index_ge x (l.drop (j + 1))
  simp -dsimp -implicitDefEqProofs [e1, e0, hx, hj, hy', hy]
  refine Br_iff (fun hb => ?_) (fun hb => ?_)
  ·simp -dsimp -implicitDefEqProofs [e1, e0, hx, hj, hy']
   refine zg hwf (fun p hp => ?_) ?_
   ·simp [hs]
   ·have : y = x := by simp_all
    simp_all [eraseA]
  ·simp -dsimp -implicitDefEqProofs
   refine hold ⟨?_, by simp [hs]⟩
   have : (y == x) = false := by
    simp at hb ⊢
    exact fun h => hb h.symm
   rw [this] at hd
   rw [hI, hd]
   push_cast
   try simp only [Bool.false_eq_true, if_false]
   split <;> (try split) <;> (try split) <;> omega
 ·rintro e s hf ⟨hI, hs⟩
  simp -dsimp -implicitDefEqProofs
  refine zg hwf (fun p hp => ?_) ?_
  ·simp [hs]
  ·simp [indexP] at hI
   simp [hI, eraseA]
theorem index_mem {α : Type} [BEq α] [LawfulBEq α] (x : α) : ∀ l : List α, 0 ≤ indexP x l ↔ x ∈ l
 | [] => by simp [indexP]
 | y :: l => by
  have ih := index_mem x l
  have hg := index_ge x l
  simp only [indexP, List.mem_cons]
  by_cases h : y = x
  ·simp [h]
  ·have h' : ¬ x = y := fun e => h e.symm
   simp [h, h']
   split
   ·rw [← ih]; omega
   ·rw [← ih]; omega
theorem wz (l : List Str) : AV.bareL (strs l) = strs l := by
 induction l with
 | nil => simp [AV.bareL, strs]
 | cons x l ih => simp [AV.bareL, AV.bare, strs] at ih ⊢; exact ih
theorem d210 (st : St) (l : List Str) (x : Str) : Det Tryz.prog w0 base 210 [.sl (strs l) l.length .no, .str x] st (.bool (decide (x ∈ l))) st := by
 refine zh (zp Tryz.func210 r210) fun hwf hfit => z6 Tryz.func210 r210 rfl ?_
 unfold b210
 simp -dsimp -implicitDefEqProofs
 refine zo (d223 _ l x) (by simp [AV.bareL, AV.bare, wz]) ?_
 simp -dsimp -implicitDefEqProofs
 refine zg hwf (fun p hp => ?_) ?_
 ·simp
 ·simp [eraseA, index_mem]
theorem bare_159 (l : List Int) : AV.bareL (l.map (AV.int .i64)) = l.map (AV.int .i64) := by
 induction l with
 | nil => simp [AV.bareL]
 | cons x l ih => simp [AV.bareL, AV.bare] at ih ⊢; exact ih
theorem d159 (st : St) (l : List Int) (x : Int) : Det Tryz.prog w0 base 159 [.sl (l.map (AV.int .i64)) l.length .no, .int .i64 x] st (.bool (decide (x ∈ l))) st := by
 refine zh (zp Tryz.func159 r159) fun hwf hfit => z6 Tryz.func159 r159 rfl ?_
 unfold b159
 simp -dsimp -implicitDefEqProofs
 refine zo (d194 _ l x) (by simp [AV.bareL, AV.bare, bare_159]) ?_
 simp -dsimp -implicitDefEqProofs
 refine zg hwf (fun p hp => ?_) ?_
 ·simp
 ·simp [eraseA, index_mem]
theorem bare_230 (l : List Bool) : AV.bareL (l.map AV.bool) = l.map AV.bool := by
 induction l with
 | nil => simp [AV.bareL]
 | cons x l ih => simp [AV.bareL, AV.bare] at ih ⊢; exact ih
theorem d230 (st : St) (l : List Bool) (x : Bool) : Det Tryz.prog w0 base 230 [.sl (l.map AV.bool) l.length .no, .bool x] st (.bool (decide (x ∈ l))) st := by
 refine zh (zp Tryz.func230 r230) fun hwf hfit => z6 Tryz.func230 r230 rfl ?_
 unfold b230
 simp -dsimp -implicitDefEqProofs
 refine zo (d243 _ l x) (by simp [AV.bareL, AV.bare, bare_230]) ?_
 simp -dsimp -implicitDefEqProofs
 refine zg hwf (fun p hp => ?_) ?_
 ·simp
 ·simp [eraseA, index_mem]
end
section
variable {w0 : World} {base : Nat}
def wordLists : List (List Str) := [wOthers, wUnaries, wCollects, wAtomics, wTypes, wSpaces]
def keywordP (s : Str) : Bool := wordLists.any fun l => decide (s ∈ l)
def slw (l : List Str) : AV := .sl (strs l) l.length .full
theorem d190 (st : St) (x : Str) : Det Tryz.prog w0 base 190 [.str x] st (.bool (keywordP x)) st := by
 refine zh (zp Tryz.func190 r190) fun hwf hfit => z6 Tryz.func190 r190 rfl ?_
 unfold b190
 simp -dsimp -implicitDefEqProofs
 refine zt (d207 _) ?_
 simp -dsimp -implicitDefEqProofs
 refine zt (d199 _) ?_
 simp -dsimp -implicitDefEqProofs
 refine zt (d208 _) ?_
 simp -dsimp -implicitDefEqProofs
 refine zt (d209 _) ?_
 simp -dsimp -implicitDefEqProofs
 refine zt (d156 _) ?_
 simp -dsimp -implicitDefEqProofs
 refine zt (d126 _) ?_
 simp -dsimp -implicitDefEqProofs
 refine y1 (d := 14) (x := 13) (n := 12) (y := 20) 6 (fun j e s => (∀ i l, i < j → wordLists[i]? = some l → x ∉ l) ∧ s.objs = st.objs) (by decide) rfl rfl ⟨by simp, rfl⟩ rfl (fun j e e' s k h _ => h) ?_ ?_
 ·rintro j e s hj hf hx ⟨hI, hs⟩
  have e11 : e 11 = .sl (wordLists.map slw) 6 .full := hf 11 rfl
  have e0 := hf 0 rfl
  simp at e0
  obtain ⟨y, hy⟩ : ∃ y, wordLists[j]? = some y := ⟨_, List.getElem?_eq_getElem hj⟩
  have hy2 : (wordLists.map slw)[j]? = some (slw y) := by rw [List.getElem?_map, hy]; rfl
  simp -dsimp -implicitDefEqProofs [e11, e0, hx, hy2]
  rw [if_pos (by omega)]
  simp -dsimp -implicitDefEqProofs [hy, slw]
  refine zo (d210 _ y x) (by simp [AV.bareL, AV.bare, wz, e0]) ?_
  simp -dsimp -implicitDefEqProofs
  refine Br_iff (fun hb => ?_) (fun hb => ?_)
  ·simp -dsimp -implicitDefEqProofs
   refine zg hwf (fun p hp => ?_) ?_
   ·simp [hs]
   ·have : keywordP x = true := by
     simp only [keywordP, List.any_eq_true]
     exact ⟨y, List.mem_of_getElem? hy, hb⟩
    simp [eraseA, this]
  ·simp -dsimp -implicitDefEqProofs
   refine hold ⟨?_, by simp [hs]⟩
   intro i l hi hl
   rcases Nat.lt_succ_iff_lt_or_eq.1 hi with h | rfl
   ·exact hI i l h hl
   ·rw [hy] at hl; cases hl; simpa using hb
 ·rintro e s hf ⟨hI, hs⟩
  simp -dsimp -implicitDefEqProofs
  refine zg hwf (fun p hp => ?_) ?_
  ·simp [hs]
  ·have : keywordP x = false := by
    simp only [keywordP, List.any_eq_false]
    intro l hl
    obtain ⟨i, hi, e⟩ := List.getElem_of_mem hl
    simpa using hI i l hi (by rw [List.getElem?_eq_getElem hi, e])
   simp [eraseA, this]
def isWordP (c : UInt8) : Bool := isLetterP c || isDigitP c
theorem d191 (st : St) (c : UInt8) : Det Tryz.prog w0 base 191 [vb c] st (.bool (isWordP c)) st := by
 refine zh (zp Tryz.func191 r191) fun hwf hfit => z6 Tryz.func191 r191 rfl ?_
 unfold b191
 simp -dsimp -implicitDefEqProofs
 refine zt (d189 _ c) ?_
 simp -dsimp -implicitDefEqProofs
 refine Br_iff (fun hb => ?_) (fun hb => ?_)
 ·simp -dsimp -implicitDefEqProofs [hb]
  refine zg hwf (fun p hp => ?_) ?_ <;> simp [eraseA, isWordP, hb]
 ·simp -dsimp -implicitDefEqProofs [hb]
  refine zt (d211 _ c) ?_
  simp -dsimp -implicitDefEqProofs [hb]
  refine zg hwf (fun p hp => ?_) ?_ <;> simp [eraseA, isWordP, hb]
def isNameP : Str → Bool
 | [] => false
 | c :: s => decide ((c :: s).length ≤ 12) && isLetterP c && !keywordP (c :: s) && (c :: s).all isWordP
theorem d154 (st : St) (x : Str) : Det Tryz.prog w0 base 154 [.str x] st (.bool (isNameP x)) st := by
 refine zh (zp Tryz.func154 r154) fun hwf hfit => z6 Tryz.func154 r154 rfl ?_
 have hlen : x.length ≤ 9223372036854775807 := hfit.1
 unfold b154
 cases x with
 | nil =>
  simp -dsimp -implicitDefEqProofs
  refine zg hwf (fun p hp => ?_) ?_ <;> simp [eraseA, isNameP]
 | cons c x =>
  simp -dsimp -implicitDefEqProofs
  refine Br_iff (fun hb => ?_) (fun hb => ?_)
  ·simp -dsimp -implicitDefEqProofs [hb]
   refine zg hwf (fun p hp => ?_) ?_
   ·simp
   ·have h' : ¬ (c :: x).length ≤ 12 := by simp at hb ⊢; omega
    simp only [eraseA, isNameP, h', decide_false, Bool.false_and]
  ·have h' : (c :: x).length ≤ 12 := by simp at hb ⊢; omega
   simp -dsimp -implicitDefEqProofs [hb]
   refine zt (d189 _ c) ?_
   simp -dsimp -implicitDefEqProofs [hb]
   refine Br_iff (fun hc => ?_) (fun hc => ?_)
   ·simp -dsimp -implicitDefEqProofs [hc]
    refine zg hwf (fun p hp => ?_) ?_
    ·simp
    ·have hc' : isLetterP c = false := by simpa using hc
     simp only [eraseA, isNameP, hc', Bool.and_false, Bool.false_and]
   ·simp -dsimp -implicitDefEqProofs [hc]
    refine zt (d190 _ (c :: x)) ?_
    simp -dsimp -implicitDefEqProofs [hc]
    refine Br_iff (fun hd => ?_) (fun hd => ?_)
    ·simp -dsimp -implicitDefEqProofs
     refine zg hwf (fun p hp => ?_) ?_
     ·simp
     ·simp only [eraseA, isNameP, hd, Bool.not_true, Bool.and_false, Bool.false_and]
    ·simp -dsimp -implicitDefEqProofs
     generalize hs : c :: x = s0 at *
     have hres : isNameP s0 = s0.all isWordP := by
      subst hs
      simp at hc
      simp only [isNameP, hd, hc, h', decide_true, Bool.not_false, Bool.and_self, Bool.true_and]
     refine y1 (d := 24) (x := 23) (n := 22) (y := 31) s0.length (fun j e s => (∀ i c, i < j → s0[i]? = some c → isWordP c = true) ∧ s.objs = st.objs) (by omega) (by rw [← hs]; simp) rfl ⟨by simp, rfl⟩ rfl (fun j e e' s k h _ => h) ?_ ?_
     ·rintro j e s hj hf hx ⟨hI, hs⟩
      have e0 := hf 0 rfl
      simp at e0
      obtain ⟨y, hy⟩ : ∃ y, s0[j]? = some y := ⟨_, List.getElem?_eq_getElem hj⟩
      have hy' : s0[j] = y := by simpa [hj] using hy
      simp -dsimp -implicitDefEqProofs [e0, hx, hy, hj, hy']
      refine zt (d191 _ y) ?_
      simp -dsimp -implicitDefEqProofs
      refine Br_iff (fun hb => ?_) (fun hb => ?_)
      ·simp -dsimp -implicitDefEqProofs
       refine zg hwf (fun p hp => ?_) ?_
       ·simp [hs]
       ·have : s0.all isWordP = false := by
         simp only [List.all_eq_false]
         exact ⟨y, List.mem_of_getElem? hy, by simpa using hb⟩
        simp [eraseA, hres, this]
      ·simp -dsimp -implicitDefEqProofs
       refine hold ⟨?_, by simp [hs]⟩
       intro i l hi hl
       rcases Nat.lt_succ_iff_lt_or_eq.1 hi with h | rfl
       ·exact hI i l h hl
       ·rw [hy] at hl; cases hl; simpa using hb
     ·rintro e s hf ⟨hI, hs⟩
      simp -dsimp -implicitDefEqProofs
      refine zg hwf (fun p hp => ?_) ?_
      ·simp [hs]
      ·have : s0.all isWordP = true := by
        simp only [List.all_eq_true]
        intro l hl
        obtain ⟨i, hi, e⟩ := List.getElem_of_mem hl
        exact hI i l hi (by rw [List.getElem?_eq_getElem hi, e])
       simp [eraseA, hres, this]
end
section
variable {w0 : World} {base : Nat}
theorem enters188 : Enters Tryz.prog 188 := ⟨Tryz.f188, Tryz.func188, by kernel_rfl, by decide⟩
theorem lies175 : (Tryz.prog.info? 177).map (·.size) = some 2 := by kernel_rfl
set_option maxHeartbeats 1000000 in
theorem walk188_used (b : Nat) (w : World) (h0 : w.cell? ⟨b, 0, none⟩ = some (.pointer (some ⟨b, 0, none⟩))) :
  Calls Tryz.prog 188 #[.pointer (some ⟨b, 0, none⟩)] w fun e w' => e = .returned (.tuple #[]) ∧ w' = w := by
 obtain ⟨j, hj, _⟩ := Option.map_eq_some_iff.1 lies175
 go_enter Tryz.func188, Tryz.ntmps188
 go_wp2
 rw [Lib.run_neq_ptr_same w _ Tryz.underlying175 hj]
 go_wp2
 go_end0
 exact ⟨rfl, rfl⟩
set_option maxHeartbeats 1000000 in
theorem walk188_fresh (b n : Nat) (T : TypeId) (w : World) (h0 : w.cell? ⟨b, 0, none⟩ = some (.pointer none)) (hsh : w.shape? b = some (T, n)) (hn : 0 < n) (hl : liesAt Tryz.prog Tryz.prog.depth T (n / Tryz.prog.cellsOf T) 0 177 1 = true) (hfz : w.frozen? ⟨b, 0, none⟩ = false) :
  Calls Tryz.prog 188 #[.pointer (some ⟨b, 0, none⟩)] w fun e w' => e = .returned (.tuple #[]) ∧ w' = w.setCell ⟨b, 0, none⟩ (.pointer (some ⟨b, 0, none⟩)) := by
 obtain ⟨j, hj, hjs⟩ := Option.map_eq_some_iff.1 lies175
 go_enter Tryz.func188, Tryz.ntmps188
 go_wp2
 rw [Lib.run_to_unsafe w ⟨b, 0, none⟩ Tryz.underlying175 Tryz.underlying240 hj (by rw [hjs]; decide) hsh hn]
 simp only [Result.andThen]
 rw [Oper.upon_value]
 go_wp2
 rw [run_callFunc_extern Tryz.func206 (by kernel_rfl) (by kernel_rfl) (by kernel_rfl) (e := Extern.AbiNoEscape.same) (by kernel_rfl)]
 rw [Lib.run_noEscape]
 simp only [Result.andThen]
 rw [Oper.upon_value]
 go_wp2
 rw [Lib.run_from_unsafe w ⟨b, 0, none⟩ Tryz.underlying240 Tryz.underlying175 hj hsh hl]
 simp only [Result.andThen]
 rw [Oper.upon_value]
 go_wp2
 go_end0
 exact ⟨rfl, rfl⟩
theorem d188 {st : St} {T : TypeId} {o : Nat} {a : AV} {cs : List AV} (ho : st.objs o = some (.cells T (a :: cs))) (ha : a = .nilp ∨ a = .ptr o 0) (hl : liesAt Tryz.prog Tryz.prog.depth T ((cs.length + 1) / Tryz.prog.cellsOf T) 0 177 1 = true) :
  Det Tryz.prog w0 base 188 [.ptr o 0] st (.tuple []) (st.put o (.cells T (.ptr o 0 :: cs))) := by
 refine ⟨enters188, Nat.le_refl _, fun p hp hn => ?_, fun X G w us hX hI hR => ?_⟩
 ·simp only [yh]
  split
  ·rename_i e; rw [e, ho] at hn; cases hn
  ·exact hn
 ·obtain ⟨u, us', rfl, hu, rfl⟩ := hR
  obtain ⟨hused, hob⟩ := hI.objs o _ (xd ho)
  obtain ⟨h1, ad, rfl, h2⟩ := hu
  obtain ⟨b, vs, g1, g2, g3, g4, g5, g6, g7⟩ := hob
  have := h2 b g1
  subst this
  rw [List.take_of_length_le (by simp [g7])] at g6
  obtain ⟨v, vs', hv, hone, hva, hvs⟩ := g6
  have hcell : w.cell? ⟨b, 0, none⟩ = some v := by
   rw [Lib.cell_of_heap g5]
   rw [← Array.getElem?_toList, hv]; rfl
  have hsz : vs.size = cs.length + 1 := by simpa using g7
  have hput : (st.add X).put o (.cells T (.ptr o 0 :: cs)) = (st.put o (.cells T (.ptr o 0 :: cs))).add X := (ux _ _ _ _).symm
  rcases ha with rfl | rfl
  ·have hv0 : v = .pointer none := hva
   subst hv0
   obtain ⟨w', hrun, he, hinv⟩ := store_sound (P := Tryz.prog) (t := 175) (n := 1) (x := .ptr o 0) (y := .ptr o 0) (v := .pointer (some ⟨b, 0, none⟩)) (u := .pointer (some ⟨b, 0, none⟩)) hI ⟨h1, _, rfl, h2⟩ ⟨h1, _, rfl, h2⟩ (by kernel_rfl) rfl (xd ho) rfl rfl rfl (by simp)
   have hw : w' = w.setCell ⟨b, 0, none⟩ (.pointer (some ⟨b, 0, none⟩)) := by
    simp [Instr.storeAt, Instr.sureAddr, storeVar, Tryz.sizeOf175, storeCells, Value.cells] at hrun
    have hst : (store ((⟨b, 0, none⟩ : Addr).add 0) (.pointer (some ⟨b, 0, none⟩))).run Tryz.prog w = .ok () (w.setCell ⟨b, 0, none⟩ (.pointer (some ⟨b, 0, none⟩))) := by
     simp only [wd, Nat.add_zero]
     have hfz : w.frozen? ⟨b, 0, none⟩ = false := by simp [World.frozen?, g5]
     rw [run_store _ _ _ _ _ rfl]
     simp [hcell, hfz]
    rw [hst] at hrun
    cases hrun
    rfl
   subst hw
   refine (walk188_fresh b vs.size T w hcell (by simp [World.shape?, g5]) (by omega) (by rw [hsz]; exact hl) (by simp [World.frozen?, g5])).mono ?_
   rintro e w2 ⟨rfl, rfl⟩
   refine ⟨_, G, rfl, he, fun _ _ h => h, ?_, [], rfl, rfl⟩
   rw [← hput]
   exact hinv
  ·obtain ⟨_, ad, rfl, h3⟩ := hva
   have := h3 b g1
   subst this
   refine (walk188_used b w hcell).mono ?_
   rintro e w2 ⟨rfl, rfl⟩
   refine ⟨_, G, rfl, Ext.refl _ _ _, fun _ _ h => h, ?_, [], rfl, rfl⟩
   have : st.put o (.cells T (.ptr o 0 :: cs)) = st := by
    simp only [St.put]
    cases st with
    | mk objs next =>
     simp only [St.mk.injEq, and_true]
     funext p
     simp only [upd]
     split
     ·rename_i e; rw [e]; exact ho.symm
     ·rfl
   rw [this]
   exact hI
end
section
variable {w0 : World} {base : Nat}
def bytesAV (s : Str) : List AV := s.map fun b => .int .u8 b.toNat
structure Bd (T : TypeId) (rest : List AV) (st : St) (o : Nat) (t : Option Nat) (txt : Str) : Prop where
 obj : ∃ a p, (a = .nilp ∨ a = .ptr o 0) ∧ st.objs o = some (.cells T (a :: .sl (bytesAV txt) txt.length p :: rest)) ∧
  (match t with | none => p = .full ∧ txt = [] | some t => p = .tok t ∧ t ≠ o ∧ st.objs t = some (.tip 5 1 txt.length))
def liesB (T : TypeId) (n : Nat) : Prop := liesAt Tryz.prog Tryz.prog.depth T (n / Tryz.prog.cellsOf T) 0 177 1 = true
theorem w153 {T : TypeId} {rest : List AV} {st : St} {o : Nat} {tk : Option Nat} {txt : Str} (hwf : st.wf) (h : Bd T rest st o tk txt) (hl : liesB T (rest.length + 2)) (s : Str) (hlen : txt.length + s.length ≤ 140737488355328) :
  CallW Tryz.prog w0 base 153 [.ptr o 0, .str s] st fun v st' => v = .tuple [.int .i64 s.length, .nilIface] ∧ ∃ t', Bd T rest st' o t' (txt ++ s) ∧ Kp o tk st st' t' := by
 obtain ⟨a, p, ha, ho, ht⟩ := h.obj
 have hlt := hwf _ _ ho
 refine za Tryz.func153 r153 rfl ?_
 unfold b153
 simp -dsimp -implicitDefEqProofs
 refine zt (d188 (T := T) (a := a) (cs := .sl (bytesAV txt) txt.length p :: rest) (by simp [ho]) ha hl) ?_
 have hbl : (bytesAV txt).length = txt.length := by simp [bytesAV]
 have hb : List.map (fun b => AV.int IntKind.u8 ↑b.toNat) s = bytesAV s := rfl
 have happ : bytesAV (txt ++ s) = bytesAV txt ++ bytesAV s := by simp [bytesAV]
 by_cases hs : s = []
 ·subst hs
  simp -dsimp -implicitDefEqProofs [hlt, zx, zy]
  refine hold ⟨rfl, tk, ⟨.ptr o 0, p, .inr rfl, by simp, ?_⟩, ⟨by simp, fun q hq h1 h2 => by simp [h1], .inl rfl, zb (zk hwf) (by simp; omega)⟩⟩
  cases tk with
  | none => simpa using ht
  | some t => obtain ⟨e1, e2, e3⟩ := ht; exact ⟨e1, e2, by simp [e2, e3]⟩
 ·cases tk with
  | none =>
   obtain ⟨rfl, rfl⟩ := ht
   have hlen' : s.length ≤ 140737488355328 := by simpa using hlen
   simp -dsimp -implicitDefEqProofs [hlt, zx, zy, zu, hs, hbl, hb, hlen', big]
   refine hold ⟨rfl, some (st.next + 10), ⟨.ptr o 0, .tok (st.next + 10), .inr rfl, by simp [bytesAV, hlt, zx], rfl, by omega, by simp [hlt, zu, zx]⟩, ⟨by simp, fun q hq h1 h2 => by simp [h1, hq, zx], .inr ⟨_, rfl, by omega⟩, ?_⟩⟩
   refine zb (zb (zb (zk hwf) ?_) ?_) ?_ <;> simp <;> omega
  | some t =>
   obtain ⟨rfl, e2, e3⟩ := ht
   have hlt' := hwf _ _ e3
   simp -dsimp -implicitDefEqProofs [hlt, zx, zy, zu, hs, hbl, hb, hlen, big, e2, e3, Ne.symm e2]
   refine hold ⟨rfl, some t, ⟨.ptr o 0, .tok t, .inr rfl, by simp [happ], rfl, e2, by simp [e2]⟩, ⟨by simp, fun q hq h1 h2 => ?_, .inl rfl, ?_⟩⟩
   ·have : q ≠ t := fun e => h2 (by rw [e])
    simp [h1, this]
   ·refine zb (zb (zb (zk hwf) ?_) ?_) ?_ <;> simp <;> omega
theorem bd_bump {T : TypeId} {rest : List AV} {st : St} {o : Nat} {tk : Option Nat} {txt : Str} (h : Bd T rest st o tk txt) (k : Nat) : Bd T rest (st.bump k) o tk txt := ⟨h.obj⟩
theorem kp_bump {o : Nat} {t t' : Option Nat} {st st' : St} (h : Kp o t st st' t') (k : Nat) : Kp o t st (st'.bump k) t' :=
 ⟨Nat.le_trans h.next (Nat.le_add_right _ _), h.same, h.tok, zk h.wf⟩
theorem w122 {T : TypeId} {rest : List AV} {st : St} {o : Nat} {tk : Option Nat} {txt : Str} (hwf : st.wf) (h : Bd T rest st o tk txt) (hl : liesB T (rest.length + 2)) (l : List Str) (hn : l.length ≤ 140737488355328) (hlen : txt.length + l.flatten.length ≤ 140737488355328) :
  CallW Tryz.prog w0 base 122 [.ptr o 0, .sl (strs l) l.length .no] st fun v st' => v = .tuple [] ∧ ∃ t', Bd T rest st' o t' (txt ++ l.flatten) ∧ Kp o tk st st' t' := by
 refine za Tryz.func122 r122 rfl ?_
 unfold b122 strs
 simp -dsimp -implicitDefEqProofs
 refine y1 (d := 9) (x := 8) (n := 7) (y := 17) l.length (fun j e s => ∃ t', Bd T rest s o t' (txt ++ (l.take j).flatten) ∧ Kp o tk st s t') hn rfl rfl ⟨tk, by simpa using bd_bump h _, kp_bump (Kp.refl hwf) _⟩ rfl (fun j e e' s k h _ => by
  obtain ⟨t', h1, h2⟩ := h
  exact ⟨t', bd_bump h1 k, kp_bump h2 k⟩) ?_ ?_
 ·rintro j e s hj hf hx ⟨t', h1, h2⟩
  have e6 := hf 6 rfl
  have e0 := hf 0 rfl
  simp at e6 e0
  obtain ⟨y, hy⟩ : ∃ y, l[j]? = some y := ⟨_, List.getElem?_eq_getElem hj⟩
  have hy' : l[j] = y := by simpa [hj] using hy
  have htake : (l.take (j + 1)).flatten = (l.take j).flatten ++ y := by rw [List.take_add_one, hy]; simp
  have hle : (l.take (j + 1)).flatten.length ≤ l.flatten.length := by
   conv => rhs; rw [← List.take_append_drop (j + 1) l, List.flatten_append, List.length_append]
   omega
  have hlen2 : (txt ++ (l.take j).flatten).length + y.length ≤ 140737488355328 := by
   rw [htake, List.length_append] at hle
   rw [List.length_append]
   omega
  simp -dsimp -implicitDefEqProofs [e6, e0, hx, hj, hy']
  refine yu (args' := [.ptr o 0, .str y]) (w153 (zk h2.wf) (bd_bump h1 _) hl y hlen2) (by simp [AV.bareL, AV.bare, e0]) ?_
  rintro v s' ⟨rfl, t2, g1, g2⟩
  simp -dsimp -implicitDefEqProofs
  refine hold ⟨t2, ?_, h2.trans ?_⟩
  ·rw [htake, ← List.append_assoc]; exact g1
  ·exact ⟨Nat.le_trans (by simp) g2.next, fun p hp h3 h4 => g2.same p (by simp; omega) h3 h4, by
    rcases g2.tok with e | ⟨q, e, hq⟩
    ·exact .inl e
    ·exact .inr ⟨q, e, by simp at hq; omega⟩, g2.wf⟩
 ·rintro e s hf ⟨t', h1, h2⟩
  simp -dsimp -implicitDefEqProofs
  refine hold ⟨rfl, t', by simpa using h1, h2⟩
end
section
variable {w0 : World} {base : Nat}
theorem enters192 : Enters Tryz.prog 192 := ⟨Tryz.f192, Tryz.func192, by kernel_rfl, by decide⟩
theorem d192 (hT : Tabs w0 base) (st : St) (n : Int) (h0 : -9223372036854775808 ≤ n) (h1 : n ≤ 9223372036854775807) : Det Tryz.prog w0 base 192 [.int .i64 n, .int .i64 10] st (.str (Lib.itoa n)) st := by
 refine det_below (v := .string ⟨(Lib.itoa n).toArray⟩) enters192 (fun G w => ⟨rfl, Nat.le_trans (itoa_fit n h0 h1) (by decide)⟩) ?_
 intro G w us hB hR
 obtain ⟨u, us', rfl, hu, u2, us2, rfl, hu2, rfl⟩ := hR
 obtain rfl : u = .int .i64 n := hu
 obtain rfl : u2 = .int .i64 10 := hu2
 have ht : Lib.TabIs Tryz.prog w "internal/strconv.uint64pow10" .u64 Lib.pow10Tab := tab_keeps (g := Tryz.laysItoa_ren.g 17) (by kernel_rfl) hT.pow (by rw [hT.size] at hB; exact hB)
 refine (Any.internal_strconv_FormatInt_10 { Tryz.laysItoa with } n h0 h1 w ht).mono ?_
 rintro e w' ⟨rfl, k, os, rfl⟩
 exact ⟨rfl, below_grow _ _ _⟩
theorem enters131 : Enters Tryz.prog 131 := ⟨Tryz.f131, Tryz.func131, by kernel_rfl, by decide⟩
set_option maxHeartbeats 1000000 in
theorem walk131 (b g len cap : Nat) (w : World) (l : List UInt8) (c1 : w.drew.cell? ⟨b, 1, none⟩ = some (.slice (some ⟨g, 0, none⟩) l.length cap))
  (hSD : (Builtin.unsafeSliceData_ #[22] 218 #[.slice (some ⟨g, 0, none⟩) l.length cap]).run Tryz.prog w.drew = .ok (.pointer (some ⟨g, 0, none⟩)) w.drew)
  (hUS : (Builtin.unsafeString_ #[218, 3] 9 #[.pointer (some ⟨g, 0, none⟩), .int .i64 l.length]).run Tryz.prog w.drew = .ok (.string ⟨l.toArray⟩) (w.drew.freeze ⟨g, 0, none⟩ l.length)) :
  Calls Tryz.prog 131 #[.pointer (some ⟨b, 0, none⟩)] w fun e w' => e = .returned (.string ⟨l.toArray⟩) ∧ w' = w.drew.freeze ⟨g, 0, none⟩ l.length := by
 have mixed : Tryz.prog.follows .mixedOrders = true := by kernel_rfl
 have t177 := Tryz.underlying177; have a177 := Tryz.isAgg177; have z177 := Tryz.sizeOf177; have v177 := Tryz.zeroValue177; have u177 := run_underlying Tryz.underlying177
 have t175 := Tryz.underlying175; have a175 := Tryz.isAgg175; have z175 := Tryz.sizeOf175; have v175 := Tryz.zeroValue175; have u175 := run_underlying Tryz.underlying175
 have t22 := Tryz.underlying22; have a22 := Tryz.isAgg22; have z22 := Tryz.sizeOf22; have v22 := Tryz.zeroValue22; have u22 := run_underlying Tryz.underlying22
 have t218 := Tryz.underlying218; have a218 := Tryz.isAgg218; have z218 := Tryz.sizeOf218; have v218 := Tryz.zeroValue218; have u218 := run_underlying Tryz.underlying218
 have t3 := Tryz.underlying3; have a3 := Tryz.isAgg3; have z3 := Tryz.sizeOf3; have v3 := Tryz.zeroValue3; have u3 := run_underlying Tryz.underlying3
 have t9 := Tryz.underlying9; have a9 := Tryz.isAgg9; have z9 := Tryz.sizeOf9; have v9 := Tryz.zeroValue9; have u9 := run_underlying Tryz.underlying9
 have t5 := Tryz.underlying5; have a5 := Tryz.isAgg5; have z5 := Tryz.sizeOf5; have v5 := Tryz.zeroValue5; have u5 := run_underlying Tryz.underlying5
 go_enter Tryz.func131, Tryz.ntmps131
 go_wp2
 go_region_o
 all_goals (go_wp2; go_ret; exact ⟨rfl, rfl⟩)
theorem heap_freeze (w : World) (g n k : Nat) (h : k ≠ g) : (w.freeze ⟨g, 0, none⟩ n).heap[k]? = w.heap[k]? := by
 unfold World.freeze
 split
 ·rfl
 ·simp only [Array.getElem?_modify]; rw [if_neg (fun e => h e.symm)]
theorem cell_freeze (w : World) (g n : Nat) (b off : Nat) : (w.freeze ⟨g, 0, none⟩ n).cell? ⟨b, off, none⟩ = w.cell? ⟨b, off, none⟩ := by
 unfold World.freeze
 split
 ·rfl
 ·simp only [World.cell?, Array.getElem?_modify]
  by_cases e : g = b
  ·subst e
   rw [if_pos rfl]
   cases w.heap[g]? with
   | none => rfl
   | some o => cases o <;> rfl
  ·rw [if_neg e]
theorem d131 {T : TypeId} {rest : List AV} {st : St} {o t : Nat} {txt : Str} (h : Bd T rest st o (some t) txt) (hne : txt ≠ []) : Det Tryz.prog w0 base 131 [.ptr o 0] st (.str txt) (st.del t) := by
 obtain ⟨a, p, ha, ho, hp, hto, ht⟩ := h.obj
 subst hp
 refine ⟨enters131, Nat.le_refl _, fun q hq hn => ?_, fun X G w us hX hI hR => ?_⟩
 ·simp only [St.del]; split
  ·rfl
  ·exact hn
 obtain ⟨u, us', rfl, hu, rfl⟩ := hR
 obtain ⟨h1, ad, rfl, h2⟩ := hu
 obtain ⟨hused, b, vs, g1, g2, g3, g4, g5, g6, g7⟩ := hI.objs o _ (xd ho)
 have := h2 b g1
 subst this
 obtain ⟨hut, g, cur, k1, k2, k3, k4, k5, k6, k7, k8, k9, k10⟩ := hI.objs t _ (xd ht)
 rw [List.take_of_length_le (by simp [g7])] at g6
 obtain ⟨v0, vs1, hv, hone, hva, v1, vs2, hv2, hone1, hsl, hrest⟩ := g6
 obtain ⟨bs, ba, cap, r1, r2, rfl, r4, r5, r6, -, r8, -⟩ := hsl
 obtain ⟨-, r9⟩ := r8 t rfl
 obtain ⟨r10, r11⟩ := r9 g k1
 have r12 := r11 k4.symm
 simp only [Value.slice.injEq, true_and] at r12
 obtain ⟨rfl, rfl⟩ := r12
 have hl0 : 0 < txt.length := List.length_pos_iff.2 hne
 have hheap : w.drew.heap[b]? = some (.cells vs T (0, 0)) := g5
 have c1 : w.drew.cell? ⟨b, 1, none⟩ = some (.slice (some ⟨g, 0, none⟩) txt.length (G.cap t)) := by
  rw [Lib.cell_of_heap hheap, ← Array.getElem?_toList, hv, hv2]; rfl
 have hcell : ∀ (j : Nat) (x : UInt8), txt[j]? = some x → w.drew.cell? ((⟨g, 0, none⟩ : Addr).add j) = some (.int .u8 x.toNat) := by
  intro j x hx
  obtain ⟨u, hu, -, hru⟩ := repC_get r1 j (.int .u8 x.toNat) (by simp [bytesAV, hx])
  rcases r2 with e | ⟨ad, e, hc⟩
  ·rw [e] at hu; simp at hu
  ·cases e
   have := (hc j u hu).1
   rw [show u = .int .u8 x.toNat from hru] at this
   exact this
 have hsz : cur.size = G.cap t := by rw [k7, Nat.mul_one]
 have hSD : (Builtin.unsafeSliceData_ #[22] 218 #[.slice (some ⟨g, 0, none⟩) txt.length (G.cap t)]).run Tryz.prog w.drew = .ok (.pointer (some ⟨g, 0, none⟩)) w.drew := Lib.run_unsafeSliceData_row _ _ _ _ _ _ (by omega)
 have hUS := Lib.run_unsafeString_row (P := Tryz.prog) w.drew 218 3 9 5 Tryz.underlying218 (by kernel_rfl) g cur.size (by have : w.drew.heap[g]? = some (.cells cur 5 (0, 0)) := k6; simp [World.shape?, this]) txt hne (by omega) (by unfold big at r6; omega) hcell
 refine (walk131 b g txt.length (G.cap t) w txt c1 hSD hUS).mono ?_
 rintro e w' ⟨rfl, rfl⟩
 have hB : Below base w (w.drew.freeze ⟨g, 0, none⟩ txt.length) := Lib.below_freeze (Below.drew (Below.refl base w)) (p := ⟨g, 0, none⟩) k3 _
 have hE : Ext base G w G (w.drew.freeze ⟨g, 0, none⟩ txt.length) := by
  refine ⟨hB, fun _ h => h, fun _ _ => .inl rfl, fun _ _ => .inl ⟨rfl, rfl, rfl⟩, fun _ _ => rfl, fun b' off u q1 q2 => ⟨q1, ?_⟩⟩
  rw [cell_freeze]; exact q2
 have hX0 : X t = none := by
  cases hx : X t with
  | none => rfl
  | some y => have := hX t (by simp [hx]); rw [ht] at this; cases this
 have hsz2 : (w.drew.freeze ⟨g, 0, none⟩ txt.length).heap.size = w.heap.size := by unfold World.freeze; split <;> simp
 refine ⟨_, G, rfl, hE, fun _ _ h => h, ?_, ⟨rfl, by unfold big at r6; omega⟩⟩
 refine ⟨hI.old.trans hB, hI.scope, fun q y hy => ?_, fun b' hb' => hI.fresh b' (by rw [← hsz2]; exact hb'), by rw [hsz2]; exact hI.size⟩
 have hqt : q ≠ t := by
  rintro rfl
  simp [St.add, St.del, hX0] at hy
 have hy' : (st.add X).objs q = some y := by
  simp only [St.add, St.del, if_neg hqt] at hy ⊢; exact hy
 obtain ⟨q1, q2⟩ := hI.objs q y hy'
 refine ⟨q1, x6 hE ⟨rfl, rfl, rfl, rfl, rfl, fun b' _ hb' => ⟨rfl, rfl, ?_⟩⟩ q2⟩
 have : b' ≠ g := by rintro rfl; rw [k2] at hb'; exact hqt (Option.some.inj hb').symm
 rw [heap_freeze _ _ _ _ this]; rfl
end
section
variable {w0 : World} {base : Nat}
structure Pr (st : St) (o : Nat) (tk : Option Nat) (txt : Str) (bad : Bool) : Prop where
 wf : st.wf
 bd : Bd 179 [.bool bad] st o tk txt
theorem lies179 : liesB 179 3 := by unfold liesB; kernel_rfl
theorem pr_set {st : St} {o : Nat} {tk : Option Nat} {txt : Str} {bad bad' : Bool} (h : Pr st o tk txt bad) (k : Nat) : ∃ a p, st.objs o = some (.cells 179 [a, .sl (bytesAV txt) txt.length p, .bool bad]) ∧ o < st.next ∧
  Pr ((st.bump k).put o (.cells 179 [a, .sl (bytesAV txt) txt.length p, .bool bad'])) o tk txt bad' ∧ Kp o tk st ((st.bump k).put o (.cells 179 [a, .sl (bytesAV txt) txt.length p, .bool bad'])) tk := by
 obtain ⟨a, p, ha, ho, ht⟩ := h.bd.obj
 have hlt := h.wf _ _ ho
 have hw : ((st.bump k).put o (.cells 179 [a, .sl (bytesAV txt) txt.length p, .bool bad'])).wf := zb (zk h.wf) (by simp; omega)
 refine ⟨a, p, ho, hlt, ⟨hw, ⟨a, p, ha, by simp, ?_⟩⟩, ⟨by simp, fun q _ h1 _ => by simp [h1], .inl rfl, hw⟩⟩
 cases tk with
 | none => exact ht
 | some t => obtain ⟨e1, e2, e3⟩ := ht; exact ⟨e1, e2, by simp [e2, e3]⟩
theorem pr_bump {st : St} {o : Nat} {tk : Option Nat} {txt : Str} {bad : Bool} (h : Pr st o tk txt bad) (k : Nat) : Pr (st.bump k) o tk txt bad := ⟨zk h.wf, bd_bump h.bd k⟩
theorem kp_pre {o : Nat} {t t' : Option Nat} {st st' : St} {k : Nat} (h : Kp o t (st.bump k) st' t') : Kp o t st st' t' :=
 ⟨Nat.le_trans (Nat.le_add_right _ _) h.next, fun p hp h1 h2 => h.same p (Nat.lt_of_lt_of_le hp (Nat.le_add_right _ _)) h1 h2, by
  rcases h.tok with e | ⟨q, e, hq⟩
  ·exact .inl e
  ·exact .inr ⟨q, e, Nat.le_trans (Nat.le_add_right _ _) hq⟩, h.wf⟩
theorem pr_put {st : St} {o : Nat} {tk : Option Nat} {txt : Str} {bad : Bool} (h : Pr st o tk txt bad) (l : List Str) (hn : l.length ≤ 140737488355328) (hlen : txt.length + l.flatten.length ≤ 140737488355328) :
  CallW Tryz.prog w0 base 122 [.ptr o 0, .sl (strs l) l.length .no] st fun v st' => v = .tuple [] ∧ ∃ t', Pr st' o t' (txt ++ l.flatten) bad ∧ Kp o tk st st' t' := by
 refine callW_mono (w122 h.wf h.bd lies179 l hn hlen) ?_
 rintro v s ⟨rfl, t', h1, h2⟩
 exact ⟨rfl, t', ⟨h2.wf, h1⟩, h2⟩
theorem w123 {st : St} {o : Nat} {tk : Option Nat} {txt : Str} {bad : Bool} (h : Pr st o tk txt bad) (s : Str) (hlen : txt.length + s.length ≤ 140737488355328) :
  CallW Tryz.prog w0 base 123 [.ptr o 0, .str s] st fun v st' => v = .tuple [] ∧ ∃ t', Pr st' o t' (txt ++ s) (bad || !isNameP s) ∧ Kp o tk st st' t' := by
 obtain ⟨a, p, ho, hlt, h1, h2⟩ := pr_set (bad' := bad || !isNameP s) h 13
 refine za Tryz.func123 r123 rfl ?_
 unfold b123
 have key : ∀ st1, Pr st1 o tk txt (bad || !isNameP s) → Kp o tk st st1 tk → CallW Tryz.prog w0 base 122 [.ptr o 0, .sl (strs [s]) 1 .no] (st1.bump 4) fun v st' => v = .tuple [] ∧ ∃ t', Pr st' o t' (txt ++ s) (bad || !isNameP s) ∧ Kp o tk st st' t' := by
  intro st1 g1 g2
  refine callW_mono (pr_put (pr_bump g1 4) [s] (by simp) (by simpa using hlen)) ?_
  rintro v s' ⟨rfl, t', q1, q2⟩
  exact ⟨rfl, t', by simpa using q1, g2.trans (kp_pre q2)⟩
 simp -dsimp -implicitDefEqProofs [ho]
 refine Br_iff (fun hb => ?_) (fun hb => ?_)
 ·subst hb
  simp -dsimp -implicitDefEqProofs [ho]
  refine yu (key _ h1 h2) (by simp [AV.bareL, AV.bare, strs]) ?_
  rintro v s' hq
  simp -dsimp -implicitDefEqProofs
  exact hold ⟨rfl, hq.2⟩
 ·subst hb
  simp -dsimp -implicitDefEqProofs [ho]
  refine zt (d154 _ s) ?_
  simp -dsimp -implicitDefEqProofs [ho]
  refine yu (key _ h1 h2) (by simp [AV.bareL, AV.bare, strs]) ?_
  rintro v s' hq
  simp -dsimp -implicitDefEqProofs
  exact hold ⟨rfl, hq.2⟩
def pickW (l : List Str) (i : Int) : Option Str := if 0 ≤ i ∧ i < l.length then (if l.getD i.toNat [] = [] then none else some (l.getD i.toNat [])) else none
theorem w125 {st : St} {o : Nat} {tk : Option Nat} {txt : Str} {bad : Bool} (h : Pr st o tk txt bad) (l : List Str) (i : Int) (hlen : txt.length + ((pickW l i).getD []).length ≤ 140737488355328) :
  CallW Tryz.prog w0 base 125 [.ptr o 0, .sl (strs l) l.length .no, .int .i64 i] st fun v st' => v = .tuple [] ∧ ∃ t', Pr st' o t' (txt ++ (pickW l i).getD []) (bad || (pickW l i).isNone) ∧ Kp o tk st st' t' := by
 obtain ⟨a, p, ho, hlt, h1, h2⟩ := pr_set (bad' := true) h 19
 refine za Tryz.func125 r125 rfl ?_
 unfold b125 strs
 simp -dsimp -implicitDefEqProofs
 have hbad : pickW l i = none → Hold (packRes [] = AV.tuple [] ∧ ∃ t', Pr ((st.bump 19).put o (AObj.cells 179 [a, AV.sl (bytesAV txt) (List.length txt) p, AV.bool true])) o t' (txt ++ (pickW l i).getD []) (bad || (pickW l i).isNone) ∧
     Kp o tk st ((st.bump 19).put o (AObj.cells 179 [a, AV.sl (bytesAV txt) (List.length txt) p, AV.bool true])) t') .mk := by
  intro hp
  rw [hp]
  exact hold ⟨rfl, tk, by simpa using h1, h2⟩
 refine Br_iff (fun hb => ?_) (fun hb => ?_)
 ·have hp : pickW l i = none := by
   simp at hb
   simp only [pickW]; rw [if_neg]; omega
  simp -dsimp -implicitDefEqProofs [ho, hb]
  exact hbad hp
 ·have h0 : 0 ≤ i := by simpa using hb
  obtain ⟨n, rfl⟩ := Int.eq_ofNat_of_zero_le h0
  simp -dsimp -implicitDefEqProofs [ho, hb]
  refine Br_iff (fun hc => ?_) (fun hc => ?_)
  ·have hp : pickW l n = none := by
    simp at hc
    simp only [pickW]; rw [if_neg]; omega
   simp -dsimp -implicitDefEqProofs [ho, hc]
   exact hbad hp
  ·have hlt' : n < l.length := by simpa using hc
   obtain ⟨y, hy⟩ : ∃ y, l[n]? = some y := ⟨_, List.getElem?_eq_getElem hlt'⟩
   have hy' : l[n] = y := by simpa [hlt'] using hy
   have hpick : pickW l n = if y = [] then none else some y := by
    simp [pickW, hlt', List.getD, hy, hy']
   simp -dsimp -implicitDefEqProofs [ho, hb, hc, hlt', hy']
   refine Br_iff (fun hd => ?_) (fun hd => ?_)
   ·have hp : pickW l n = none := by rw [hpick, if_pos (by simpa using hd)]
    simp -dsimp -implicitDefEqProofs [ho]
    exact hbad hp
   ·have hp : pickW l n = some y := by rw [hpick, if_neg (by simpa using hd)]
    simp -dsimp -implicitDefEqProofs [hlt', hy']
    refine yu (args' := [.ptr o 0, .str y]) (w153 (zk h.wf) (bd_bump h.bd 23) lies179 y (by rw [hp] at hlen; exact hlen)) (by simp [AV.bareL, AV.bare]) ?_
    rintro v s' ⟨rfl, t', q1, q2⟩
    simp -dsimp -implicitDefEqProofs
    refine hold ⟨rfl, t', ⟨q2.wf, ?_⟩, kp_pre q2⟩
    rw [hp]
    simpa using q1
end
section
variable {w0 : World} {base : Nat}
def Wr (w0 : World) (base : Nat) (f : FuncId) (o : Nat) (args : List AV) (out : Str × Bool) : Prop :=
 ∀ (st : St) (tk : Option Nat) (txt : Str) (bad : Bool), Pr st o tk txt bad → txt.length + out.1.length ≤ 140737488355328 →
  CallW Tryz.prog w0 base f (.ptr o 0 :: args) st fun v st' => v = .tuple [] ∧ ∃ t', Pr st' o t' (txt ++ out.1) (bad || out.2) ∧ Kp o tk st st' t'
theorem yp (o : Nat) (l : List Str) (hn : l.length ≤ 140737488355328) : Wr w0 base 122 o [.sl (strs l) l.length .no] (l.flatten, false) := by
 intro st tk txt bad hp hlen
 refine callW_mono (pr_put hp l hn hlen) ?_
 rintro v s ⟨rfl, t', h1, h2⟩
 exact ⟨rfl, t', by simpa using h1, h2⟩
theorem uv (o : Nat) (s : Str) : Wr w0 base 123 o [.str s] (s, !isNameP s) := fun st tk txt bad hp hlen => w123 hp s hlen
def pickP (l : List Str) (i : Int) : Str × Bool := ((pickW l i).getD [], (pickW l i).isNone)
theorem uu (o : Nat) (l : List Str) (i : Int) : Wr w0 base 125 o [.sl (strs l) l.length .no, .int .i64 i] (pickP l i) := fun st tk txt bad hp hlen => w125 hp l i hlen
def cat (a b : Str × Bool) : Str × Bool := (a.1 ++ b.1, a.2 || b.2)
def cats : List (Str × Bool) → Str × Bool
 | [] => ([], false)
 | a :: l => cat a (cats l)
@[simp] theorem cats_nil : cats [] = ([], false) := rfl
@[simp] theorem cats_cons (a : Str × Bool) (l : List (Str × Bool)) : cats (a :: l) = cat a (cats l) := rfl
@[simp] theorem cat_end (a : Str × Bool) : cat a ([], false) = a := by simp [cat]
@[simp] theorem end_cat (a : Str × Bool) : cat ([], false) a = a := by simp [cat]
theorem cat_assoc (a b c : Str × Bool) : cat (cat a b) c = cat a (cat b c) := by simp [cat, Bool.or_assoc]
theorem cats_app (a b : List (Str × Bool)) : cats (a ++ b) = cat (cats a) (cats b) := by
 induction a with
 | nil => simp
 | cons x a ih => simp [ih, cat_assoc]
theorem Pr.lt {st : St} {o : Nat} {tk : Option Nat} {txt : Str} {bad : Bool} (h : Pr st o tk txt bad) : o < st.next := by
 obtain ⟨a, p, _, ho, _⟩ := h.bd.obj
 exact h.wf _ _ ho
theorem Pr.tlt {st : St} {o : Nat} {tk : Option Nat} {txt : Str} {bad : Bool} (h : Pr st o tk txt bad) {t : Nat} (e : tk = some t) : t < st.next := by
 obtain ⟨a, p, _, ho, ht⟩ := h.bd.obj
 subst e
 exact h.wf _ _ ht.2.2
theorem pr_new {st : St} {o : Nat} {tk : Option Nat} {txt : Str} {bad : Bool} (h : Pr st o tk txt bad) {k q : Nat} (x : AObj) (h1 : st.next ≤ q) (h2 : q < st.next + k) : Pr ((st.bump k).put q x) o tk txt bad ∧ Kp o tk st ((st.bump k).put q x) tk := by
 have hw : ((st.bump k).put q x).wf := zb (zk h.wf) h2
 have hlt := h.lt
 refine ⟨⟨hw, ?_⟩, ⟨by simp, fun p hp _ _ => ?_, .inl rfl, hw⟩⟩
 ·obtain ⟨a, p, ha, ho, ht⟩ := h.bd.obj
  refine ⟨a, p, ha, ?_, ?_⟩
  ·rw [yh, if_neg (by omega)]; exact ho
  ·cases tk with
   | none => exact ht
   | some t =>
    have := h.tlt rfl
    refine ⟨ht.1, ht.2.1, ?_⟩
    rw [yh, if_neg (by omega)]; exact ht.2.2
 ·rw [yh, if_neg (by omega)]; rfl
structure Pc (st0 : St) (tk0 : Option Nat) (o : Nat) (goal : Str × Bool) (rest : List (Str × Bool)) (s : St) : Prop where
 ex : ∃ tk txt bad, Pr s o tk txt bad ∧ Kp o tk0 st0 s tk ∧ txt ++ (cats rest).1 = goal.1 ∧ (bad || (cats rest).2) = goal.2
 len : goal.1.length ≤ 140737488355328
section
variable {st0 : St} {tk0 : Option Nat} {o : Nat} {goal : Str × Bool} {rest : List (Str × Bool)} {s : St}
theorem Pc.wf (h : Pc st0 tk0 o goal rest s) : s.wf := by obtain ⟨tk, txt, bad, h1, _⟩ := h.ex; exact h1.wf
theorem zr (h : Pc st0 tk0 o goal rest s) (k : Nat) : Pc st0 tk0 o goal rest (s.bump k) := by
 obtain ⟨tk, txt, bad, h1, h2, h3, h4⟩ := h.ex
 exact ⟨⟨tk, txt, bad, pr_bump h1 k, kp_bump h2 k, h3, h4⟩, h.len⟩
theorem pc_new (h : Pc st0 tk0 o goal rest s) {k q : Nat} (x : AObj) (h1 : s.next ≤ q) (h2 : q < s.next + k) : Pc st0 tk0 o goal rest ((s.bump k).put q x) := by
 obtain ⟨tk, txt, bad, g1, g2, g3, g4⟩ := h.ex
 obtain ⟨q1, q2⟩ := pr_new g1 x h1 h2
 exact ⟨⟨tk, txt, bad, q1, g2.trans q2, g3, g4⟩, h.len⟩
theorem pc_eq {rest' : List (Str × Bool)} (h : Pc st0 tk0 o goal rest s) (e : cats rest = cats rest') : Pc st0 tk0 o goal rest' s := by
 obtain ⟨tk, txt, bad, h1, h2, h3, h4⟩ := h.ex
 exact ⟨⟨tk, txt, bad, h1, h2, e ▸ h3, e ▸ h4⟩, h.len⟩
theorem pc_split {l : List (Str × Bool)} {a : Str × Bool} (h : Pc st0 tk0 o goal (a :: rest) s) (e : a = cats l) : Pc st0 tk0 o goal (l ++ rest) s := pc_eq h (by rw [cats_app, ← e]; rfl)
theorem pc_none (h : Pc st0 tk0 o goal (([], false) :: rest) s) : Pc st0 tk0 o goal rest s := pc_eq h (by simp)
theorem zq {f : FuncId} {args args' : List AV} {out : Str × Bool} {K : AV → St → Prop} {l : Lock K} (h : Wr w0 base f o args' out) (e : AV.bareL args = .ptr o 0 :: args') (hp : Pc st0 tk0 o goal (out :: rest) s)
  (hk : ∀ s' : St, s'.objs s'.next = none → (∀ k, s'.objs (s'.next + k) = none) → Pc st0 tk0 o goal rest s' → K (.tuple []) s') : CallL Tryz.prog w0 base f args s K l := by
 obtain ⟨tk, txt, bad, h1, h2, h3, h4⟩ := hp.ex
 have hlen : txt.length + out.1.length ≤ 140737488355328 := by
  have := hp.len
  rw [← h3] at this
  simp only [cats_cons, cat, List.length_append] at this
  omega
 refine yu (h s tk txt bad h1 hlen) e ?_
 rintro v s' ⟨rfl, t', q1, q2⟩
 refine hk s' (zj q1.wf) (zf q1.wf) ⟨⟨t', _, _, q1, h2.trans q2, ?_, ?_⟩, hp.len⟩
 ·rw [← h3]; simp [cat]
 ·rw [← h4]; simp [cat, Bool.or_assoc]
theorem vw (h : Pc st0 tk0 o goal rest s) : ∃ (a b : AV) (bad : Bool), s.objs o = some (.cells 179 [a, b, .bool bad]) ∧ o < s.next ∧
  ∀ (c : Bool) (rest' : List (Str × Bool)) (k : Nat) (x : Bool), cats rest = cat ([], c) (cats rest') → (bad || c) = x → Pc st0 tk0 o goal rest' ((s.bump k).put o (.cells 179 [a, b, .bool x])) := by
 obtain ⟨tk, txt, bad, h1, h2, h3, h4⟩ := h.ex
 obtain ⟨a, p, ho, hlt, _, _⟩ := pr_set (bad' := false) h1 0
 refine ⟨a, _, bad, ho, hlt, fun c rest' k x e hx => ?_⟩
 subst hx
 obtain ⟨a', p', ho', hlt', q1, q2⟩ := pr_set (bad' := bad || c) h1 k
 rw [ho] at ho'
 simp only [Option.some.injEq, AObj.cells.injEq, List.cons.injEq, AV.sl.injEq] at ho'
 obtain ⟨-, rfl, ⟨-, -, rfl⟩, -⟩ := ho'
 rw [e] at h3 h4
 refine ⟨⟨tk, txt, _, q1, h2.trans q2, ?_, ?_⟩, h.len⟩
 ·rw [← h3]; simp [cat]
 ·rw [← h4]; simp [cat, Bool.or_assoc]
end
theorem yx {f : FuncId} {o : Nat} {args : List AV} {out : Str × Bool} (outs : List (Str × Bool)) (e : out = cats outs)
  (h : ∀ (st : St) (tk : Option Nat) (goal : Str × Bool), st.objs st.next = none → (∀ k, st.objs (st.next + k) = none) → Pc st tk o goal outs st →
   CallW Tryz.prog w0 base f (.ptr o 0 :: args) st fun v st' => v = .tuple [] ∧ Pc st tk o goal [] st') : Wr w0 base f o args out := by
 intro st tk txt bad hp hlen
 subst e
 refine callW_mono (h st tk (txt ++ (cats outs).1, bad || (cats outs).2) (zj hp.wf) (zf hp.wf) ⟨⟨tk, txt, bad, hp, Kp.refl hp.wf, rfl, rfl⟩, by simpa using hlen⟩) ?_
 rintro v s ⟨rfl, q⟩
 obtain ⟨t', txt', bad', h1, h2, h3, h4⟩ := q.ex
 simp only [cats_nil, List.append_nil, Bool.or_false] at h3 h4
 subst h3; subst h4
 exact ⟨rfl, t', h1, h2⟩
theorem pc_end {st0 : St} {tk0 : Option Nat} {o : Nat} {goal : Str × Bool} {s : St} (h : Pc st0 tk0 o goal [] s) (k : Nat) : Hold (packRes [] = AV.tuple [] ∧ Pc st0 tk0 o goal [] (s.bump k)) .mk := hold ⟨rfl, zr h k⟩
theorem xz {st0 : St} {tk0 : Option Nat} {o : Nat} {goal : Str × Bool} {s : St} (h : Pc st0 tk0 o goal [] s) : Hold (packRes [] = AV.tuple [] ∧ Pc st0 tk0 o goal [] s) .mk := hold ⟨rfl, h⟩
def sub1 (n : Int) : Int := IntKind.i64.wrap (n - 1)
def paramP (name : Str) (typ : Int) : Str × Bool := cats [(name, !isNameP name), ([32], false), pickP wTypes (sub1 typ)]
theorem wr_param (o : Nat) (name : Str) (typ : Int) : Wr w0 base 127 o [.agg [.str name, .int .i64 typ]] (paramP name typ) := by
 refine yx _ rfl fun st tk goal hn0 hn p0 => za Tryz.func127 r127 rfl ?_
 unfold b127
 simp -dsimp -implicitDefEqProofs [hn0, hn, zz]
 refine zq (uv o name) (by simp [AV.bareL, AV.bare]) (zr p0 _) fun s1 f1 g1 p1 => ?_
 simp -dsimp -implicitDefEqProofs [f1, g1, zz]
 refine zq (yp o [[32]] (by simp)) (by simp [AV.bareL, AV.bare, strs]) (zr p1 _) fun s2 f2 g2 p2 => ?_
 simp -dsimp -implicitDefEqProofs [f2, g2, zz]
 refine zt (d156 _) ?_
 simp -dsimp -implicitDefEqProofs [f2, g2, zz]
 refine zq (uu o wTypes (sub1 typ)) (by simp [AV.bareL, AV.bare, wz, sub1, wTypes, strs]) (zr p2 _) fun s3 f3 g3 p3 => ?_
 simp -dsimp -implicitDefEqProofs [f3, g3, zz]
 exact xz p3
end
section
variable {w0 : World} {base : Nat}
def noneP (e : Ex) : Bool := e.kind == 0 && (e.op == 0 && (e.typ == 0 && (e.name == [] && (e.v == 0 && e.a.length == 0))))
theorem d229 (st : St) (e : Ex) : Det Tryz.prog w0 base 229 [.agg e.cells] st (.bool (noneP e)) st := by
 refine zh (zp Tryz.func229 r229) fun hwf hfit => z6 Tryz.func229 r229 rfl ?_
 obtain ⟨k, op, t, n, v, a⟩ := e
 simp only [Ex.cells, noneP]
 clear hfit
 generalize Ex.cellsL a = ca
 generalize a.length = la
 have hn0 := zj hwf
 have hn := zf hwf
 unfold b229
 simp -dsimp -implicitDefEqProofs [hn0, hn, zz]
 repeat' (refine Br_iff (fun hb => ?_) (fun hb => ?_) <;> simp -dsimp -implicitDefEqProofs [*])
 all_goals exact zn hwf (by simp [eraseA, cast_beq0])
end
section
variable {w0 : World} {base : Nat}
def onlyP (k op t : Int) (nm : Str) (v : Int) (la : Nat) (n : Int) : Bool := !((la : Int) == n) || (!(op == 0) || (!(t == 0) || (!(nm == []) || !(v == 0))))
theorem uc (o : Nat) (k op t : Int) (nm : Str) (v : Int) (a : List AV) (la : Nat) (n : Int) : Wr w0 base 196 o [.agg [vi k, vi op, vi t, .str nm, .int .i32 v, .sl a la .no], vi n] ([], onlyP k op t nm v la n) := by
 refine yx [([], onlyP k op t nm v la n)] (by simp) fun st tk goal hn0 hn p0 => za Tryz.func196 r196 rfl ?_
 obtain ⟨x, y, bad, ho, hlt, hput⟩ := vw p0
 unfold b196
 simp -dsimp -implicitDefEqProofs [hn0, hn, zz, ho]
 repeat' (refine Br_iff (fun hb => ?_) (fun hb => ?_) <;> simp -dsimp -implicitDefEqProofs [ho, hb])
 all_goals exact hold ⟨rfl, hput _ [] _ _ rfl (by simp_all [onlyP, bne])⟩
def spareL (s : Sm) (op typ bound name x y body els : Bool) : List Bool :=
 [!op && s.op != 0, !typ && s.typ != 0, !bound && s.bound != 0, !name && !s.name.isEmpty, !x && !noneP s.x, !y && !noneP s.y, !body && decide (0 < s.body.length), !els && decide (0 < s.els.length)]
def spareP (s : Sm) (op typ bound name x y body els : Bool) : Bool := decide (true ∈ spareL s op typ bound name x y body els)
theorem wr_spare_SVar (o : Nat) (s : Sm) : Wr w0 base 216 o [.agg s.cells, .bool false, .bool true, .bool false, .bool true, .bool true, .bool false, .bool false, .bool false] ([], spareP s false true false true true false false false) := by
 refine yx [([], spareP s false true false true true false false false)] (by simp) fun st tk goal hn0 hn p0 => za Tryz.func216 r216 rfl ?_
 obtain ⟨u, w, bad, ho, hlt, hput⟩ := vw p0
 obtain ⟨k, op, t, b, n, x, y, body, els⟩ := s
 simp only [Sm.cells]
 unfold b216
 simp -dsimp -implicitDefEqProofs [hn0, hn, zz, ho]
 refine zt (d229 _ y) ?_
 simp -dsimp -implicitDefEqProofs [hn0, hn, zz, ho]
 refine Br_iff (fun hb => ?_) (fun hb => ?_)
 ·simp -dsimp -implicitDefEqProofs [ho, hb]
  exact hold ⟨rfl, hput _ [] _ _ rfl (by simp [hb])⟩
 ·simp -dsimp -implicitDefEqProofs [ho, hb]
  refine zo (d230 _ (spareL (Sm.mk k op t b n x y body els) false true false true true false false false) true) (by simp [AV.bareL, AV.bare, spareL]) ?_
  simp -dsimp -implicitDefEqProofs [ho, hb]
  exact hold ⟨rfl, hput _ [] _ _ rfl (by simp [hb, spareP])⟩
theorem wr_spare_SSet (o : Nat) (s : Sm) : Wr w0 base 216 o [.agg s.cells, .bool false, .bool false, .bool false, .bool true, .bool true, .bool false, .bool false, .bool false] ([], spareP s false false false true true false false false) := by
 refine yx [([], spareP s false false false true true false false false)] (by simp) fun st tk goal hn0 hn p0 => za Tryz.func216 r216 rfl ?_
 obtain ⟨u, w, bad, ho, hlt, hput⟩ := vw p0
 obtain ⟨k, op, t, b, n, x, y, body, els⟩ := s
 simp only [Sm.cells]
 unfold b216
 simp -dsimp -implicitDefEqProofs [hn0, hn, zz, ho]
 refine zt (d229 _ y) ?_
 simp -dsimp -implicitDefEqProofs [hn0, hn, zz, ho]
 refine Br_iff (fun hb => ?_) (fun hb => ?_)
 ·simp -dsimp -implicitDefEqProofs [ho, hb]
  exact hold ⟨rfl, hput _ [] _ _ rfl (by simp [hb])⟩
 ·simp -dsimp -implicitDefEqProofs [ho, hb]
  refine zo (d230 _ (spareL (Sm.mk k op t b n x y body els) false false false true true false false false) true) (by simp [AV.bareL, AV.bare, spareL]) ?_
  simp -dsimp -implicitDefEqProofs [ho, hb]
  exact hold ⟨rfl, hput _ [] _ _ rfl (by simp [hb, spareP])⟩
theorem wr_spare_SStore (o : Nat) (s : Sm) : Wr w0 base 216 o [.agg s.cells, .bool false, .bool false, .bool false, .bool true, .bool true, .bool true, .bool false, .bool false] ([], spareP s false false false true true true false false) := by
 refine yx [([], spareP s false false false true true true false false)] (by simp) fun st tk goal hn0 hn p0 => za Tryz.func216 r216 rfl ?_
 obtain ⟨u, w, bad, ho, hlt, hput⟩ := vw p0
 obtain ⟨k, op, t, b, n, x, y, body, els⟩ := s
 simp only [Sm.cells]
 unfold b216
 simp -dsimp -implicitDefEqProofs [hn0, hn, zz, ho]
 refine Br_iff (fun hb => ?_) (fun hb => ?_)
 ·simp -dsimp -implicitDefEqProofs [ho, hb]
  exact hold ⟨rfl, hput _ [] _ _ rfl (by simp [hb])⟩
 ·simp -dsimp -implicitDefEqProofs [ho, hb]
  refine zo (d230 _ (spareL (Sm.mk k op t b n x y body els) false false false true true true false false) true) (by simp [AV.bareL, AV.bare, spareL]) ?_
  simp -dsimp -implicitDefEqProofs [ho, hb]
  exact hold ⟨rfl, hput _ [] _ _ rfl (by simp [hb, spareP])⟩
theorem wr_spare_SIf (o : Nat) (s : Sm) : Wr w0 base 216 o [.agg s.cells, .bool false, .bool false, .bool false, .bool false, .bool true, .bool false, .bool true, .bool true] ([], spareP s false false false false true false true true) := by
 refine yx [([], spareP s false false false false true false true true)] (by simp) fun st tk goal hn0 hn p0 => za Tryz.func216 r216 rfl ?_
 obtain ⟨u, w, bad, ho, hlt, hput⟩ := vw p0
 obtain ⟨k, op, t, b, n, x, y, body, els⟩ := s
 simp only [Sm.cells]
 unfold b216
 simp -dsimp -implicitDefEqProofs [hn0, hn, zz, ho]
 refine zt (d229 _ y) ?_
 simp -dsimp -implicitDefEqProofs [hn0, hn, zz, ho]
 refine Br_iff (fun hb => ?_) (fun hb => ?_)
 ·simp -dsimp -implicitDefEqProofs [ho, hb]
  exact hold ⟨rfl, hput _ [] _ _ rfl (by simp [hb])⟩
 ·simp -dsimp -implicitDefEqProofs [ho, hb]
  refine zo (d230 _ (spareL (Sm.mk k op t b n x y body els) false false false false true false true true) true) (by simp [AV.bareL, AV.bare, spareL]) ?_
  simp -dsimp -implicitDefEqProofs [ho, hb]
  exact hold ⟨rfl, hput _ [] _ _ rfl (by simp [hb, spareP])⟩
theorem wr_spare_SWhile (o : Nat) (s : Sm) : Wr w0 base 216 o [.agg s.cells, .bool false, .bool false, .bool true, .bool false, .bool true, .bool false, .bool true, .bool false] ([], spareP s false false true false true false true false) := by
 refine yx [([], spareP s false false true false true false true false)] (by simp) fun st tk goal hn0 hn p0 => za Tryz.func216 r216 rfl ?_
 obtain ⟨u, w, bad, ho, hlt, hput⟩ := vw p0
 obtain ⟨k, op, t, b, n, x, y, body, els⟩ := s
 simp only [Sm.cells]
 unfold b216
 simp -dsimp -implicitDefEqProofs [hn0, hn, zz, ho]
 refine zt (d229 _ y) ?_
 simp -dsimp -implicitDefEqProofs [hn0, hn, zz, ho]
 refine Br_iff (fun hb => ?_) (fun hb => ?_)
 ·simp -dsimp -implicitDefEqProofs [ho, hb]
  exact hold ⟨rfl, hput _ [] _ _ rfl (by simp [hb])⟩
 ·simp -dsimp -implicitDefEqProofs [ho, hb]
  refine zo (d230 _ (spareL (Sm.mk k op t b n x y body els) false false true false true false true false) true) (by simp [AV.bareL, AV.bare, spareL]) ?_
  simp -dsimp -implicitDefEqProofs [ho, hb]
  exact hold ⟨rfl, hput _ [] _ _ rfl (by simp [hb, spareP])⟩
theorem vn (o : Nat) (s : Sm) : Wr w0 base 216 o [.agg s.cells, .bool false, .bool false, .bool false, .bool false, .bool false, .bool false, .bool false, .bool false] ([], spareP s false false false false false false false false) := by
 refine yx [([], spareP s false false false false false false false false)] (by simp) fun st tk goal hn0 hn p0 => za Tryz.func216 r216 rfl ?_
 obtain ⟨u, w, bad, ho, hlt, hput⟩ := vw p0
 obtain ⟨k, op, t, b, n, x, y, body, els⟩ := s
 simp only [Sm.cells]
 unfold b216
 simp -dsimp -implicitDefEqProofs [hn0, hn, zz, ho]
 refine zt (d229 _ x) ?_
 simp -dsimp -implicitDefEqProofs [hn0, hn, zz, ho]
 refine zt (d229 _ y) ?_
 simp -dsimp -implicitDefEqProofs [hn0, hn, zz, ho]
 refine Br_iff (fun hb => ?_) (fun hb => ?_)
 ·simp -dsimp -implicitDefEqProofs [ho, hb]
  exact hold ⟨rfl, hput _ [] _ _ rfl (by simp [hb])⟩
 ·simp -dsimp -implicitDefEqProofs [ho, hb]
  refine zo (d230 _ (spareL (Sm.mk k op t b n x y body els) false false false false false false false false) true) (by simp [AV.bareL, AV.bare, spareL]) ?_
  simp -dsimp -implicitDefEqProofs [ho, hb]
  exact hold ⟨rfl, hput _ [] _ _ rfl (by simp [hb, spareP])⟩
theorem wg (o : Nat) (s : Sm) : Wr w0 base 216 o [.agg s.cells, .bool true, .bool false, .bool false, .bool false, .bool false, .bool false, .bool false, .bool false] ([], spareP s true false false false false false false false) := by
 refine yx [([], spareP s true false false false false false false false)] (by simp) fun st tk goal hn0 hn p0 => za Tryz.func216 r216 rfl ?_
 obtain ⟨u, w, bad, ho, hlt, hput⟩ := vw p0
 obtain ⟨k, op, t, b, n, x, y, body, els⟩ := s
 simp only [Sm.cells]
 unfold b216
 simp -dsimp -implicitDefEqProofs [hn0, hn, zz, ho]
 refine zt (d229 _ x) ?_
 simp -dsimp -implicitDefEqProofs [hn0, hn, zz, ho]
 refine zt (d229 _ y) ?_
 simp -dsimp -implicitDefEqProofs [hn0, hn, zz, ho]
 refine Br_iff (fun hb => ?_) (fun hb => ?_)
 ·simp -dsimp -implicitDefEqProofs [ho, hb]
  exact hold ⟨rfl, hput _ [] _ _ rfl (by simp [hb])⟩
 ·simp -dsimp -implicitDefEqProofs [ho, hb]
  refine zo (d230 _ (spareL (Sm.mk k op t b n x y body els) true false false false false false false false) true) (by simp [AV.bareL, AV.bare, spareL]) ?_
  simp -dsimp -implicitDefEqProofs [ho, hb]
  exact hold ⟨rfl, hput _ [] _ _ rfl (by simp [hb, spareP])⟩
theorem vo (o : Nat) (s : Sm) : Wr w0 base 216 o [.agg s.cells, .bool true, .bool false, .bool false, .bool true, .bool true, .bool true, .bool false, .bool false] ([], spareP s true false false true true true false false) := by
 refine yx [([], spareP s true false false true true true false false)] (by simp) fun st tk goal hn0 hn p0 => za Tryz.func216 r216 rfl ?_
 obtain ⟨u, w, bad, ho, hlt, hput⟩ := vw p0
 obtain ⟨k, op, t, b, n, x, y, body, els⟩ := s
 simp only [Sm.cells]
 unfold b216
 simp -dsimp -implicitDefEqProofs [hn0, hn, zz, ho]
 refine Br_iff (fun hb => ?_) (fun hb => ?_)
 ·simp -dsimp -implicitDefEqProofs [ho, hb]
  exact hold ⟨rfl, hput _ [] _ _ rfl (by simp [hb])⟩
 ·simp -dsimp -implicitDefEqProofs [ho, hb]
  refine zo (d230 _ (spareL (Sm.mk k op t b n x y body els) true false false true true true false false) true) (by simp [AV.bareL, AV.bare, spareL]) ?_
  simp -dsimp -implicitDefEqProofs [ho, hb]
  exact hold ⟨rfl, hput _ [] _ _ rfl (by simp [hb, spareP])⟩
theorem uy (o : Nat) (s : Sm) : Wr w0 base 216 o [.agg s.cells, .bool true, .bool false, .bool false, .bool true, .bool true, .bool false, .bool false, .bool false] ([], spareP s true false false true true false false false) := by
 refine yx [([], spareP s true false false true true false false false)] (by simp) fun st tk goal hn0 hn p0 => za Tryz.func216 r216 rfl ?_
 obtain ⟨u, w, bad, ho, hlt, hput⟩ := vw p0
 obtain ⟨k, op, t, b, n, x, y, body, els⟩ := s
 simp only [Sm.cells]
 unfold b216
 simp -dsimp -implicitDefEqProofs [hn0, hn, zz, ho]
 refine zt (d229 _ y) ?_
 simp -dsimp -implicitDefEqProofs [hn0, hn, zz, ho]
 refine Br_iff (fun hb => ?_) (fun hb => ?_)
 ·simp -dsimp -implicitDefEqProofs [ho, hb]
  exact hold ⟨rfl, hput _ [] _ _ rfl (by simp [hb])⟩
 ·simp -dsimp -implicitDefEqProofs [ho, hb]
  refine zo (d230 _ (spareL (Sm.mk k op t b n x y body els) true false false true true false false false) true) (by simp [AV.bareL, AV.bare, spareL]) ?_
  simp -dsimp -implicitDefEqProofs [ho, hb]
  exact hold ⟨rfl, hput _ [] _ _ rfl (by simp [hb, spareP])⟩
end
section
variable {w0 : World} {base : Nat}
theorem w233 {T : TypeId} {rest : List AV} {st : St} {o : Nat} {tk : Option Nat} {txt : Str} (hwf : st.wf) (h : Bd T rest st o tk txt) (hl : liesB T (rest.length + 2)) (c : UInt8) (hlen : txt.length + 1 ≤ 140737488355328) :
  CallW Tryz.prog w0 base 233 [.ptr o 0, vb c] st fun v st' => v = .nilIface ∧ ∃ t', Bd T rest st' o (some t') (txt ++ [c]) ∧ Kp o tk st st' (some t') := by
 obtain ⟨a, p, ha, ho, ht⟩ := h.obj
 have hlt := hwf _ _ ho
 refine za Tryz.func233 r233 rfl ?_
 unfold b233 vb
 simp -dsimp -implicitDefEqProofs
 refine zt (d188 (T := T) (a := a) (cs := .sl (bytesAV txt) txt.length p :: rest) (by simp [ho]) ha hl) ?_
 have hbl : (bytesAV txt).length = txt.length := by simp [bytesAV]
 have happ : bytesAV (txt ++ [c]) = bytesAV txt ++ [AV.int .u8 c.toNat] := by simp [bytesAV]
 cases tk with
 | none =>
  obtain ⟨rfl, rfl⟩ := ht
  simp -dsimp -implicitDefEqProofs [hlt, zx, zy, zu, hbl, big]
  refine hold ⟨rfl, st.next + 10, ⟨.ptr o 0, .tok (st.next + 10), .inr rfl, by simp [bytesAV, hlt, zx], rfl, by omega, by simp [hlt, zu, zx]⟩, ⟨by simp, fun q hq h1 h2 => by simp [h1, hq, zx], .inr ⟨_, rfl, by omega⟩, ?_⟩⟩
  refine zb (zb (zb (zk hwf) ?_) ?_) ?_ <;> simp <;> omega
 | some t =>
  obtain ⟨rfl, e2, e3⟩ := ht
  have hlt' := hwf _ _ e3
  simp -dsimp -implicitDefEqProofs [hlt, zx, zy, zu, hbl, hlen, big, e2, e3, Ne.symm e2]
  refine hold ⟨rfl, t, ⟨.ptr o 0, .tok t, .inr rfl, by simp [happ], rfl, e2, by simp [e2]⟩, ⟨by simp, fun q hq h1 h2 => ?_, .inl rfl, ?_⟩⟩
  ·have : q ≠ t := fun e => h2 (by rw [e])
   simp [h1, this]
  ·refine zb (zb (zb (zk hwf) ?_) ?_) ?_ <;> simp <;> omega
def truthW : Bool → Str
 | true => [116, 114, 117, 101]
 | false => [102, 97, 108, 115, 101]
theorem d235 (st : St) (b : Bool) : Det Tryz.prog w0 base 235 [.bool b] st (.str (truthW b)) st := by
 refine zh (zp Tryz.func235 r235) fun hwf hfit => z6 Tryz.func235 r235 rfl ?_
 unfold b235
 cases b
 all_goals
  simp -dsimp -implicitDefEqProofs
  exact zn hwf (by simp [eraseA, truthW])
theorem d219 (st : St) (b : Bool) : Det Tryz.prog w0 base 219 [.bool b] st (.str (truthW b)) st := by
 refine zh (zp Tryz.func219 r219) fun hwf hfit => z6 Tryz.func219 r219 rfl ?_
 unfold b219
 simp -dsimp -implicitDefEqProofs
 refine zt (d235 _ b) ?_
 simp -dsimp -implicitDefEqProofs
 exact zn hwf (by simp [eraseA])
theorem d234 (hT : Tabs w0 base) (st : St) (n : Int) (h0 : -9223372036854775808 ≤ n) (h1 : n ≤ 9223372036854775807) : Det Tryz.prog w0 base 234 [.int .i64 n, .int .i64 10] st (.str (Lib.itoa n)) st := by
 refine zh (zp Tryz.func234 r234) fun hwf hfit => z6 Tryz.func234 r234 rfl ?_
 unfold b234
 simp -dsimp -implicitDefEqProofs
 refine zt (d192 hT _ n h0 h1) ?_
 simp -dsimp -implicitDefEqProofs
 exact zn hwf (by simp [eraseA])
def fracP : Nat → Nat → Str
 | 0, _ => []
 | f + 1, r => UInt8.ofNat (48 + r * 10 / 65536) :: (if r * 10 % 65536 = 0 then [] else fracP f (r * 10 % 65536))
def fixedP (n : Int) : Str := (if n < 0 then [45] else []) ++ (Lib.itoa (n.natAbs / 65536 : Nat) ++ ([46] ++ fracP 17 (n.natAbs % 65536)))
structure Lb (st : St) (o : Nat) (tk : Option Nat) (txt : Str) (s : St) : Prop where
 wf : s.wf
 bd : Bd 177 [] s o tk txt
 old : ∀ p, p < st.next → s.objs p = st.objs p
 own : st.next ≤ o
 tok : ∀ t, tk = some t → st.next ≤ t
 next : st.next ≤ s.next
theorem lies177 : liesB 177 2 := by unfold liesB; kernel_rfl
theorem ug {st s : St} {o : Nat} {tk : Option Nat} {txt : Str} (h : Lb st o tk txt s) (k : Nat) : Lb st o tk txt (s.bump k) :=
 ⟨zk h.wf, bd_bump h.bd k, h.old, h.own, h.tok, Nat.le_trans h.next (Nat.le_add_right _ _)⟩
theorem lb_kp {st s s' : St} {o : Nat} {tk t' : Option Nat} {txt txt' : Str} (h : Lb st o tk txt s) (hb : Bd 177 [] s' o t' txt') (k : Kp o tk s s' t') : Lb st o t' txt' s' := by
 refine ⟨k.wf, hb, fun p hp => ?_, h.own, fun t e => ?_, Nat.le_trans h.next k.next⟩
 ·rw [k.same p (Nat.lt_of_lt_of_le hp h.next) (by have := h.own; omega) (fun e => by have := h.tok p e.symm; omega)]
  exact h.old p hp
 ·rcases k.tok with e' | ⟨q, e', hq⟩
  ·exact h.tok t (e' ▸ e)
  ·rw [e'] at e; cases e; exact Nat.le_trans h.next hq
theorem lb_byte {st s : St} {o : Nat} {tk : Option Nat} {txt : Str} {args : List AV} {K : AV → St → Prop} {l : Lock K} (h : Lb st o tk txt s) (c : UInt8) (e : AV.bareL args = [.ptr o 0, vb c]) (hlen : txt.length + 1 ≤ 140737488355328)
  (hk : ∀ s' t', Lb st o (some t') (txt ++ [c]) s' → K .nilIface s') : CallL Tryz.prog w0 base 233 args s K l := by
 refine yu (w233 h.wf h.bd lies177 c hlen) e ?_
 rintro v s' ⟨rfl, t', h1, h2⟩
 exact hk s' t' (lb_kp h h1 h2)
theorem lb_str {st s : St} {o : Nat} {tk : Option Nat} {txt : Str} {args : List AV} {K : AV → St → Prop} {l : Lock K} (h : Lb st o tk txt s) (x : Str) (e : AV.bareL args = [.ptr o 0, .str x]) (hlen : txt.length + x.length ≤ 140737488355328)
  (hk : ∀ s' t', Lb st o t' (txt ++ x) s' → K (.tuple [.int .i64 x.length, .nilIface]) s') : CallL Tryz.prog w0 base 153 args s K l := by
 refine yu (w153 h.wf h.bd lies177 x hlen) e ?_
 rintro v s' ⟨rfl, t', h1, h2⟩
 exact hk s' t' (lb_kp h h1 h2)
theorem lb_end {st s : St} {o t : Nat} {txt : Str} {args : List AV} {K : AV → St → Prop} {l : Lock K} (h : Lb st o (some t) txt s) (e : AV.bareL args = [.ptr o 0]) (hne : txt ≠ [])
  (hk : (∀ p, p < st.next → (s.del t).objs p = st.objs p) → K (.str txt) (s.del t)) : CallL Tryz.prog w0 base 131 args s K l := by
 refine zo (d131 h.bd hne) e (hk fun p hp => ?_)
 have := h.tok t rfl
 rw [del_objs, if_neg (by omega)]
 exact h.old p hp
theorem and_low (n q r : Nat) (h : n < 9223372036854775808) (e : n = q * 65536 + r) (hr : r < 65536) : IntKind.i64.wrap ((n % 2 ^ IntKind.i64.bits &&& 65535 % 2 ^ IntKind.i64.bits : Nat) : Int) = (r : Int) := by
 have e1 : n % 2 ^ IntKind.i64.bits = n := Nat.mod_eq_of_lt (by simp [IntKind.bits]; omega)
 have e2 : 65535 % 2 ^ IntKind.i64.bits = 65535 := by decide
 rw [e1, e2, show (65535 : Nat) = 2 ^ 16 - 1 from rfl, Nat.and_two_pow_sub_one_eq_mod, show n % 2 ^ 16 = r by omega]
 exact yy (by omega) (by omega)
theorem shr_16 (n q r : Nat) (e : n = q * 65536 + r) (hr : r < 65536) : ((n : Int).fdiv (2 ^ min 16 IntKind.i64.bits)) = (q : Int) := by
 rw [show min 16 IntKind.i64.bits = 16 from rfl, Int.fdiv_eq_ediv_of_nonneg _ (by decide)]
 omega
theorem frac_len : ∀ (f r : Nat), (fracP f r).length ≤ f
 | 0, r => by simp [fracP]
 | f + 1, r => by
  simp only [fracP, List.length_cons]
  split
  ·simp
  ·have := frac_len f (r * 10 % 65536); omega
def b218r : SCode := (.seq (.reg [m 11 0, pE 12 (.bin .int .shr (t 11) (.lit (.int .u64 16))), oS 13 (.call 234 [(t 12), (i 10)]), oS 14 (.call 153 [(t 3), (t 13)])]) (.seq (.reg [oS 15 (.call 233 [(t 3), (.lit (.int .u8 46))])]) (.seq (.seq (.reg [m 16 0, pE 17 (.bin .int .and (t 16) (i 65535)), m 4 17, pE 5 (.mov (.lit (.bool true)))]) (.block 0 (.loop l218_0))) (.seq (.reg [oS 32 (.call 131 [(t 3)]), m 2 32]) .ret))))
theorem frac_go (f r : Nat) : fracP (f + 1) r = UInt8.ofNat (48 + r * 10 / 65536) :: (if r * 10 % 65536 = 0 then [] else fracP f (r * 10 % 65536)) := rfl
theorem pow_step (j r : Nat) (hj : j ≤ 15) (h : 2 ^ j ∣ r) : 2 ^ (j + 1) ∣ r * 10 % 65536 := by
 have h1 : 2 ^ (j + 1) ∣ 65536 := ⟨2 ^ (15 - j), by rw [← Nat.pow_add, show j + 1 + (15 - j) = 16 by omega]⟩
 refine (Nat.dvd_mod_iff h1).2 ?_
 rw [Nat.pow_succ, show r * 10 = r * 2 * 5 by omega]
 exact Nat.dvd_mul_right_of_dvd (Nat.mul_dvd_mul_right h 2) 5
theorem pow_big (j r : Nat) (hr : r < 65536) (h : 2 ^ j ∣ r) (h0 : 0 < r) : j ≤ 15 := by
 have := Nat.le_of_dvd h0 h
 rcases Nat.lt_or_ge 15 j with h1 | h1
 ·have : 2 ^ 16 ≤ 2 ^ j := Nat.pow_le_pow_right (by omega) h1
  omega
 ·exact h1
def InFrac (st : St) (o : Nat) (all : Str) (k : Nat) (e : Env) (s : St) : Prop := ∃ (j r : Nat) (fst : Bool) (t : Nat) (txt : Str), j + k = 17 ∧ e 4 = .int .i64 r ∧ e 5 = .bool fst ∧ r < 65536 ∧ 2 ^ j ∣ r ∧ (fst = true → j = 0) ∧
 txt ++ (if fst = true ∨ 0 < r then fracP k r else []) = all ∧ Lb st o (some t) txt s
theorem m218 (hT : Tabs w0 base) {st s : St} {o : Nat} {tk : Option Nat} {txt : Str} {e : Env} {out : Str} {n q r : Nat} (hwf : st.wf) (hb : Lb st o tk txt s) (hl : txt.length ≤ 10) (hn : n ≤ 2147483648) (hq : n = q * 65536 + r) (hr : r < 65536) (e0 : e 0 = .int .i64 n) (e3 : e 3 = .ptr o 0)
  (hout : out = txt ++ (Lib.itoa q ++ ([46] ++ fracP 17 r))) : awp Tryz.prog w0 base b218r e [] s (Ends Tryz.prog w0 base [SRes.tmp 2] st (AV.str out) st) := by
 have hfit := itoa_fit (q : Int) (by omega) (by omega)
 have hlen : out.length ≤ 100 := by
  have := frac_len 17 r
  rw [hout]; simp; omega
 unfold b218r
 simp -dsimp -implicitDefEqProofs [e0, e3, shr_16 n q r hq hr]
 refine zt (d234 hT _ (q : Int) (by omega) (by omega)) ?_
 simp -dsimp -implicitDefEqProofs [e0, e3]
 refine lb_str (ug hb _) (Lib.itoa q) (by simp [AV.bareL, AV.bare]) (by omega) fun s1 t1 h1 => ?_
 simp -dsimp -implicitDefEqProofs [e0, e3]
 refine lb_byte (ug h1 _) 46 (by simp [AV.bareL, AV.bare, vb]) (by simp; omega) fun s2 t2 h2 => ?_
 simp -dsimp -implicitDefEqProofs [e0, e3, and_low n q r (by omega) hq hr]
 refine loop_by (fun k e s => InFrac st o out k e s) 17 ⟨0, r, true, t2, _, rfl, by simp, by simp, hr, ⟨r, by simp⟩, fun _ => rfl, by simp [hout], ug h2 _⟩ rfl ?_
 rintro k e' s' hf ⟨j, r, fst, t, txt, hj, e4, e5, hr, hd, hfst, hall, hlb⟩
 have e3' : e' 3 = .ptr o 0 := by rw [hf 3 rfl]; simp [e3]
 have hend : fst = false → r = 0 → txt = out := by rintro rfl rfl; simpa using hall
 have go : (fst = true ∨ 0 < r) → ∃ d r' k', r * 10 = d * 65536 + r' ∧ r' < 65536 ∧ d < 10 ∧ k = k' + 1 ∧ 2 ^ (j + 1) ∣ r' ∧ txt ++ [UInt8.ofNat (48 + d)] ++ (if 0 < r' then fracP k' r' else []) = out := by
  intro h
  obtain ⟨k', rfl⟩ : ∃ k', k = k' + 1 := by
   refine ⟨k - 1, ?_⟩
   rcases h with h | h
   ·have := hfst h; omega
   ·have := pow_big j r hr hd h; omega
  have hj15 : j ≤ 15 := by
   rcases h with h | h
   ·have := hfst h; omega
   ·exact pow_big j r hr hd h
  refine ⟨r * 10 / 65536, r * 10 % 65536, k', by omega, by omega, by omega, rfl, pow_step j r hj15 hd, ?_⟩
  rw [if_pos h, frac_go] at hall
  rw [← hall]
  by_cases h0 : r * 10 % 65536 = 0
  ·simp [h0]
  ·simp [h0, Nat.pos_of_ne_zero h0]
 unfold l218_0
 by_cases hor : fst = true ∨ 0 < r
 ·obtain ⟨d, r', k', g1, g2, g3, rfl, g5, g6⟩ := go hor
  have w1 : IntKind.i64.wrap ((r : Int) * 10) = ((r * 10 : Nat) : Int) := yy (by omega) (by omega)
  have w2 := shr_16 (r * 10) d r' g1 g2
  have w3 := and_low (r * 10) d r' (by omega) g1 g2
  have w4 : IntKind.i64.wrap (48 + (d : Int)) = ((48 + d : Nat) : Int) := yy (by omega) (by omega)
  have w5 : IntKind.u8.wrap ((48 + d : Nat) : Int) = ((48 + d : Nat) : Int) := by simp [IntKind.wrap, IntKind.signed, IntKind.bits]; omega
  have w6 : ((UInt8.ofNat (48 + d)).toNat : Int) = ((48 + d : Nat) : Int) := by simp; omega
  generalize hc : UInt8.ofNat (48 + d) = c at *
  generalize hm : r * 10 = m10 at *
  generalize hx : 48 + d = x at *
  have hlen2 : txt.length + 1 ≤ 100 := by
   have := congrArg List.length g6
   simp only [List.length_append, List.length_singleton] at this
   omega
  have fin : ∀ (e2 : Env) (s3 : St) (t3 k2 : Nat), Lb st o (some t3) (txt ++ [c]) s3 → e2 4 = .int .i64 r' → e2 5 = .bool false → Hold (∃ m, m < k' + 1 ∧ InFrac st o out m e2 (s3.bump k2)) .mk := by
   intro e2 s3 t3 k2 q1 q2 q3
   exact hold ⟨k', by omega, j + 1, r', false, t3, _, by omega, q2, q3, g2, g5, by simp, by simpa using g6, ug q1 _⟩
  rcases fst with _ | _
  ·have hr0 : 0 < r := by simpa using hor
   simp -dsimp -implicitDefEqProofs [e4, e5, e3', hr0, w1, w2, w4, w5]
   refine lb_byte (ug hlb _) c (by simp [AV.bareL, AV.bare, vb, w6]) (by omega) fun s3 t3 h3 => ?_
   simp -dsimp -implicitDefEqProofs [e4, e5, e3', w3]
   exact fin _ _ _ _ (ug h3 _) (by simp) (by simp)
  ·simp -dsimp -implicitDefEqProofs [e4, e5, e3', w1, w2, w4, w5]
   refine lb_byte (ug hlb _) c (by simp [AV.bareL, AV.bare, vb, w6]) (by omega) fun s3 t3 h3 => ?_
   simp -dsimp -implicitDefEqProofs [e4, e5, e3', w3]
   exact fin _ _ _ _ (ug h3 _) (by simp) (by simp)
 ·obtain ⟨hf0, hr0⟩ : fst = false ∧ r = 0 := by simpa using hor
  have hto := hend hf0 hr0
  subst hf0; subst hr0
  simp -dsimp -implicitDefEqProofs [e4, e5, e3']
  have hne : txt ≠ [] := by rw [hto, hout]; simp
  refine lb_end (ug hlb _) (by simp [AV.bareL, AV.bare, e3']) hne fun hold' => ?_
  simp -dsimp -implicitDefEqProofs [e4, e5, e3']
  refine zg hwf (fun p hp => ?_) (by simp [eraseA, hto])
  simpa using hold' p hp
theorem d218 (hT : Tabs w0 base) (st : St) (n : Int) (h0 : -2147483648 ≤ n) (h1 : n ≤ 2147483647) : Det Tryz.prog w0 base 218 [.int .i64 n] st (.str (fixedP n)) st := by
 refine zh (zp Tryz.func218 r218) fun hwf hfit => z6 Tryz.func218 r218 rfl ?_
 have hb0 : Lb st (st.next + 1) none [] ((st.bump 2).put (st.next + 1) (AObj.cells 177 [AV.nilp, AV.sl [] 0 Perm.full])) :=
  ⟨zb (zk hwf) (by simp), ⟨.nilp, .full, .inl rfl, by simp [bytesAV], rfl, rfl⟩, fun p hp => by simp [hp, zx], by omega, by simp, by simp⟩
 unfold b218
 simp -dsimp -implicitDefEqProofs
 refine Br_iff (fun hb => ?_) (fun hb => ?_)
 ·have hn : n < 0 := by simpa using hb
  rw [yr]
  simp -dsimp -implicitDefEqProofs [-yr, yy (n := -n) (by omega) (by omega)]
  refine lb_byte (txt := []) (ug hb0 6) 45 (by simp [AV.bareL, AV.bare, vb]) (by simp) fun s1 t1 h1 => ?_
  simp -dsimp -implicitDefEqProofs [-yr]
  exact m218 hT hwf h1 (by simp) (n := n.natAbs) (q := n.natAbs / 65536) (r := n.natAbs % 65536) (by omega) (by omega) (by omega) (by simp; omega) (by simp) (by simp [fixedP, hn])
 ·have hn : ¬ n < 0 := by simpa using hb
  simp -dsimp -implicitDefEqProofs [-yr]
  exact m218 hT hwf (ug hb0 2) (by simp) (n := n.natAbs) (q := n.natAbs / 65536) (r := n.natAbs % 65536) (by omega) (by omega) (by omega) (by simp; omega) (by simp) (by simp [fixedP, hn])
def textP (t v : Int) : Option Str := if t = 1 then some (Lib.itoa v) else if t = 2 then some (fixedP v) else if t = 3 ∧ (v = 0 ∨ v = 1) then some (truthW (v == 1)) else none
theorem d197 (hT : Tabs w0 base) (st : St) (t v : Int) (h0 : -2147483648 ≤ v) (h1 : v ≤ 2147483647) : Det Tryz.prog w0 base 197 [vi t, .int .i32 v] st (.tuple [.str ((textP t v).getD []), vi (if (textP t v).isSome then 0 else 1)]) st := by
 refine zh (zp Tryz.func197 r197) fun hwf hfit => z6 Tryz.func197 r197 rfl ?_
 have hw := yy (n := v) (by omega) (by omega)
 unfold b197
 simp -dsimp -implicitDefEqProofs [hw]
 refine Br_iff (fun hb => ?_) (fun hb => ?_)
 ·have : t = 1 := by simpa using hb
  simp -dsimp -implicitDefEqProofs [hw]
  refine zt (d124 hT _ v (by omega) (by omega)) ?_
  simp -dsimp -implicitDefEqProofs [hw]
  exact zn hwf (by simp [eraseA, eraseL, textP, this])
 have ht1 : ¬ t = 1 := by simpa using hb
 simp -dsimp -implicitDefEqProofs [hw, hb]
 refine Br_iff (fun hb => ?_) (fun hb => ?_)
 ·have : t = 2 := by simpa using hb
  simp -dsimp -implicitDefEqProofs [hw]
  refine zt (d218 hT _ v (by omega) (by omega)) ?_
  simp -dsimp -implicitDefEqProofs [hw]
  exact zn hwf (by simp [eraseA, eraseL, textP, this])
 have ht2 : ¬ t = 2 := by simpa using hb
 simp -dsimp -implicitDefEqProofs [hw, hb]
 refine Br_iff (fun hb => ?_) (fun hb => ?_)
 ·have ht3 : t = 3 := by simpa using hb
  subst ht3
  simp -dsimp -implicitDefEqProofs [hw]
  refine Br_iff (fun hc => ?_) (fun hc => ?_)
  ·have hv : v = 0 := by simpa using hc
   subst hv
   simp -dsimp -implicitDefEqProofs [hw]
   refine zt (d219 _ false) ?_
   simp -dsimp -implicitDefEqProofs [hw]
   exact zn hwf (by simp [eraseA, eraseL, textP])
  ·have hv : ¬ v = 0 := by simpa using hc
   simp -dsimp -implicitDefEqProofs [hw, hc]
   refine Br_iff (fun hd => ?_) (fun hd => ?_)
   ·have hv1 : v = 1 := by simpa using hd
    subst hv1
    simp -dsimp -implicitDefEqProofs [hw]
    refine zt (d219 _ true) ?_
    simp -dsimp -implicitDefEqProofs [hw]
    exact zn hwf (by simp [eraseA, eraseL, textP])
   ·have hv1 : ¬ v = 1 := by simpa using hd
    simp -dsimp -implicitDefEqProofs [hw, hc, hd]
    exact zn hwf (by simp [eraseA, eraseL, textP, hv, hv1])
 ·have ht3 : ¬ t = 3 := by simpa using hb
  simp -dsimp -implicitDefEqProofs [hw, hb]
  exact zn hwf (by simp [eraseA, eraseL, textP, ht1, ht2, ht3])
end
section
variable {w0 : World} {base : Nat}
theorem pc_len {st0 : St} {tk0 : Option Nat} {o : Nat} {goal : Str × Bool} {rest : List (Str × Bool)} {s : St} (h : Pc st0 tk0 o goal rest s) : (cats rest).1.length ≤ 140737488355328 := by
 obtain ⟨tk, txt, bad, h1, h2, h3, h4⟩ := h.ex
 have := h.len
 rw [← h3, List.length_append] at this
 omega
def commas : Nat → List (Str × Bool) → List (Str × Bool)
 | _, [] => []
 | 0, x :: l => x :: commas 1 l
 | i + 1, x :: l => ([44, 32], false) :: x :: commas (i + 2) l
def listP (r : List (Str × Bool)) : Str × Bool := cats (([40], false) :: (commas 0 r ++ [([41], false)]))
theorem commas_len : ∀ (l : List (Str × Bool)) (i : Nat), l.length ≤ (cats (commas i l)).1.length + 1 ∧ (0 < i → l.length ≤ (cats (commas i l)).1.length)
 | [], i => by cases i <;> simp [commas]
 | x :: l, 0 => by
  have := (commas_len l 1).2 (by omega)
  simp [commas, cat]; omega
 | x :: l, i + 1 => by
  have := (commas_len l (i + 2)).2 (by omega)
  simp [commas, cat]; omega
theorem listP_len (r : List (Str × Bool)) : r.length ≤ (listP r).1.length := by
 have := (commas_len r 0).1
 simp [listP, cats_app, cat]; omega
mutual
theorem Ex.bare_cells : ∀ e : Ex, AV.bareL e.cells = e.cells
 | .mk k o t n v a => by simp only [Ex.cells, AV.bareL, AV.bare, Ex.bare_cellsL a]
theorem Ex.bare_cellsL : ∀ l : List Ex, AV.bareL (Ex.cellsL l) = Ex.cellsL l
 | [] => by simp [Ex.cellsL, AV.bareL]
 | e :: l => by rw [Ex.cellsL, zm, Ex.bare_cells e, Ex.bare_cellsL l]
end
theorem vd (o : Nat) (a : List Ex) (out : Ex → Str × Bool) (h : ∀ x ∈ a, Wr w0 base 161 o [.agg x.cells] (out x)) : Wr w0 base 200 o [.sl (Ex.cellsL a) a.length .no] (listP (a.map out)) := by
 refine yx _ rfl fun st tk goal hn0 hn p0 => za Tryz.func200 r200 rfl ?_
 have hlen : a.length ≤ 140737488355328 := by
  have h1 := pc_len p0
  have h2 := listP_len (a.map out)
  simp only [listP, List.length_map] at h1 h2
  omega
 have hrow := fun j x => @yg _ Ex.cells 6 Ex.cells_len a j x
 have hle := fun j x => @ye _ Ex.cells 6 Ex.cells_len a j x
 rw [Ex.cellsL_row] at *
 generalize rowOf Ex.cells a = ca at *
 unfold b200
 simp -dsimp -implicitDefEqProofs [hn0, hn, zz]
 refine zq (yp o [[40]] (by simp)) (by simp [AV.bareL, AV.bare, strs]) (zr p0 _) fun s1 f1 g1 p1 => ?_
 simp -dsimp -implicitDefEqProofs [f1, g1, zz]
 refine y1 (d := 12) (x := 11) (n := 10) (y := 24) a.length (fun j e s => Pc st tk o goal (commas j ((a.map out).drop j) ++ [([41], false)]) s) hlen rfl rfl (zr p1 _) rfl (fun j e e' s k h _ => zr h k) ?_ ?_
 ·rintro j e s hj hf hx hI
  have e9 := hf 9 rfl
  have e0 := hf 0 rfl
  simp at e9 e0
  obtain ⟨y, hy⟩ : ∃ y, a[j]? = some y := ⟨_, List.getElem?_eq_getElem hj⟩
  have hr := hrow j y hy
  have hl := hle j y hy
  have hyl := Ex.cells_len y
  have hwy := h y (List.mem_of_getElem? hy)
  have hyt : y.cells.take 6 = y.cells := List.take_of_length_le (by omega)
  have hyb := Ex.bare_cells y
  generalize y.cells = yc at *
  have q0 := zj hI.wf
  have q := zf hI.wf
  have hdrop : (a.map out).drop j = out y :: (a.map out).drop (j + 1) := by
   have hj' : j < (a.map out).length := by simpa using hj
   have hy' : a[j] = y := by simpa [hj] using hy
   rw [List.drop_eq_getElem_cons hj', List.getElem_map, hy']
  rw [hdrop] at hI
  simp -dsimp -implicitDefEqProofs [e9, e0, hx, hj, hr, hl, hyl, q0, q, zz, hyt]
  cases j with
  | zero =>
   simp -dsimp -implicitDefEqProofs [e0, q0, q, zz, hyt, hyl]
   refine zq hwy (by simp [AV.bareL, AV.bare, e0, hyb]) (zr hI _) fun s1 f1 g1 p1 => ?_
   simp -dsimp -implicitDefEqProofs [f1, g1, zz]
   exact hold p1
  | succ j =>
   simp -dsimp -implicitDefEqProofs [e0, q0, q, zz, hyt, hyl]
   refine zq (yp o [[44, 32]] (by simp)) (by simp [AV.bareL, AV.bare, strs, e0]) (zr hI _) fun s1 f1 g1 p1 => ?_
   simp -dsimp -implicitDefEqProofs [e0, f1, g1, zz, hyt, hyl]
   refine zq hwy (by simp [AV.bareL, AV.bare, e0, hyb]) (zr p1 _) fun s2 f2 g2 p2 => ?_
   simp -dsimp -implicitDefEqProofs [f2, g2, zz]
   exact hold p2
 ·rintro e s hf hI
  have e0 := hf 0 rfl
  simp at e0
  have hI' : Pc st tk o goal [([41], false)] s := by simpa [commas, List.drop_of_length_le] using hI
  simp -dsimp -implicitDefEqProofs [e0]
  refine zq (yp o [[41]] (by simp)) (by simp [AV.bareL, AV.bare, strs]) (zr hI' _) fun s1 f1 g1 p1 => ?_
  simp -dsimp -implicitDefEqProofs [f1, g1, zz]
  exact xz p1
end
section
variable {w0 : World} {base : Nat}
def lit (s : Str) : Str × Bool := (s, false)
def subW (a b : Int) : Int := IntKind.i64.wrap (a - b)
def binP (op : Int) (x y : Str × Bool) : Str × Bool := if op = 22 ∨ op = 23 then cats [pickP wChoices (subW op 22), listP [x, y]] else cats [([40], false), x, ([32], false), pickP wBinaries (subW op 10), ([32], false), y, ([41], false)]
theorem wr_binary (o : Nat) (k op t : Int) (n : Str) (v : Int) (x y : Ex) (out : Ex → Str × Bool) (h : ∀ z ∈ [x, y], Wr w0 base 161 o [.agg z.cells] (out z)) :
  Wr w0 base 201 o [.agg [vi k, vi op, vi t, .str n, .int .i32 v, .sl (Ex.cellsL [x, y]) 2 .no]] (binP op (out x) (out y)) := by
 have hl := vd o [x, y] out h
 have hx := h x (by simp)
 have hy := h y (by simp)
 have e1 : (Ex.cellsL [x, y]).take 6 = x.cells := by simp [Ex.cellsL, List.take_append, List.take_of_length_le]
 have e2 : ((Ex.cellsL [x, y]).drop 6).take 6 = y.cells := by simp [Ex.cellsL, List.drop_append, List.take_of_length_le]
 have e3 : (Ex.cellsL [x, y]).length = 12 := by simp [Ex.cellsL]
 have bx := Ex.bare_cells x
 have by' := Ex.bare_cells y
 have bl := Ex.bare_cellsL [x, y]
 simp only [List.length_cons, List.length_nil, List.map_cons, List.map_nil] at hl
 generalize x.cells = xc at *
 generalize y.cells = yc at *
 generalize Ex.cellsL [x, y] = ca at *
 by_cases hop : op = 22 ∨ op = 23
 ·refine yx [pickP wChoices (subW op 22), listP [out x, out y]] (by simp only [binP, if_pos hop]) fun st tk goal hn0 hn p0 => za Tryz.func201 r201 rfl ?_
  unfold b201
  rcases hop with rfl | rfl
  all_goals
   simp -dsimp -implicitDefEqProofs [hn0, hn, zz]
   refine zt (d220 _) ?_
   simp -dsimp -implicitDefEqProofs [hn0, hn, zz]
   refine zq (uu o wChoices _) (by simp [AV.bareL, AV.bare, wz, subW, wChoices, strs]) (zr p0 _) fun s1 f1 g1 p1 => ?_
   simp -dsimp -implicitDefEqProofs [f1, g1, zz]
   refine zq hl (by simp [AV.bareL, AV.bare, bl]) (zr p1 _) fun s2 f2 g2 p2 => ?_
   simp -dsimp -implicitDefEqProofs [f2, g2, zz]
   exact xz p2
 ·refine yx [([40], false), out x, ([32], false), pickP wBinaries (subW op 10), ([32], false), out y, ([41], false)] (by simp only [binP, if_neg hop]) fun st tk goal hn0 hn p0 => za Tryz.func201 r201 rfl ?_
  unfold b201
  have hop1 : ¬ op = 22 := fun e => hop (.inl e)
  have hop2 : ¬ op = 23 := fun e => hop (.inr e)
  have hb1 : (op == 22) = false := by simpa using hop1
  have hb2 : (op == 23) = false := by simpa using hop2
  simp -dsimp -implicitDefEqProofs [hn0, hn, zz, hb1, hb2]
  refine zq (yp o [[40]] (by simp)) (by simp [AV.bareL, AV.bare, strs]) (zr p0 _) fun s1 f1 g1 p1 => ?_
  simp -dsimp -implicitDefEqProofs [f1, g1, zz, e1, e3]
  refine zq hx (by simp [AV.bareL, AV.bare, bx]) (zr p1 _) fun s2 f2 g2 p2 => ?_
  simp -dsimp -implicitDefEqProofs [f2, g2, zz]
  refine zq (yp o [[32]] (by simp)) (by simp [AV.bareL, AV.bare, strs]) (zr p2 _) fun s3 f3 g3 p3 => ?_
  simp -dsimp -implicitDefEqProofs [f3, g3, zz]
  refine zt (d221 _) ?_
  simp -dsimp -implicitDefEqProofs [f3, g3, zz]
  refine zq (uu o wBinaries _) (by simp [AV.bareL, AV.bare, wz, subW, wBinaries, strs]) (zr p3 _) fun s4 f4 g4 p4 => ?_
  simp -dsimp -implicitDefEqProofs [f4, g4, zz]
  refine zq (yp o [[32]] (by simp)) (by simp [AV.bareL, AV.bare, strs]) (zr p4 _) fun s5 f5 g5 p5 => ?_
  simp -dsimp -implicitDefEqProofs [f5, g5, zz, e2, e3]
  refine zq hy (by simp [AV.bareL, AV.bare, by']) (zr p5 _) fun s6 f6 g6 p6 => ?_
  simp -dsimp -implicitDefEqProofs [f6, g6, zz]
  refine zq (yp o [[41]] (by simp)) (by simp [AV.bareL, AV.bare, strs]) (zr p6 _) fun s7 f7 g7 p7 => ?_
  simp -dsimp -implicitDefEqProofs [f7, g7, zz]
  exact xz p7
theorem wh (o : Nat) (x : Ex) (out : Str × Bool) (h : Wr w0 base 161 o [.agg x.cells] out) : Wr w0 base 202 o [.agg x.cells] (cats [([91], false), out, ([93], false)]) := by
 refine yx _ rfl fun st tk goal hn0 hn p0 => za Tryz.func202 r202 rfl ?_
 have bx := Ex.bare_cells x
 have hl := Ex.cells_len x
 have ht : x.cells.take 6 = x.cells := List.take_of_length_le (by omega)
 generalize x.cells = xc at *
 unfold b202
 simp -dsimp -implicitDefEqProofs [hn0, hn, zz]
 refine zq (yp o [[91]] (by simp)) (by simp [AV.bareL, AV.bare, strs]) (zr p0 _) fun s1 f1 g1 p1 => ?_
 simp -dsimp -implicitDefEqProofs [f1, g1, zz, hl, ht]
 refine zq h (by simp [AV.bareL, AV.bare, bx]) (zr p1 _) fun s2 f2 g2 p2 => ?_
 simp -dsimp -implicitDefEqProofs [f2, g2, zz]
 refine zq (yp o [[93]] (by simp)) (by simp [AV.bareL, AV.bare, strs]) (zr p2 _) fun s3 f3 g3 p3 => ?_
 simp -dsimp -implicitDefEqProofs [f3, g3, zz]
 exact xz p3
end
section
variable {w0 : World} {base : Nat}
def exAV (k op t : Int) (n : Str) (v : Int) (a : List Ex) : AV := .agg [vi k, vi op, vi t, .str n, .int .i32 v, .sl (Ex.cellsL a) a.length .no]
theorem wr_put1 (o : Nat) (x : Str) : Wr w0 base 122 o [.sl (strs [x]) 1 .no] (x, false) := by
 have := yp (w0 := w0) (base := base) o [x] (by simp)
 simpa using this
theorem wr_ex1 (hT : Tabs w0 base) (o : Nat) (op t : Int) (n : Str) (v : Int) (a : List Ex) (h0 : -2147483648 ≤ v) (h1 : v ≤ 2147483647) :
  Wr w0 base 161 o [exAV 1 op t n v a] (cats [([], onlyP 1 op 0 n 0 a.length 0), ([], (textP t v).isNone), ((textP t v).getD [], false)]) := by
 refine yx _ rfl fun st tk goal hn0 hn p0 => za Tryz.func161 r161 rfl ?_
 have bl := Ex.bare_cellsL a
 unfold exAV
 generalize Ex.cellsL a = ca at *
 generalize a.length = la at *
 unfold b161
 simp -dsimp -implicitDefEqProofs [hn0, hn, zz]
 refine zq (uc o 1 op 0 n 0 ca la 0) (by simp [AV.bareL, AV.bare, bl]) (zr p0 _) fun s1 f1 g1 p1 => ?_
 simp -dsimp -implicitDefEqProofs [f1, g1, zz]
 refine zt (d197 hT _ t v h0 h1) ?_
 obtain ⟨u, w, bad, ho, hlt, hput⟩ := vw p1
 simp -dsimp -implicitDefEqProofs [f1, g1, zz, ho]
 refine Br_iff (fun hb => ?_) (fun hb => ?_)
 ·simp -dsimp -implicitDefEqProofs [ho, hb]
  refine zq (wr_put1 o ((textP t v).getD [])) (by simp [AV.bareL, AV.bare, strs]) (hput _ _ _ _ rfl (by simp [hb])) fun s2 f2 g2 p2 => ?_
  simp -dsimp -implicitDefEqProofs [f2, g2]
  exact xz p2
 ·simp -dsimp -implicitDefEqProofs [ho, hb]
  refine zq (wr_put1 o ((textP t v).getD [])) (by simp [AV.bareL, AV.bare, strs]) (hput _ _ _ _ rfl (by cases textP t v <;> simp [hb])) fun s2 f2 g2 p2 => ?_
  simp -dsimp -implicitDefEqProofs [f2, g2]
  exact xz p2
theorem wr_ex2 (o : Nat) (op t : Int) (n : Str) (v : Int) (a : List Ex) :
  Wr w0 base 161 o [exAV 2 op t n v a] (cats [([], onlyP 2 op t [] v a.length 0), (n, !isNameP n)]) := by
 refine yx _ rfl fun st tk goal hn0 hn p0 => za Tryz.func161 r161 rfl ?_
 have bl := Ex.bare_cellsL a
 unfold exAV
 generalize Ex.cellsL a = ca at *
 generalize a.length = la at *
 unfold b161
 simp -dsimp -implicitDefEqProofs [hn0, hn, zz]
 refine zq (uc o 2 op t [] v ca la 0) (by simp [AV.bareL, AV.bare, bl]) (zr p0 _) fun s1 f1 g1 p1 => ?_
 simp -dsimp -implicitDefEqProofs [f1, g1, zz]
 refine zq (uv o n) (by simp [AV.bareL, AV.bare]) (zr p1 _) fun s2 f2 g2 p2 => ?_
 simp -dsimp -implicitDefEqProofs [f2, g2]
 exact xz p2
theorem wr_ex3 (o : Nat) (op t : Int) (n : Str) (v : Int) (a : List Ex) :
  Wr w0 base 161 o [exAV 3 op t n v a] (cats [([], onlyP 3 0 t n v a.length 0), pickP wIds (subW op 1)]) := by
 refine yx _ rfl fun st tk goal hn0 hn p0 => za Tryz.func161 r161 rfl ?_
 have bl := Ex.bare_cellsL a
 unfold exAV
 generalize Ex.cellsL a = ca at *
 generalize a.length = la at *
 unfold b161
 simp -dsimp -implicitDefEqProofs [hn0, hn, zz]
 refine zq (uc o 3 0 t n v ca la 0) (by simp [AV.bareL, AV.bare, bl]) (zr p0 _) fun s1 f1 g1 p1 => ?_
 simp -dsimp -implicitDefEqProofs [f1, g1, zz]
 refine zt (d198 _) ?_
 simp -dsimp -implicitDefEqProofs [f1, g1, zz]
 refine zq (uu o wIds _) (by simp [AV.bareL, AV.bare, wz, subW, wIds, strs]) (zr p1 _) fun s2 f2 g2 p2 => ?_
 simp -dsimp -implicitDefEqProofs [f2, g2]
 exact xz p2
theorem wr_ex4 (o : Nat) (op t : Int) (n : Str) (v : Int) (a : List Ex) (out : Ex → Str × Bool) (h : ∀ x ∈ a, Wr w0 base 161 o [.agg x.cells] (out x)) :
  Wr w0 base 161 o [exAV 4 op t n v a] (cats [([], onlyP 4 0 t n v a.length 1), pickP wUnaries (subW op 1), listP (a.map out)]) := by
 refine yx _ rfl fun st tk goal hn0 hn p0 => za Tryz.func161 r161 rfl ?_
 have bl := Ex.bare_cellsL a
 have hl := vd o a out h
 clear h
 unfold exAV
 generalize Ex.cellsL a = ca at *
 unfold b161
 simp -dsimp -implicitDefEqProofs [hn0, hn, zz]
 refine zq (uc o 4 0 t n v ca a.length 1) (by simp [AV.bareL, AV.bare, bl]) (zr p0 _) fun s1 f1 g1 p1 => ?_
 simp -dsimp -implicitDefEqProofs [f1, g1, zz]
 refine zt (d199 _) ?_
 simp -dsimp -implicitDefEqProofs [f1, g1, zz]
 refine zq (uu o wUnaries _) (by simp [AV.bareL, AV.bare, wz, subW, wUnaries, strs]) (zr p1 _) fun s2 f2 g2 p2 => ?_
 simp -dsimp -implicitDefEqProofs [f2, g2]
 refine zq hl (by simp [AV.bareL, AV.bare, bl]) (zr p2 _) fun s3 f3 g3 p3 => ?_
 simp -dsimp -implicitDefEqProofs [f3, g3]
 exact xz p3
def twoP (op : Int) : List (Str × Bool) → Str × Bool
 | [x, y] => binP op x y
 | _ => ([], false)
theorem wr_ex5 (o : Nat) (op t : Int) (n : Str) (v : Int) (a : List Ex) (out : Ex → Str × Bool) (h : ∀ x ∈ a, Wr w0 base 161 o [.agg x.cells] (out x)) :
  Wr w0 base 161 o [exAV 5 op t n v a] (cats [([], onlyP 5 0 t n v a.length 2), twoP op (a.map out)]) := by
 refine yx _ rfl fun st tk goal hn0 hn p0 => za Tryz.func161 r161 rfl ?_
 have bl := Ex.bare_cellsL a
 by_cases ha : a.length = 2
 ·obtain ⟨x, y, rfl⟩ : ∃ x y, a = [x, y] := by
   match a, ha with
   | [x, y], _ => exact ⟨x, y, rfl⟩
  have hb := wr_binary o 5 op t n v x y out h
  clear h
  simp only [List.map_cons, List.map_nil, twoP, List.length_cons, List.length_nil] at *
  unfold exAV
  simp only [List.length_cons, List.length_nil]
  generalize Ex.cellsL [x, y] = ca at *
  unfold b161
  simp -dsimp -implicitDefEqProofs [hn0, hn, zz]
  refine zq (uc o 5 0 t n v ca 2 2) (by simp [AV.bareL, AV.bare, bl]) (zr p0 _) fun s1 f1 g1 p1 => ?_
  simp -dsimp -implicitDefEqProofs [f1, g1, zz]
  refine zq hb (by simp [AV.bareL, AV.bare, bl]) (zr p1 _) fun s2 f2 g2 p2 => ?_
  simp -dsimp -implicitDefEqProofs [f2, g2]
  exact xz p2
 ·have htwo : twoP op (a.map out) = ([], false) := by
   match a, ha with
   | [], _ => rfl
   | [x], _ => rfl
   | [x, y], h => exact absurd rfl h
   | x :: y :: z :: l, _ => rfl
  rw [htwo] at p0
  clear h
  have hne : ((a.length : Int) == 2) = false := by
   have : ¬ (a.length : Int) = 2 := by omega
   simpa using this
  unfold exAV
  generalize Ex.cellsL a = ca at *
  generalize a.length = la at *
  unfold b161
  simp -dsimp -implicitDefEqProofs [hn0, hn, zz]
  refine zq (uc o 5 0 t n v ca la 2) (by simp [AV.bareL, AV.bare, bl]) (zr p0 _) fun s1 f1 g1 p1 => ?_
  simp -dsimp -implicitDefEqProofs [f1, g1, zz, hne]
  exact pc_end (pc_none p1) _
end
section
variable {w0 : World} {base : Nat}
def threeP : List (Str × Bool) → Str × Bool
 | [x, y, z] => cats [([40], false), x, ([32, 63, 32], false), y, ([32, 58, 32], false), z, ([41], false)]
 | _ => ([], false)
theorem wr_ex6 (o : Nat) (op t : Int) (n : Str) (v : Int) (a : List Ex) (out : Ex → Str × Bool) (h : ∀ x ∈ a, Wr w0 base 161 o [.agg x.cells] (out x)) :
  Wr w0 base 161 o [exAV 6 op t n v a] (cats [([], onlyP 6 op t n v a.length 3), threeP (a.map out)]) := by
 refine yx _ rfl fun st tk goal hn0 hn p0 => za Tryz.func161 r161 rfl ?_
 have bl := Ex.bare_cellsL a
 by_cases ha : a.length = 3
 ·obtain ⟨x, y, z, rfl⟩ : ∃ x y z, a = [x, y, z] := by
   match a, ha with
   | [x, y, z], _ => exact ⟨x, y, z, rfl⟩
  have hx := h x (by simp)
  have hy := h y (by simp)
  have hz := h z (by simp)
  have e1 : (Ex.cellsL [x, y, z]).take 6 = x.cells := by simp [Ex.cellsL, List.take_append, List.take_of_length_le]
  have e2 : ((Ex.cellsL [x, y, z]).drop 6).take 6 = y.cells := by simp [Ex.cellsL, List.drop_append, List.take_append, List.take_of_length_le, List.drop_of_length_le]
  have e3 : ((Ex.cellsL [x, y, z]).drop 12).take 6 = z.cells := by simp [Ex.cellsL, List.drop_append, List.take_append, List.take_of_length_le, List.drop_of_length_le]
  have e4 : (Ex.cellsL [x, y, z]).length = 18 := by simp [Ex.cellsL]
  have bx := Ex.bare_cells x
  have by' := Ex.bare_cells y
  have bz := Ex.bare_cells z
  clear h
  simp only [List.map_cons, List.map_nil, threeP, List.length_cons, List.length_nil] at *
  unfold exAV
  simp only [List.length_cons, List.length_nil]
  generalize x.cells = xc at *
  generalize y.cells = yc at *
  generalize z.cells = zc at *
  generalize Ex.cellsL [x, y, z] = ca at *
  unfold b161
  simp -dsimp -implicitDefEqProofs [hn0, hn, zz]
  refine zq (uc o 6 op t n v ca 3 3) (by simp [AV.bareL, AV.bare, bl]) (pc_new p0 _ (by simp) (by simp)) fun s1 f1 g1 p1 => ?_
  have p1' := pc_split p1 rfl
  simp -dsimp -implicitDefEqProofs [f1, g1, zz]
  refine zq (yp o [[40]] (by simp)) (by simp [AV.bareL, AV.bare, strs]) (zr p1' _) fun s2 f2 g2 p2 => ?_
  simp -dsimp -implicitDefEqProofs [f2, g2, e1, e4]
  refine zq hx (by simp [AV.bareL, AV.bare, bx]) (zr p2 _) fun s3 f3 g3 p3 => ?_
  simp -dsimp -implicitDefEqProofs [f3, g3]
  refine zq (yp o [[32, 63, 32]] (by simp)) (by simp [AV.bareL, AV.bare, strs]) (zr p3 _) fun s4 f4 g4 p4 => ?_
  simp -dsimp -implicitDefEqProofs [f4, g4, e2, e4]
  refine zq hy (by simp [AV.bareL, AV.bare, by']) (zr p4 _) fun s5 f5 g5 p5 => ?_
  simp -dsimp -implicitDefEqProofs [f5, g5]
  refine zq (yp o [[32, 58, 32]] (by simp)) (by simp [AV.bareL, AV.bare, strs]) (zr p5 _) fun s6 f6 g6 p6 => ?_
  simp -dsimp -implicitDefEqProofs [f6, g6, e3, e4]
  refine zq hz (by simp [AV.bareL, AV.bare, bz]) (zr p6 _) fun s7 f7 g7 p7 => ?_
  simp -dsimp -implicitDefEqProofs [f7, g7]
  refine zq (yp o [[41]] (by simp)) (by simp [AV.bareL, AV.bare, strs]) (zr p7 _) fun s8 f8 g8 p8 => ?_
  simp -dsimp -implicitDefEqProofs [f8, g8]
  exact xz p8
 ·have hthree : threeP (a.map out) = ([], false) := by
   match a, ha with
   | [], _ => rfl
   | [x], _ => rfl
   | [x, y], _ => rfl
   | [x, y, z], h => exact absurd rfl h
   | x :: y :: z :: u :: l, _ => rfl
  rw [hthree] at p0
  clear h
  have hne : ((a.length : Int) == 3) = false := by
   have : ¬ (a.length : Int) = 3 := by omega
   simpa using this
  unfold exAV
  generalize Ex.cellsL a = ca at *
  generalize a.length = la at *
  unfold b161
  simp -dsimp -implicitDefEqProofs [hn0, hn, zz]
  refine zq (uc o 6 op t n v ca la 3) (by simp [AV.bareL, AV.bare, bl]) (pc_new p0 _ (by simp) (by simp)) fun s1 f1 g1 p1 => ?_
  simp -dsimp -implicitDefEqProofs [f1, g1, zz, hne]
  exact pc_end (pc_none p1) _
def oneP : List (Str × Bool) → Str × Bool
 | [x] => cats [([91], false), x, ([93], false)]
 | _ => ([], false)
theorem wr_ex7 (o : Nat) (op t : Int) (n : Str) (v : Int) (a : List Ex) (out : Ex → Str × Bool) (h : ∀ x ∈ a, Wr w0 base 161 o [.agg x.cells] (out x)) :
  Wr w0 base 161 o [exAV 7 op t n v a] (cats [(n, !isNameP n), ([], onlyP 7 op t [] v a.length 1), oneP (a.map out)]) := by
 refine yx _ rfl fun st tk goal hn0 hn p0 => za Tryz.func161 r161 rfl ?_
 have bl := Ex.bare_cellsL a
 by_cases ha : a.length = 1
 ·obtain ⟨x, rfl⟩ : ∃ x, a = [x] := by
   match a, ha with
   | [x], _ => exact ⟨x, rfl⟩
  have hx := wh o x (out x) (h x (by simp))
  have e1 : (Ex.cellsL [x]).take 6 = x.cells := by simp [Ex.cellsL, List.take_append, List.take_of_length_le]
  have e4 : (Ex.cellsL [x]).length = 6 := by simp [Ex.cellsL]
  have bx := Ex.bare_cells x
  clear h
  simp only [List.map_cons, List.map_nil, oneP, List.length_cons, List.length_nil] at *
  unfold exAV
  simp only [List.length_cons, List.length_nil]
  generalize x.cells = xc at *
  generalize Ex.cellsL [x] = ca at *
  unfold b161
  simp -dsimp -implicitDefEqProofs [hn0, hn, zz]
  refine zq (uv o n) (by simp [AV.bareL, AV.bare]) (zr p0 _) fun s1 f1 g1 p1 => ?_
  simp -dsimp -implicitDefEqProofs [f1, g1, zz]
  refine zq (uc o 7 op t [] v ca 1 1) (by simp [AV.bareL, AV.bare, bl]) (zr p1 _) fun s2 f2 g2 p2 => ?_
  simp -dsimp -implicitDefEqProofs [f2, g2, e1, e4]
  refine zq hx (by simp [AV.bareL, AV.bare, bx]) (zr p2 _) fun s3 f3 g3 p3 => ?_
  simp -dsimp -implicitDefEqProofs [f3, g3]
  exact xz p3
 ·have hone : oneP (a.map out) = ([], false) := by
   match a, ha with
   | [], _ => rfl
   | [x], h => exact absurd rfl h
   | x :: y :: l, _ => rfl
  rw [hone] at p0
  clear h
  have hne : ((a.length : Int) == 1) = false := by
   have : ¬ (a.length : Int) = 1 := by omega
   simpa using this
  unfold exAV
  generalize Ex.cellsL a = ca at *
  generalize a.length = la at *
  unfold b161
  simp -dsimp -implicitDefEqProofs [hn0, hn, zz]
  refine zq (uv o n) (by simp [AV.bareL, AV.bare]) (zr p0 _) fun s1 f1 g1 p1 => ?_
  simp -dsimp -implicitDefEqProofs [f1, g1, zz]
  refine zq (uc o 7 op t [] v ca la 1) (by simp [AV.bareL, AV.bare, bl]) (zr p1 _) fun s2 f2 g2 p2 => ?_
  simp -dsimp -implicitDefEqProofs [f2, g2, hne]
  exact pc_end (pc_none p2) _
theorem wr_ex8 (o : Nat) (op t : Int) (n : Str) (v : Int) (a : List Ex) (out : Ex → Str × Bool) (h : ∀ x ∈ a, Wr w0 base 161 o [.agg x.cells] (out x)) :
  Wr w0 base 161 o [exAV 8 op t n v a] (cats [([], onlyP 8 op t [] v a.length a.length), (n, !isNameP n), listP (a.map out)]) := by
 refine yx _ rfl fun st tk goal hn0 hn p0 => za Tryz.func161 r161 rfl ?_
 have bl := Ex.bare_cellsL a
 have hl := vd o a out h
 clear h
 unfold exAV
 generalize Ex.cellsL a = ca at *
 unfold b161
 simp -dsimp -implicitDefEqProofs [hn0, hn, zz]
 refine zq (uc o 8 op t [] v ca a.length a.length) (by simp [AV.bareL, AV.bare, bl]) (zr p0 _) fun s1 f1 g1 p1 => ?_
 simp -dsimp -implicitDefEqProofs [f1, g1, zz]
 refine zq (uv o n) (by simp [AV.bareL, AV.bare]) (zr p1 _) fun s2 f2 g2 p2 => ?_
 simp -dsimp -implicitDefEqProofs [f2, g2]
 refine zq hl (by simp [AV.bareL, AV.bare, bl]) (zr p2 _) fun s3 f3 g3 p3 => ?_
 simp -dsimp -implicitDefEqProofs [f3, g3]
 exact xz p3
theorem wr_ex0 (o : Nat) (k op t : Int) (n : Str) (v : Int) (a : List Ex) (hk : ∀ i : Int, 1 ≤ i → i ≤ 8 → k ≠ i) : Wr w0 base 161 o [exAV k op t n v a] ([], true) := by
 refine yx [([], true)] (by simp) fun st tk goal hn0 hn p0 => za Tryz.func161 r161 rfl ?_
 have b1 : (k == 1) = false := by simpa using hk 1 (by omega) (by omega)
 have b2 : (k == 2) = false := by simpa using hk 2 (by omega) (by omega)
 have b3 : (k == 3) = false := by simpa using hk 3 (by omega) (by omega)
 have b4 : (k == 4) = false := by simpa using hk 4 (by omega) (by omega)
 have b5 : (k == 5) = false := by simpa using hk 5 (by omega) (by omega)
 have b6 : (k == 6) = false := by simpa using hk 6 (by omega) (by omega)
 have b7 : (k == 7) = false := by simpa using hk 7 (by omega) (by omega)
 have b8 : (k == 8) = false := by simpa using hk 8 (by omega) (by omega)
 clear hk
 unfold exAV
 generalize Ex.cellsL a = ca at *
 generalize a.length = la at *
 have q0 := pc_new p0 (k := 3) (q := st.next + 2) (AObj.cells 31 [vi k, vi op, vi t, .str n, .int .i32 v, .sl ca la .no]) (by omega) (by omega)
 have q1 := pc_new p0 (k := 100) (q := st.next + 2) (AObj.cells 31 [vi k, vi op, vi t, .str n, .int .i32 v, .sl ca la .no]) (by omega) (by omega)
 obtain ⟨u, w, bad, ho, hlt, hput⟩ := vw q0
 simp only [yh, bump_objs, bump_next, put_next] at ho hlt
 unfold b161
 simp -dsimp -implicitDefEqProofs [hn0, hn, zz, b1, b2, b3, b4, b5, b6, b7, b8, ho]
 exact hold ⟨rfl, hput true [] 23 true (by simp) (by simp)⟩
def nodeP (k op t : Int) (n : Str) (v : Int) (r : List (Str × Bool)) : Str × Bool :=
 if k = 1 then cats [([], onlyP 1 op 0 n 0 r.length 0), ([], (textP t v).isNone), ((textP t v).getD [], false)]
 else if k = 2 then cats [([], onlyP 2 op t [] v r.length 0), (n, !isNameP n)]
 else if k = 3 then cats [([], onlyP 3 0 t n v r.length 0), pickP wIds (subW op 1)]
 else if k = 4 then cats [([], onlyP 4 0 t n v r.length 1), pickP wUnaries (subW op 1), listP r]
 else if k = 5 then cats [([], onlyP 5 0 t n v r.length 2), twoP op r]
 else if k = 6 then cats [([], onlyP 6 op t n v r.length 3), threeP r]
 else if k = 7 then cats [(n, !isNameP n), ([], onlyP 7 op t [] v r.length 1), oneP r]
 else if k = 8 then cats [([], onlyP 8 op t [] v r.length r.length), (n, !isNameP n), listP r]
 else ([], true)
mutual
def exprP : Ex → Str × Bool
 | .mk k op t n v a => nodeP k op t n v (exprsP a)
def exprsP : List Ex → List (Str × Bool)
 | [] => []
 | e :: l => exprP e :: exprsP l
end
theorem exprsP_map : ∀ l : List Ex, exprsP l = l.map exprP
 | [] => by simp [exprsP]
 | e :: l => by simp [exprsP, exprsP_map l]
mutual
def Ex.ok : Ex → Prop
 | .mk _ _ _ _ v a => (-2147483648 ≤ v ∧ v ≤ 2147483647) ∧ Ex.okL a
def Ex.okL : List Ex → Prop
 | [] => True
 | e :: l => e.ok ∧ Ex.okL l
end
theorem Ex.okL_iff : ∀ l : List Ex, Ex.okL l ↔ ∀ e ∈ l, e.ok
 | [] => by simp [Ex.okL]
 | e :: l => by simp [Ex.okL, Ex.okL_iff l]
theorem xq (hT : Tabs w0 base) (o : Nat) : ∀ e : Ex, e.ok → Wr w0 base 161 o [.agg e.cells] (exprP e) := by
 refine Ex.ind ?_
 intro k op t n v a ih0 hok
 simp only [Ex.ok] at hok
 have ih : ∀ x ∈ a, Wr w0 base 161 o [.agg x.cells] (exprP x) := fun x hx => ih0 x hx ((Ex.okL_iff a).1 hok.2 x hx)
 have hc : AV.agg (Ex.mk k op t n v a).cells = exAV k op t n v a := by simp only [Ex.cells, exAV]
 rw [hc]
 simp only [exprP, exprsP_map, nodeP, List.length_map]
 split
 ·rename_i e; subst e; exact wr_ex1 hT o op t n v a hok.1.1 hok.1.2
 split
 ·rename_i e; subst e; exact wr_ex2 o op t n v a
 split
 ·rename_i e; subst e; exact wr_ex3 o op t n v a
 split
 ·rename_i e; subst e; exact wr_ex4 o op t n v a exprP ih
 split
 ·rename_i e; subst e; exact wr_ex5 o op t n v a exprP ih
 split
 ·rename_i e; subst e; exact wr_ex6 o op t n v a exprP ih
 split
 ·rename_i e; subst e; exact wr_ex7 o op t n v a exprP ih
 split
 ·rename_i e; subst e; exact wr_ex8 o op t n v a exprP ih
 ·refine wr_ex0 o k op t n v a fun i h1 h2 e => ?_
  subst e
  omega
end
section
variable {w0 : World} {base : Nat}
theorem Sm.bare_cells0 (s : Sm) (h : AV.bareL (Sm.cellsL s.body) = Sm.cellsL s.body) (h' : AV.bareL (Sm.cellsL s.els) = Sm.cellsL s.els) : AV.bareL s.cells = s.cells := by
 obtain ⟨k, op, t, b, n, x, y, body, els⟩ := s
 simp only [Sm.cells, zm, AV.bareL, AV.bare, Ex.bare_cells]
 try simp only at h
 try simp only at h'
 rw [h, h']
theorem Sm.bare_cells : ∀ s : Sm, AV.bareL s.cells = s.cells := by
 have hl : ∀ l : List Sm, (∀ s ∈ l, AV.bareL s.cells = s.cells) → AV.bareL (Sm.cellsL l) = Sm.cellsL l := by
  intro l
  induction l with
  | nil => intro _; simp [Sm.cellsL, AV.bareL]
  | cons s l ih => intro h; rw [Sm.cellsL, zm, h s (by simp), ih fun s hs => h s (by simp [hs])]
 refine Sm.ind ?_
 intro k op t b n x y body els h1 h2
 exact Sm.bare_cells0 _ (hl body h1) (hl els h2)
theorem Sm.bare_cellsL (l : List Sm) : AV.bareL (Sm.cellsL l) = Sm.cellsL l := by
 induction l with
 | nil => simp [Sm.cellsL, AV.bareL]
 | cons s l ih => rw [Sm.cellsL, zm, Sm.bare_cells s, ih]
mutual
def Sm.ok : Sm → Prop
 | .mk _ _ _ b _ x y body els => (-9223372036854775808 ≤ b ∧ b ≤ 9223372036854775807) ∧ x.ok ∧ y.ok ∧ Sm.okL body ∧ Sm.okL els
def Sm.okL : List Sm → Prop
 | [] => True
 | s :: l => s.ok ∧ Sm.okL l
end
theorem Sm.okL_iff : ∀ l : List Sm, Sm.okL l ↔ ∀ s ∈ l, s.ok
 | [] => by simp [Sm.okL]
 | s :: l => by simp [Sm.okL, Sm.okL_iff l]
def indexP' (x : Str × Bool) : Str × Bool := cats [([91], false), x, ([93], false)]
def wSimple : List Str := [[98, 114, 101, 97, 107], [99, 111, 110, 116, 105, 110, 117, 101], [114, 101, 116, 117, 114, 110], [98, 97, 114, 114, 105, 101, 114]]
def wAtomOps : List Int := [10, 22, 23, 17, 18, 19]
theorem d232 (st : St) : Det Tryz.prog w0 base 232 [] st (.sl (wAtomOps.map (AV.int .i64)) 6 .full) st := by
 refine zh (zp Tryz.func232 r232) fun hwf hfit => z6 Tryz.func232 r232 rfl ?_
 unfold b232
 simp -dsimp -implicitDefEqProofs [wAtomOps]
 exact zn hwf (by simp [eraseA, eraseL])
theorem wr_ot7 (hT : Tabs w0 base) (o : Nat) (k : Int) (hk : k = 7 ∨ k = 8 ∨ k = 9 ∨ k = 10) (op t b : Int) (n : Str) (x y : Ex) (body els : List Sm) (hx : x.ok) (hy : y.ok) :
  Wr w0 base 217 o [.agg (Sm.mk k op t b n x y body els).cells] (cats [([], spareP (Sm.mk k op t b n x y body els) false false false false false false false false), pickP wSimple (subW k 7)]) := by
 have wx := xq hT o x hx
 have wy := xq hT o y hy
 have wi := wh o x _ wx
 have wl2 := vd (w0 := w0) (base := base) o [x, y] exprP (by simp [wx, wy])
 have wl1 := vd (w0 := w0) (base := base) o [x] exprP (by simp [wx])
 refine yx _ rfl fun st tk goal hn0 hn p0 => za Tryz.func217 r217 rfl ?_
 have hs1 := vn (w0 := w0) (base := base) o (Sm.mk k op t b n x y body els)
 have hs2 := wg (w0 := w0) (base := base) o (Sm.mk k op t b n x y body els)
 have hs3 := vo (w0 := w0) (base := base) o (Sm.mk k op t b n x y body els)
 have hs4 := uy (w0 := w0) (base := base) o (Sm.mk k op t b n x y body els)
 have bb := Sm.bare_cellsL body
 have be := Sm.bare_cellsL els
 obtain ⟨xk, xo, xt, xn, xv, xa⟩ := x
 obtain ⟨yk, yo, yt, yn, yv, ya⟩ := y
 have ba := Ex.bare_cellsL xa
 have bya := Ex.bare_cellsL ya
 simp only [Sm.cells, Ex.cells, Ex.cellsL, List.cons_append, List.nil_append, List.append_nil, List.map_cons, List.map_nil, List.length_cons, List.length_nil] at *
 generalize Ex.cellsL xa = ca at *
 generalize Ex.cellsL ya = cb at *
 generalize Sm.cellsL body = cc at *
 generalize Sm.cellsL els = cd at *
 unfold b217
 rcases hk with rfl | rfl | rfl | rfl
 all_goals
  simp -dsimp -implicitDefEqProofs [hn0, hn, zz]
  refine zq (hs1) (by simp [AV.bareL, AV.bare, ba, bya, bb, be]) (zr p0 _) fun s1 f1 g1 p1 => ?_
  simp -dsimp -implicitDefEqProofs [f1, g1, zz]
  refine zq (uu o wSimple _) (by simp [AV.bareL, AV.bare, wz, subW, wSimple, strs, ba, bya, bb, be]) (zr p1 _) fun s2 f2 g2 p2 => ?_
  simp -dsimp -implicitDefEqProofs [f2, g2, zz]
  exact xz p2
theorem wr_ot11 (hT : Tabs w0 base) (o : Nat) (op t b : Int) (n : Str) (x y : Ex) (body els : List Sm) (hx : x.ok) (hy : y.ok) :
  Wr w0 base 217 o [.agg (Sm.mk 11 op t b n x y body els).cells] (cats [([], spareP (Sm.mk 11 op t b n x y body els) true false false false false false false false), ([102, 101, 110, 99, 101, 32], false), pickP wScopes (subW op 1)]) := by
 have wx := xq hT o x hx
 have wy := xq hT o y hy
 have wi := wh o x _ wx
 have wl2 := vd (w0 := w0) (base := base) o [x, y] exprP (by simp [wx, wy])
 have wl1 := vd (w0 := w0) (base := base) o [x] exprP (by simp [wx])
 refine yx _ rfl fun st tk goal hn0 hn p0 => za Tryz.func217 r217 rfl ?_
 have hs1 := vn (w0 := w0) (base := base) o (Sm.mk 11 op t b n x y body els)
 have hs2 := wg (w0 := w0) (base := base) o (Sm.mk 11 op t b n x y body els)
 have hs3 := vo (w0 := w0) (base := base) o (Sm.mk 11 op t b n x y body els)
 have hs4 := uy (w0 := w0) (base := base) o (Sm.mk 11 op t b n x y body els)
 have bb := Sm.bare_cellsL body
 have be := Sm.bare_cellsL els
 obtain ⟨xk, xo, xt, xn, xv, xa⟩ := x
 obtain ⟨yk, yo, yt, yn, yv, ya⟩ := y
 have ba := Ex.bare_cellsL xa
 have bya := Ex.bare_cellsL ya
 simp only [Sm.cells, Ex.cells, Ex.cellsL, List.cons_append, List.nil_append, List.append_nil, List.map_cons, List.map_nil, List.length_cons, List.length_nil] at *
 generalize Ex.cellsL xa = ca at *
 generalize Ex.cellsL ya = cb at *
 generalize Sm.cellsL body = cc at *
 generalize Sm.cellsL els = cd at *
 unfold b217
 simp -dsimp -implicitDefEqProofs [hn0, hn, zz]
 refine zq (hs2) (by simp [AV.bareL, AV.bare, ba, bya, bb, be]) (zr p0 _) fun s1 f1 g1 p1 => ?_
 simp -dsimp -implicitDefEqProofs [f1, g1, zz]
 refine zq (yp o [[102, 101, 110, 99, 101, 32]] (by simp)) (by simp [AV.bareL, AV.bare, strs, ba, bya, bb, be]) (zr p1 _) fun s2 f2 g2 p2 => ?_
 simp -dsimp -implicitDefEqProofs [f2, g2, zz]
 refine zt (d231 _) ?_
 simp -dsimp -implicitDefEqProofs [f2, g2, zz]
 refine zq (uu o wScopes _) (by simp [AV.bareL, AV.bare, wz, subW, wScopes, strs, ba, bya, bb, be]) (zr p2 _) fun s3 f3 g3 p3 => ?_
 simp -dsimp -implicitDefEqProofs [f3, g3, zz]
 exact xz p3
theorem wr_ot4 (hT : Tabs w0 base) (o : Nat) (op t b : Int) (n : Str) (x y : Ex) (body els : List Sm) (hx : x.ok) (hy : y.ok) :
  Wr w0 base 217 o [.agg (Sm.mk 4 op t b n x y body els).cells] (cats [([], spareP (Sm.mk 4 op t b n x y body els) true false false true true true false false), ([97, 116, 111, 109, 105, 99, 32], false), (n, !isNameP n), indexP' (exprP x), ([32], false), pickP wAtomics (indexP op wAtomOps), ([32], false), exprP y]) := by
 have wx := xq hT o x hx
 have wy := xq hT o y hy
 have wi := wh o x _ wx
 have wl2 := vd (w0 := w0) (base := base) o [x, y] exprP (by simp [wx, wy])
 have wl1 := vd (w0 := w0) (base := base) o [x] exprP (by simp [wx])
 refine yx _ rfl fun st tk goal hn0 hn p0 => za Tryz.func217 r217 rfl ?_
 have hs1 := vn (w0 := w0) (base := base) o (Sm.mk 4 op t b n x y body els)
 have hs2 := wg (w0 := w0) (base := base) o (Sm.mk 4 op t b n x y body els)
 have hs3 := vo (w0 := w0) (base := base) o (Sm.mk 4 op t b n x y body els)
 have hs4 := uy (w0 := w0) (base := base) o (Sm.mk 4 op t b n x y body els)
 have bb := Sm.bare_cellsL body
 have be := Sm.bare_cellsL els
 obtain ⟨xk, xo, xt, xn, xv, xa⟩ := x
 obtain ⟨yk, yo, yt, yn, yv, ya⟩ := y
 have ba := Ex.bare_cellsL xa
 have bya := Ex.bare_cellsL ya
 simp only [Sm.cells, Ex.cells, Ex.cellsL, List.cons_append, List.nil_append, List.append_nil, List.map_cons, List.map_nil, List.length_cons, List.length_nil] at *
 generalize Ex.cellsL xa = ca at *
 generalize Ex.cellsL ya = cb at *
 generalize Sm.cellsL body = cc at *
 generalize Sm.cellsL els = cd at *
 unfold b217
 simp -dsimp -implicitDefEqProofs [hn0, hn, zz]
 refine zq (hs3) (by simp [AV.bareL, AV.bare, ba, bya, bb, be]) (zr p0 _) fun s1 f1 g1 p1 => ?_
 simp -dsimp -implicitDefEqProofs [f1, g1, zz]
 refine zq (yp o [[97, 116, 111, 109, 105, 99, 32]] (by simp)) (by simp [AV.bareL, AV.bare, strs, ba, bya, bb, be]) (zr p1 _) fun s2 f2 g2 p2 => ?_
 simp -dsimp -implicitDefEqProofs [f2, g2, zz]
 refine zq (uv o n) (by simp [AV.bareL, AV.bare, ba, bya, bb, be]) (zr p2 _) fun s3 f3 g3 p3 => ?_
 simp -dsimp -implicitDefEqProofs [f3, g3, zz]
 refine zq (wi) (by simp [AV.bareL, AV.bare, ba, bya, bb, be]) (zr p3 _) fun s4 f4 g4 p4 => ?_
 simp -dsimp -implicitDefEqProofs [f4, g4, zz]
 refine zq (yp o [[32]] (by simp)) (by simp [AV.bareL, AV.bare, strs, ba, bya, bb, be]) (zr p4 _) fun s5 f5 g5 p5 => ?_
 simp -dsimp -implicitDefEqProofs [f5, g5, zz]
 refine zt (d209 _) ?_
 simp -dsimp -implicitDefEqProofs [f5, g5, zz]
 refine zt (d232 _) ?_
 simp -dsimp -implicitDefEqProofs [f5, g5, zz]
 refine zo (d194 _ wAtomOps op) (by simp [AV.bareL, AV.bare, wAtomOps]) ?_
 simp -dsimp -implicitDefEqProofs [f5, g5, zz]
 refine zq (uu o wAtomics _) (by simp [AV.bareL, AV.bare, wz, wAtomics, strs, ba, bya, bb, be]) (zr p5 _) fun s6 f6 g6 p6 => ?_
 simp -dsimp -implicitDefEqProofs [f6, g6, zz]
 refine zq (yp o [[32]] (by simp)) (by simp [AV.bareL, AV.bare, strs, ba, bya, bb, be]) (zr p6 _) fun s7 f7 g7 p7 => ?_
 simp -dsimp -implicitDefEqProofs [f7, g7, zz]
 refine zq (wy) (by simp [AV.bareL, AV.bare, ba, bya, bb, be]) (zr p7 _) fun s8 f8 g8 p8 => ?_
 simp -dsimp -implicitDefEqProofs [f8, g8, zz]
 exact xz p8
theorem wr_ot12a (hT : Tabs w0 base) (o : Nat) (op t b : Int) (n : Str) (x y : Ex) (body els : List Sm) (hx : x.ok) (hy : y.ok) (hop : (op == 4) = true) (hop2 : (op != 4) = false) :
  Wr w0 base 217 o [.agg (Sm.mk 12 op t b n x y body els).cells] (cats [([], spareP (Sm.mk 12 op t b n x y body els) true false false true true true false false), (n, !isNameP n), ([32, 61, 32], false), pickP wCollects (subW op 1), listP [exprP x, exprP y]]) := by
 have wx := xq hT o x hx
 have wy := xq hT o y hy
 have wi := wh o x _ wx
 have wl2 := vd (w0 := w0) (base := base) o [x, y] exprP (by simp [wx, wy])
 have wl1 := vd (w0 := w0) (base := base) o [x] exprP (by simp [wx])
 refine yx _ rfl fun st tk goal hn0 hn p0 => za Tryz.func217 r217 rfl ?_
 have hs1 := vn (w0 := w0) (base := base) o (Sm.mk 12 op t b n x y body els)
 have hs2 := wg (w0 := w0) (base := base) o (Sm.mk 12 op t b n x y body els)
 have hs3 := vo (w0 := w0) (base := base) o (Sm.mk 12 op t b n x y body els)
 have hs4 := uy (w0 := w0) (base := base) o (Sm.mk 12 op t b n x y body els)
 have bb := Sm.bare_cellsL body
 have be := Sm.bare_cellsL els
 obtain ⟨xk, xo, xt, xn, xv, xa⟩ := x
 obtain ⟨yk, yo, yt, yn, yv, ya⟩ := y
 have ba := Ex.bare_cellsL xa
 have bya := Ex.bare_cellsL ya
 simp only [Sm.cells, Ex.cells, Ex.cellsL, List.cons_append, List.nil_append, List.append_nil, List.map_cons, List.map_nil, List.length_cons, List.length_nil] at *
 generalize Ex.cellsL xa = ca at *
 generalize Ex.cellsL ya = cb at *
 generalize Sm.cellsL body = cc at *
 generalize Sm.cellsL els = cd at *
 unfold b217
 simp -dsimp -implicitDefEqProofs [hn0, hn, zz, hop, hop2]
 refine zq (hs3) (by simp [AV.bareL, AV.bare, ba, bya, bb, be]) (zr p0 _) fun s1 f1 g1 p1 => ?_
 simp -dsimp -implicitDefEqProofs [f1, g1, zz, hop, hop2]
 refine zq (uv o n) (by simp [AV.bareL, AV.bare, ba, bya, bb, be]) (zr p1 _) fun s2 f2 g2 p2 => ?_
 simp -dsimp -implicitDefEqProofs [f2, g2, zz, hop, hop2]
 refine zq (yp o [[32, 61, 32]] (by simp)) (by simp [AV.bareL, AV.bare, strs, ba, bya, bb, be]) (zr p2 _) fun s3 f3 g3 p3 => ?_
 simp -dsimp -implicitDefEqProofs [f3, g3, zz, hop, hop2]
 refine zt (d208 _) ?_
 simp -dsimp -implicitDefEqProofs [f3, g3, zz, hop, hop2]
 refine zq (uu o wCollects _) (by simp [AV.bareL, AV.bare, wz, subW, wCollects, strs, ba, bya, bb, be]) (zr p3 _) fun s4 f4 g4 p4 => ?_
 simp -dsimp -implicitDefEqProofs [f4, g4, zz, hop, hop2]
 refine zq (wl2) (by simp [AV.bareL, AV.bare, ba, bya, bb, be]) (zr p4 _) fun s5 f5 g5 p5 => ?_
 simp -dsimp -implicitDefEqProofs [f5, g5, zz, hop, hop2]
 exact xz p5
theorem wr_ot12b (hT : Tabs w0 base) (o : Nat) (op t b : Int) (n : Str) (x y : Ex) (body els : List Sm) (hx : x.ok) (hy : y.ok) (hop : (op == 4) = false) (hop2 : (op != 4) = true) :
  Wr w0 base 217 o [.agg (Sm.mk 12 op t b n x y body els).cells] (cats [([], spareP (Sm.mk 12 op t b n x y body els) true false false true true false false false), (n, !isNameP n), ([32, 61, 32], false), pickP wCollects (subW op 1), listP [exprP x]]) := by
 have wx := xq hT o x hx
 have wy := xq hT o y hy
 have wi := wh o x _ wx
 have wl2 := vd (w0 := w0) (base := base) o [x, y] exprP (by simp [wx, wy])
 have wl1 := vd (w0 := w0) (base := base) o [x] exprP (by simp [wx])
 refine yx _ rfl fun st tk goal hn0 hn p0 => za Tryz.func217 r217 rfl ?_
 have hs1 := vn (w0 := w0) (base := base) o (Sm.mk 12 op t b n x y body els)
 have hs2 := wg (w0 := w0) (base := base) o (Sm.mk 12 op t b n x y body els)
 have hs3 := vo (w0 := w0) (base := base) o (Sm.mk 12 op t b n x y body els)
 have hs4 := uy (w0 := w0) (base := base) o (Sm.mk 12 op t b n x y body els)
 have bb := Sm.bare_cellsL body
 have be := Sm.bare_cellsL els
 obtain ⟨xk, xo, xt, xn, xv, xa⟩ := x
 obtain ⟨yk, yo, yt, yn, yv, ya⟩ := y
 have ba := Ex.bare_cellsL xa
 have bya := Ex.bare_cellsL ya
 simp only [Sm.cells, Ex.cells, Ex.cellsL, List.cons_append, List.nil_append, List.append_nil, List.map_cons, List.map_nil, List.length_cons, List.length_nil] at *
 generalize Ex.cellsL xa = ca at *
 generalize Ex.cellsL ya = cb at *
 generalize Sm.cellsL body = cc at *
 generalize Sm.cellsL els = cd at *
 unfold b217
 simp -dsimp -implicitDefEqProofs [hn0, hn, zz, hop, hop2]
 refine zq (hs4) (by simp [AV.bareL, AV.bare, ba, bya, bb, be]) (zr p0 _) fun s1 f1 g1 p1 => ?_
 simp -dsimp -implicitDefEqProofs [f1, g1, zz, hop, hop2]
 refine zq (uv o n) (by simp [AV.bareL, AV.bare, ba, bya, bb, be]) (zr p1 _) fun s2 f2 g2 p2 => ?_
 simp -dsimp -implicitDefEqProofs [f2, g2, zz, hop, hop2]
 refine zq (yp o [[32, 61, 32]] (by simp)) (by simp [AV.bareL, AV.bare, strs, ba, bya, bb, be]) (zr p2 _) fun s3 f3 g3 p3 => ?_
 simp -dsimp -implicitDefEqProofs [f3, g3, zz, hop, hop2]
 refine zt (d208 _) ?_
 simp -dsimp -implicitDefEqProofs [f3, g3, zz, hop, hop2]
 refine zq (uu o wCollects _) (by simp [AV.bareL, AV.bare, wz, subW, wCollects, strs, ba, bya, bb, be]) (zr p3 _) fun s4 f4 g4 p4 => ?_
 simp -dsimp -implicitDefEqProofs [f4, g4, zz, hop, hop2]
 refine zq (wl1) (by simp [AV.bareL, AV.bare, ba, bya, bb, be]) (zr p4 _) fun s5 f5 g5 p5 => ?_
 simp -dsimp -implicitDefEqProofs [f5, g5, zz, hop, hop2]
 exact xz p5
end
section
variable {w0 : World} {base : Nat}
theorem wr_ot0 (o : Nat) (s : Sm) (hk : ∀ i : Int, (i = 4 ∨ (7 ≤ i ∧ i ≤ 12)) → s.kind ≠ i) : Wr w0 base 217 o [.agg s.cells] ([], true) := by
 refine yx [([], true)] (by simp) fun st tk goal hn0 hn p0 => za Tryz.func217 r217 rfl ?_
 obtain ⟨u, w, bad, ho, hlt, hput⟩ := vw p0
 obtain ⟨k, op, t, b, n, x, y, body, els⟩ := s
 have b4 : (k == 4) = false := by simpa using hk 4 (by omega)
 have b7 : (k == 7) = false := by simpa using hk 7 (by omega)
 have b8 : (k == 8) = false := by simpa using hk 8 (by omega)
 have b9 : (k == 9) = false := by simpa using hk 9 (by omega)
 have b10 : (k == 10) = false := by simpa using hk 10 (by omega)
 have b11 : (k == 11) = false := by simpa using hk 11 (by omega)
 have b12 : (k == 12) = false := by simpa using hk 12 (by omega)
 clear hk
 obtain ⟨xk, xo, xt, xn, xv, xa⟩ := x
 obtain ⟨yk, yo, yt, yn, yv, ya⟩ := y
 simp only [Sm.cells, Ex.cells, List.cons_append, List.nil_append]
 generalize Ex.cellsL xa = ca at *
 generalize Ex.cellsL ya = cb at *
 generalize Sm.cellsL body = cc at *
 generalize Sm.cellsL els = cd at *
 unfold b217
 simp -dsimp -implicitDefEqProofs [hn0, hn, zz, b4, b7, b8, b9, b10, b11, b12, ho]
 exact hold ⟨rfl, hput true [] _ true (by simp) (by simp)⟩
def otherP (s : Sm) : Str × Bool :=
 if s.kind = 7 ∨ s.kind = 8 ∨ s.kind = 9 ∨ s.kind = 10 then cats [([], spareP s false false false false false false false false), pickP wSimple (subW s.kind 7)]
 else if s.kind = 11 then cats [([], spareP s true false false false false false false false), ([102, 101, 110, 99, 101, 32], false), pickP wScopes (subW s.op 1)]
 else if s.kind = 4 then cats [([], spareP s true false false true true true false false), ([97, 116, 111, 109, 105, 99, 32], false), (s.name, !isNameP s.name), indexP' (exprP s.x), ([32], false), pickP wAtomics (indexP s.op wAtomOps), ([32], false), exprP s.y]
 else if s.kind = 12 then (if s.op = 4 then cats [([], spareP s true false false true true true false false), (s.name, !isNameP s.name), ([32, 61, 32], false), pickP wCollects (subW s.op 1), listP [exprP s.x, exprP s.y]]
  else cats [([], spareP s true false false true true false false false), (s.name, !isNameP s.name), ([32, 61, 32], false), pickP wCollects (subW s.op 1), listP [exprP s.x]])
 else ([], true)
theorem wr_other (hT : Tabs w0 base) (o : Nat) (s : Sm) (hx : s.x.ok) (hy : s.y.ok) : Wr w0 base 217 o [.agg s.cells] (otherP s) := by
 unfold otherP
 split
 ·obtain ⟨k, op, t, b, n, x, y, body, els⟩ := s
  exact wr_ot7 hT o k (by assumption) op t b n x y body els hx hy
 split
 ·obtain ⟨k, op, t, b, n, x, y, body, els⟩ := s
  rename_i e; obtain rfl : k = 11 := e
  exact wr_ot11 hT o op t b n x y body els hx hy
 split
 ·obtain ⟨k, op, t, b, n, x, y, body, els⟩ := s
  rename_i e; obtain rfl : k = 4 := e
  exact wr_ot4 hT o op t b n x y body els hx hy
 split
 ·obtain ⟨k, op, t, b, n, x, y, body, els⟩ := s
  rename_i e; obtain rfl : k = 12 := e
  split
  ·rename_i e; obtain rfl : op = 4 := e
   exact wr_ot12a hT o 4 t b n x y body els hx hy (by simp) (by simp)
  ·rename_i e
   exact wr_ot12b hT o op t b n x y body els hx hy (by simpa using e) (by simpa using e)
 ·refine wr_ot0 o s fun i hi e => ?_
  omega
def linesP (ind : Str) : List (Str × Bool) → List (Str × Bool)
 | [] => []
 | x :: l => (ind, false) :: x :: ([10], false) :: linesP ind l
theorem linesP_len (ind : Str) : ∀ l, l.length ≤ (cats (linesP ind l)).1.length
 | [] => by simp [linesP]
 | x :: l => by
  have := linesP_len ind l
  simp [linesP, cat]; omega
theorem wr_stmts (o : Nat) (l : List Sm) (ind : Str) (out : Sm → Str × Bool) (h : ∀ x ∈ l, Wr w0 base 195 o [.agg x.cells, .str ind] (out x)) : Wr w0 base 160 o [.sl (Sm.cellsL l) l.length .no, .str ind] (cats (linesP ind (l.map out))) := by
 refine yx _ rfl fun st tk goal hn0 hn p0 => za Tryz.func160 r160 rfl ?_
 have hlen : l.length ≤ 140737488355328 := by
  have h1 := pc_len p0
  have h2 := linesP_len ind (l.map out)
  simp only [List.length_map] at h2
  omega
 have hrow := fun j x => @yg _ Sm.cells 19 Sm.cells_len l j x
 have hle := fun j x => @ye _ Sm.cells 19 Sm.cells_len l j x
 rw [Sm.cellsL_row] at *
 generalize rowOf Sm.cells l = ca at *
 unfold b160
 simp -dsimp -implicitDefEqProofs [hn0, hn, zz]
 refine y1 (d := 11) (x := 10) (n := 9) (y := 25) l.length (fun j e s => Pc st tk o goal (linesP ind ((l.map out).drop j)) s) hlen rfl rfl (zr p0 _) rfl (fun j e e' s k h _ => zr h k) ?_ ?_
 ·rintro j e s hj hf hx hI
  have e8 := hf 8 rfl
  have e0 := hf 0 rfl
  have e2 := hf 2 rfl
  simp at e8 e0 e2
  obtain ⟨y, hy⟩ : ∃ y, l[j]? = some y := ⟨_, List.getElem?_eq_getElem hj⟩
  have hr := hrow j y hy
  have hl := hle j y hy
  have hyl := Sm.cells_len y
  have hwy := h y (List.mem_of_getElem? hy)
  have hyt : y.cells.take 19 = y.cells := List.take_of_length_le (by omega)
  have hyb := Sm.bare_cells y
  generalize y.cells = yc at *
  have q0 := zj hI.wf
  have q := zf hI.wf
  have hdrop : (l.map out).drop j = out y :: (l.map out).drop (j + 1) := by
   have hj' : j < (l.map out).length := by simpa using hj
   have hy' : l[j] = y := by simpa [hj] using hy
   rw [List.drop_eq_getElem_cons hj', List.getElem_map, hy']
  rw [hdrop] at hI
  simp -dsimp -implicitDefEqProofs [e8, e0, e2, hx, hj, hr, hl, hyl, q0, q, zz, hyt]
  refine zq (wr_put1 o ind) (by simp [AV.bareL, AV.bare, strs, e0]) (zr hI _) fun s1 f1 g1 p1 => ?_
  simp -dsimp -implicitDefEqProofs [e0, e2, f1, g1, zz, hyt, hyl]
  refine zq hwy (by simp [AV.bareL, AV.bare, e0, hyb]) (zr p1 _) fun s2 f2 g2 p2 => ?_
  simp -dsimp -implicitDefEqProofs [e0, f2, g2, zz]
  refine zq (yp o [[10]] (by simp)) (by simp [AV.bareL, AV.bare, strs, e0]) (zr p2 _) fun s3 f3 g3 p3 => ?_
  simp -dsimp -implicitDefEqProofs [f3, g3, zz]
  exact hold p3
 ·rintro e s hf hI
  have hI' : Pc st tk o goal [] s := by simpa [linesP, List.drop_of_length_le] using hI
  simp -dsimp -implicitDefEqProofs
  exact xz hI'
def blockP (ind : Str) (x : Str × Bool) : Str × Bool := cats [([123, 10], false), x, (ind ++ [125], false)]
theorem wr_block (o : Nat) (l : List Sm) (ind : Str) (out : Sm → Str × Bool) (h : ∀ x ∈ l, Wr w0 base 195 o [.agg x.cells, .str (ind ++ [32, 32])] (out x)) :
  Wr w0 base 130 o [.sl (Sm.cellsL l) l.length .no, .str ind] (blockP ind (cats (linesP (ind ++ [32, 32]) (l.map out)))) := by
 have hs := wr_stmts o l (ind ++ [32, 32]) out h
 refine yx _ rfl fun st tk goal hn0 hn p0 => za Tryz.func130 r130 rfl ?_
 have hlen : ind.length + 2 ≤ 9223372036854775807 := by
  have := pc_len p0
  simp [cat] at this
  omega
 have bl := Sm.bare_cellsL l
 clear h
 generalize Sm.cellsL l = ca at *
 have hput : Wr w0 base 122 o [.sl (strs [ind, [125]]) 2 .no] (ind ++ [125], false) := by
  have := yp (w0 := w0) (base := base) o [ind, [125]] (by simp)
  simpa using this
 unfold b130
 simp -dsimp -implicitDefEqProofs [hn0, hn, zz, hlen]
 refine zq (yp o [[123, 10]] (by simp)) (by simp [AV.bareL, AV.bare, strs, bl]) (zr p0 _) fun s1 f1 g1 p1 => ?_
 simp -dsimp -implicitDefEqProofs [f1, g1, zz, hlen]
 refine zq (hs) (by simp [AV.bareL, AV.bare, bl]) (zr p1 _) fun s2 f2 g2 p2 => ?_
 simp -dsimp -implicitDefEqProofs [f2, g2, zz, hlen]
 refine zq (hput) (by simp [AV.bareL, AV.bare, strs, bl]) (zr p2 _) fun s3 f3 g3 p3 => ?_
 simp -dsimp -implicitDefEqProofs [f3, g3, zz, hlen]
 exact xz p3
end
end Go.Proofs.YthaekebedmoipaaGreatDoor.AM
