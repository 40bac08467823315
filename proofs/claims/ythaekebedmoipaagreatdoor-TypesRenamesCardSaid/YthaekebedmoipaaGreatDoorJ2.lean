/- Part 2 of the proof: A13 A14 A15 A16 A17 A18 A19 A20 A21 A22. -/
import Derived.Test.YthaekebedmoipaaGreatDoorJ1
set_option linter.unusedVariables false
set_option linter.unusedSimpArgs false
set_option linter.unusedSectionVars false
set_option maxRecDepth 100000
namespace Go.Proofs.YthaekebedmoipaaGreatDoor.AM
open Go Go.RowKit
section
section
variable {P : Program} {w0 : World} {base : Nat} {G : Gh} {st st' : St} {w : World} {env : Env} {a : Act}
theorem repL_set {c : AV} {u : Value} (hc : Rep G w c u) : ∀ {cs : List AV} {vs : List Value} (i : Nat), RepL G w cs vs → RepL G w (cs.set i c) (vs.set i u)
 | [], _, i, h => by cases h; rfl
 | x :: cs, _, 0, ⟨v, vs, e, h1, h2⟩ => by subst e; exact ⟨u, vs, rfl, hc, h2⟩
 | x :: cs, _, i + 1, ⟨v, vs, e, h1, h2⟩ => by subst e; exact ⟨v, _, rfl, h1, repL_set hc i h2⟩
theorem sameBits_of_now {d : TypeDesc} {u v : Value} (h : Instr.sameNow d u v = some true) (n : Nat) : Instr.sameBits n v u = true := by
 unfold Instr.sameNow at h
 split at h
 ·split at h
  ·rename_i e; subst e
   have := Option.some.inj h
   simp only [beq_iff_eq] at this
   subst this
   cases n <;> simp [Instr.sameBits]
  ·cases h
 ·rename_i x y
  have h1 := Option.some.inj h
  rw [beq_toListBytes] at h1
  have h2 : (y == x) = true := by
   rw [beq_toListBytes, beq_iff_eq.1 h1]
   exact beq_self_eq_true _
  cases n <;> simpa [Instr.sameBits] using h2
 ·have := Option.some.inj h
  simp only [beq_iff_eq] at this
  subst this
  cases n <;> simp [Instr.sameBits]
 ·cases h
theorem wrote_setObj {w : World} {b : Nat} {o old : Obj} (h : w.heap[b]? = some old) : Wrote w { w with heap := w.heap.setIfInBounds b o } b o := by
 have hlt : b < w.heap.size := (Array.getElem?_eq_some_iff.1 h).1
 refine ⟨rfl, rfl, rfl, by simp, by simp [hlt], fun k hk => ?_⟩
 simp [Array.getElem?_setIfInBounds, Ne.symm hk]
theorem run_setMap {b : Nat} {ms : Array MapEntry} {clock : Nat} (h : w.heap[b]? = some (.map ms clock)) (o : Obj) : (setObj b o).run P w = .ok () { w with heap := w.heap.setIfInBounds b o } := by
 simp [setObj, Sem.run, h]
theorem modify_key (ms : List MapEntry) (i : Nat) (k v : Value) : (ms.modify i fun e => { e with key := k, val := v }).map (·.key) = (ms.map (·.key)).set i k := by
 induction ms generalizing i with
 | nil => cases i <;> rfl
 | cons m ms ih =>
  cases i with
  | zero => rfl
  | succ i => simp [List.modify_succ_cons, ih]
theorem modify_val (ms : List MapEntry) (i : Nat) (k v : Value) : (ms.modify i fun e => { e with key := k, val := v }).map (·.val) = (ms.map (·.val)).set i v := by
 induction ms generalizing i with
 | nil => cases i <;> rfl
 | cons m ms ih =>
  cases i with
  | zero => rfl
  | succ i => simp [List.modify_succ_cons, ih]
theorem mapUpd_sound (hI : Inv w0 base G st w) {t kt et : TypeId} {d : TypeDesc} {kk : BK} (ht : P.underlying t = some (.map kt et)) (hkt : P.underlying kt = some d) (hd : kk.desc d) {m key v : AV} {mv kv vv : Value} (hm : Rep G w m mv) (hk : Rep G w key kv) (hv : Rep G w v vv)
  {o : Nat} {es es' : List (AV × AV)} (hmo : m = .map o) (ho : st.objs o = some (.map es))
  (h : (∃ i x, findA kk key es 0 = some (some (i, x)) ∧ es' = es.set i (key, v)) ∨ (findA kk key es 0 = some none ∧ es' = es ++ [(key, v)])) :
  ∃ w', (Instr.mapUpdate t mv kv vv).run P w = .ok () w' ∧ Ext base G w G w' ∧ Inv w0 base G (st.put o (.map es')) w' := by
 subst hmo
 obtain ⟨hu, ad, rfl, hb⟩ := hm
 obtain ⟨hu', b, ms, clock, g1, g2, g3, g4, g5, g6⟩ := hI.objs o _ ho
 have := hb b g1
 subst this
 have hget := run_getObj (P := P) g5
 have hck := run_checkKey (P := P) hkt hd kv false 9999 w
 rcases h with ⟨i, x, hf, rfl⟩ | ⟨hf, rfl⟩
 ·rcases findA_sound hd hk es ms.toList 0 _ g6 hf with ⟨h1, _⟩ | ⟨j, v', e, h1, h2, h3, h4, h5, h6⟩
  ·cases h1
  ·simp only [Option.some.injEq, Prod.mk.injEq] at h1
   obtain ⟨rfl, rfl⟩ := h1
   rw [Nat.zero_add] at *
   have hfk := run_findKey (P := P) hkt h4 w
   have hW := wrote_setObj (o := .map (ms.modify j fun e => { e with key := kv, val := vv }) clock) g5
   obtain ⟨he, hinv⟩ := inv_write hI hu' g1 g2 g3 g4 hW
   refine ⟨_, ?_, he, hinv _ ⟨ad, _, _, g1, g2, g3, g4, hW.at_, ?_⟩⟩
   ·simp only [Instr.mapUpdate, Sem.run_bind, run_underlying ht, Result.andThen_ok, Sem.run_pure, hget]
    rw [hck]
    have hkey : (ms[j]?.map (·.key)).getD kv = e.key := by
     have : ms[j]? = some e := by simpa using h3
     rw [this]; rfl
    simp only [Result.andThen_ok, hfk, Sem.run_bind, hkey, Instr.keyThatStays, sameBits_of_now h6, if_true, Sem.run_pure, run_setMap g5]
   ·obtain ⟨q1, q2⟩ := g6
    refine ⟨?_, ?_⟩
    ·rw [Array.toList_modify, modify_key, List.map_set]
     exact repL_set (v8 he _ _ hk) j (xf he _ _ q1)
    ·rw [Array.toList_modify, modify_val, List.map_set]
     exact repL_set (v8 he _ _ hv) j (xf he _ _ q2)
 ·rcases findA_sound hd hk es ms.toList 0 _ g6 hf with ⟨_, h4⟩ | ⟨j, v', e, h1, _⟩
  ·have hfk := run_findKey (P := P) hkt h4 w
   have hW := wrote_setObj (o := .map (ms.push { key := kv, val := vv, born := clock }) (clock + 1)) g5
   obtain ⟨he, hinv⟩ := inv_write hI hu' g1 g2 g3 g4 hW
   refine ⟨_, ?_, he, hinv _ ⟨ad, _, _, g1, g2, g3, g4, hW.at_, ?_⟩⟩
   ·simp only [Instr.mapUpdate, Sem.run_bind, run_underlying ht, Result.andThen_ok, Sem.run_pure, hget]
    rw [hck]
    simp only [Result.andThen_ok, hfk, run_setMap g5]
   ·obtain ⟨q1, q2⟩ := g6
    refine ⟨?_, ?_⟩
    ·simp only [List.map_append, List.map_cons, List.map_nil, Array.toList_push]
     exact uj (xf he _ _ q1) ⟨_, _, rfl, v8 he _ _ hk, rfl⟩
    ·simp only [List.map_append, List.map_cons, List.map_nil, Array.toList_push]
     exact uj (xf he _ _ q2) ⟨_, _, rfl, v8 he _ _ hv, rfl⟩
  ·cases h1
theorem mkMap_sound (hI : Inv w0 base G st w) {k : Nat} {t : TypeId} {r : Option Value} (hr : ∀ v, r = some v → (∃ kd n, v = .int kd n) ∧ ∃ a b, P.underlying t = some (.map a b)) (hk : ¬ G.used k) (hkn : k < st.next) :
  ∃ v w' G', (Instr.makeMap t r).run P w = .ok v w' ∧ Ext base G w G' w' ∧ (∀ o, G'.used o ↔ (o = k ∨ G.used o)) ∧ Inv w0 base G' (st.put k (.map [])) w' ∧ Rep G' w' (.map k) v := by
 have hbel : Below w.heap.size w (w.alloc (.map #[] 0)) := (Below.refl _ w).alloc (Nat.le_refl _) _
 have hh := heap_alloc_new w (.map #[] 0)
 have hlim := (hI.fresh w.heap.size (Nat.le_refl _)).1
 have he := ext_addObj hI hbel (k := k) (b := w.heap.size) (c := 0) hk
 have hinv := inv_addObj hI hbel (k := k) (b := w.heap.size) (c := 0) hk hkn (Nat.le_refl _) (by simp) (.map [])
  ⟨w.heap.size, #[], 0, zd _ _ _, zd _ _ _, hI.size, hlim, hh, rfl, rfl⟩
 have hrun : (Instr.makeMap t r).run P w = .ok (.map (some w.heap.size)) (w.alloc (.map #[] 0)) := by
  cases r with
  | none => simp [Instr.makeMap]
  | some v =>
   obtain ⟨⟨kd, n, rfl⟩, x, y, hu⟩ := hr v rfl
   simp [Instr.makeMap, run_underlying hu, asInt, asIntOf]
 refine ⟨_, _, _, hrun, he, fun o => Iff.rfl, hinv, .inl rfl, _, rfl, fun b hb => ?_⟩
 exact Option.some.inj ((zd G.blk k (some w.heap.size)).symm.trans hb)
end
end
section
structure SOper where
 dst : Option Nat
 guard : Option (Nat × Bool)
 op : SOp
def SOper.plain (s : SOper) : SOper := ⟨s.dst, s.guard, s.op.plain⟩
def SOp.new : SOp → Option Nat
 | .alloc _ _ k | .box _ _ k | .append _ _ _ _ _ _ k | .appendR _ _ _ _ _ k | .mkMap k => some k
 | _ => none
def keyKind (P : Program) (t : TypeId) : Option BK := match P.underlying t with
 | some (.int _) => some .int
 | some .string => some .str
 | some .bool => some .bool
 | _ => none
def isIntConst : Option Operand → Bool
 | none => true
 | some (.const (.int _ _)) => true
 | _ => false
def elemOk (P : Program) (e size bytes : Nat) : Bool := match P.info? e with
 | some i => (match i.zero with | some z => z.cells.size == size | none => false) && i.size == size && i.bytes == bytes && decide (0 < size)
 | none => false
def bytesT (P : Program) (t : TypeId) : Nat := ((P.info? t).map (·.bytes)).getD 0
def resCall (P : Program) (k : Nat) (c : Call) : Option SOp :=
 match c.callee with
 | .value (.func f) => (resOs c.args.toList).map (.call f)
 | .value x => match resO x, resOs c.args.toList with
  | some x, some l => some (.callV x l)
  | _, _ => none
 | .builtin .append => match c.args.toList, c.argTypes.toList with
  | [s, x], [t, tx] => match resO s, resO x, P.underlying t, P.underlying tx with
   | some s, some x, some (.slice e), some (.slice _) => match sizeT P e with
    | some n => if elemOk P e n (bytesT P e) then some (.append false e n (bytesT P e) s x k) else none
    | none => none
   | some s, some x, some (.slice e), some .string => match sizeT P e with
    | some n => if elemOk P e n (bytesT P e) then some (.append true e n (bytesT P e) s x k) else none
    | none => none
   | _, _, _, _ => none
  | _, _ => none
 | _ => none
def resMap (P : Program) (t : TypeId) : Option (BK × TypeId) := match P.underlying t with
 | some (.map kt et) => (keyKind P kt).map fun kk => (kk, et)
 | _ => none
def resOp (P : Program) (k : Nat) (op : Op) : Option SOp :=
 match resPE P op with
 | some e => some (.pe e)
 | none => match op with
  | .load t x => match resO x, sizeT P t with
   | some x, some n => if (P.underlying t).isSome then some (.load n (aggT P t) x) else none
   | _, _ => none
  | .store t x v => match resO x, resO v, sizeT P t with
   | some x, some v, some n => some (.store n x v)
   | _, _, _ => none
  | .alloc t => match zeroT P t with
   | some z => if z.solid then some (.alloc t z k) else none
   | none => none
  | .box T x => (resO x).map fun x => .box T x k
  | .lookup t m key ok => match resMap P t, resO m, resO key with
   | some (kk, et), some m, some key => (zeroT P et).map fun z => .lookup kk z ok m key
   | _, _, _ => none
  | .mapUpdate t m key v | .insert t m key v => match resMap P t, resO m, resO key, resO v with
   | some (kk, _), some m, some key, some v => some (.mapUpd kk m key v)
   | _, _, _, _ => none
  | .makeMap t r => if isIntConst r ∧ (resMap P t).isSome then some (.mkMap k) else none
  | .call c => resCall P k c
  | .defer c => match c.callee with
   | .value x => match resO x, resOs c.args.toList with
    | some x, some l => some (.defer x l)
    | _, _ => none
   | _ => none
  | _ => none
section
variable {P : Program} {w0 : World} {base : Nat} {G : Gh} {st st' : St} {w : World} {env : Env} {a : Act}
theorem keyKind_desc {t : TypeId} {kk : BK} (h : keyKind P t = some kk) : ∃ d, P.underlying t = some d ∧ kk.desc d := by
 unfold keyKind at h
 split at h <;> first
  | (cases h; exact ⟨_, ‹_›, _, rfl⟩)
  | (cases h; exact ⟨_, ‹_›, rfl⟩)
  | cases h
theorem resMap_spec {t : TypeId} {kk : BK} {et : TypeId} (h : resMap P t = some (kk, et)) : ∃ kt d, P.underlying t = some (.map kt et) ∧ P.underlying kt = some d ∧ kk.desc d := by
 unfold resMap at h
 split at h
 ·rename_i kt et' hu
  obtain ⟨kk', hk, e⟩ := Option.map_eq_some_iff.1 h
  cases e
  obtain ⟨d, hd, hdd⟩ := keyKind_desc hk
  exact ⟨kt, d, hu, hd, hdd⟩
 ·cases h
theorem elemOk_spec {t e size bytes : Nat} (hu : P.underlying t = some (.slice e)) (h : elemOk P e size bytes = true) : Elem P t e size bytes := by
 unfold elemOk at h
 split at h
 ·rename_i i hi
  simp only [Bool.and_eq_true, beq_iff_eq, decide_eq_true_eq] at h
  obtain ⟨⟨⟨h1, h2⟩, h3⟩, h4⟩ := h
  split at h1
  ·rename_i z hz
   exact ⟨hu, ⟨i, z, hi, hz, h2, h3, by simpa using h1⟩, h4⟩
  ·cases h1
 ·cases h
def WorthN (P : Program) (w0 : World) (base : Nat) (G : Gh) (st' : St) (w : World) (s : Sem Next) (av : AV) (new : Nat → Prop) : Prop :=
 ∃ v w' G', (s.run P w = .ok (.value v) w' ∨ (s.run P w = .ok .skip w' ∧ v = undef)) ∧ Ext base G w G' w' ∧ (∀ o, G'.used o → new o ∨ G.used o) ∧ Inv w0 base G' st' w' ∧ Rep G' w' av v
theorem worthN_v {s : Sem Value} {av : AV} {new : Nat → Prop} {v : Value} {w' : World} {G' : Gh} (h : s.run P w = .ok v w') (he : Ext base G w G' w') (hn : ∀ o, G'.used o → new o ∨ G.used o) (hI : Inv w0 base G' st' w') (hr : Rep G' w' av v) :
  WorthN P w0 base G st' w (do pure (.value (← s))) av new :=
 ⟨v, w', G', .inl (by simp only [Sem.run_bind, h, Result.andThen_ok, Sem.run_pure]), he, hn, hI, hr⟩
theorem worthN_u {s : Sem Unit} {new : Nat → Prop} {w' : World} {G' : Gh} (h : s.run P w = .ok () w') (he : Ext base G w G' w') (hn : ∀ o, G'.used o → new o ∨ G.used o) (hI : Inv w0 base G' st' w') :
  WorthN P w0 base G st' w (do s; pure .skip) .undef new :=
 ⟨undef, w', G', .inr ⟨by simp only [Sem.run_bind, h, Result.andThen_ok, Sem.run_pure], rfl⟩, he, hn, hI, trivial⟩
theorem resCall_append {k : Nat} {c : Call} {e n b k' : Nat} {s x : Opd} (h : resCall P k c = some (.append false e n b s x k')) :
  k' = k ∧ ∃ sx xx t tx e', c.callee = .builtin .append ∧ c.args.toList = [sx, xx] ∧ c.argTypes.toList = [t, tx] ∧ resO sx = some s ∧ resO xx = some x ∧ P.underlying t = some (.slice e) ∧ P.underlying tx = some (.slice e') ∧ elemOk P e n b = true := by
 unfold resCall at h
 split at h
 ·obtain ⟨l, hl, e⟩ := Option.map_eq_some_iff.1 h; cases e
 ·split at h
  ·cases h
  ·cases h
 ·rename_i hc
  split at h
  ·rename_i sx xx t tx ha ht
   split at h
   ·rename_i s' x' e0 e' hs hx hu hux
    split at h
    ·rename_i n0 hn
     split at h
     ·rename_i hel
      cases h
      exact ⟨rfl, sx, xx, t, tx, e', hc, ha, ht, hs, hx, hu, hux, hel⟩
     ·cases h
    ·cases h
   ·split at h
    ·split at h
     ·cases h
     ·cases h
    ·cases h
   ·cases h
  ·cases h
 ·cases h
theorem resOp_append {k : Nat} {op : Op} {e n b k' : Nat} {s x : Opd} (h : resOp P k op = some (.append false e n b s x k')) : ∃ c, op = .call c ∧ resCall P k c = some (.append false e n b s x k') := by
  unfold resOp at h
  split at h
  · cases h
  · split at h
    all_goals first
      | (rename_i c hpe; exact ⟨c, rfl, h⟩)
      | (exfalso
         revert h
         repeat' split
         all_goals first
           | (intro h; cases h; done)
           | (intro h; obtain ⟨_, _, e⟩ := Option.map_eq_some_iff.1 h; cases e))
theorem step_soundR (hI : Inv w0 base G st w) (hR : RepEnv G w env a) {o : Oper} {k r : Nat} {e n b k0 : Nat} {s x : Opd} {av : AV} (hr : resOp P k o.op = some (.append false e n b s x k0)) (he : (SOp.appendR e n b s x k0).step r env st = some (av, st'))
  (hnew : ¬ G.used (r + k0) ∧ r + k0 < st.next) : WorthN P w0 base G st' w (execOp a.eval o) av (fun y => y = r + k0) := by
 obtain ⟨dst, op, ty, pos, after, guard⟩ := o
 simp only at hr
 obtain ⟨c, rfl, hc⟩ := resOp_append hr
 obtain ⟨rfl, sx, xx, t, tx, e', hcl, hal, htl, hs, hx, hu, hux, hel⟩ := resCall_append hc
 obtain ⟨callee, args, tys⟩ := c
 have hargs : args = args.toList.toArray := by simp
 have htys : tys = tys.toList.toArray := by simp
 simp only at hcl hal htl
 rw [hal] at hargs
 rw [htl] at htys
 subst hcl; subst hargs; subst htys
 have h1 := ze hR hs
 have h2 := ze hR hx
 obtain ⟨hk, hkn⟩ := hnew
 have fin : ∀ {len n0 : Nat} {ds : List AV}, srcA false n (x.ev env) = some (n0, ds) → n0 ≠ 0 → (len + n0) * b ≤ big → len + n0 ≤ big →
   ((∃ cs, s.ev env = .sl cs len .full ∧ cs.length = len * n ∧ st' = st.put (r + k0) (.row e n (cs ++ ds))) ∨
   (∃ o cs, s.ev env = .row o len ∧ st.objs o = some (.row e n cs) ∧ len * n ≤ cs.length ∧ st' = (st.del o).put (r + k0) (.row e n (cs.take (len * n) ++ ds)))) → av = .row (r + k0) (len + n0) →
   WorthN P w0 base G st' w (execOp a.eval ⟨dst, .call ⟨.builtin .append, #[sx, xx], #[t, tx]⟩, ty, pos, after, guard⟩) av (fun y => y = r + k0) := by
  intro len n0 ds hsrc hn0 hb1 hb2 hcase hav
  subst hav
  obtain ⟨v, w', G', q1, q2, q3, q4, q5⟩ := append_row_sound (ty := ty) hI (elemOk_spec hu hel) h1 h2 hsrc ⟨e', hux⟩ hk hkn hn0 hb1 hb2 hcase
  refine ⟨v, w', G', .inl ?_, q2, q3, q4, q5⟩
  simp only [execOp, resolve, invoke, builtin, Sem.run_bind, Sem.run_pure, Result.andThen_ok, List.map_toArray, List.map_cons, List.map_nil]
  rw [q1]
  rfl
 simp only [SOp.step] at he
 split at he
 ·rename_i cs len m ds heq hsrc
  split at he
  ·rename_i hc
   cases he
   exact fin hsrc hc.1 hc.2.2.1 hc.2.2.2 (.inl ⟨cs, heq, hc.2.1, rfl⟩) rfl
  ·cases he
 ·rename_i o len m ds heq hsrc
  split at he
  ·rename_i e0 s0 cs ho
   split at he
   ·rename_i hc
    obtain ⟨rfl, rfl, hc⟩ := hc
    cases he
    exact fin hsrc hc.1 hc.2.2.1 hc.2.2.2 (.inr ⟨o, cs, heq, ho, hc.2.1, rfl⟩) rfl
   ·cases he
  ·cases he
 ·cases he
theorem step_sound (hI : Inv w0 base G st w) (hR : RepEnv G w env a) {o : Oper} {k r : Nat} {s : SOp} {av : AV} (hr : resOp P k o.op = some s) (he : s.step r env st = some (av, st'))
    (hnew : ∀ k, s.new = some k → ¬ G.used (r + k) ∧ r + k < st.next) :
    WorthN P w0 base G st' w (execOp a.eval o) av (fun x => ∃ k, s.new = some k ∧ x = r + k) := by
  obtain ⟨dst, op, ty, pos, after, guard⟩ := o
  simp only at hr
  unfold resOp at hr
  split at hr
  · rename_i e hpe
    cases hr
    obtain ⟨v, hv, e⟩ := Option.map_eq_some_iff.1 he
    cases e
    obtain ⟨v', w', G', q1, q2, q3, q4, q5⟩ := pe_sound (o := ⟨dst, op, ty, pos, after, guard⟩) hI hR hpe hv
    exact ⟨v', w', G', q1, q2, fun o ho => .inr (q3 o ho), q4, q5⟩
  · split at hr
    · -- load
      rename_i t x hpe
      split at hr
      · rename_i x' n hx hn
        split at hr
        · rename_i hu
          cases hr
          have h1 := ze hR hx
          have key : ((∃ cs off, x'.ev env = .iptr cs off ∧ loadA n (aggT P t) cs off = some av) ∨ (∃ o off cs, x'.ev env = .ptr o off ∧ st.data o = some cs ∧ loadA n (aggT P t) cs off = some av)) ∧ st' = st := by
            simp only [SOp.step] at he
            split at he
            · rename_i cs off heq
              obtain ⟨v, hv, e⟩ := Option.map_eq_some_iff.1 he
              cases e
              exact ⟨.inl ⟨cs, off, heq, hv⟩, rfl⟩
            · rename_i o off heq
              split at he
              · rename_i cs hcs
                obtain ⟨v, hv, e⟩ := Option.map_eq_some_iff.1 he
                cases e
                exact ⟨.inr ⟨o, off, cs, heq, hcs, hv⟩, rfl⟩
              · cases he
            · cases he
          obtain ⟨key, rfl⟩ := key
          obtain ⟨v, hr1, hr2⟩ := load_sound hI h1 hu hn rfl key
          exact worthN_v hr1 (Ext.refl _ _ _) (fun o ho => .inr ho) hI hr2
        · cases hr
      · cases hr
    · -- store
      rename_i t x v hpe
      split at hr
      · rename_i x' v' n hx hv hn
        cases hr
        have h1 := ze hR hx
        have h2 := ze hR hv
        simp only [SOp.step] at he
        split at he
        · rename_i o off heq
          split at he
          · rename_i ob ho
            split at he
            · rename_i cs hd
              split at he
              · rename_i hc
                cases he
                obtain ⟨w', q1, q2, q3⟩ := store_sound (P := P) hI h1 h2 hn heq ho hd hc.1 hc.2.1 hc.2.2
                exact worthN_u q1 q2 (fun o ho => .inr ho) q3
              · cases he
            · cases he
          · cases he
        · cases he
      · cases hr
    · -- alloc
      rename_i t hpe
      split at hr
      · rename_i z hz
        split at hr
        · rename_i hs
          cases hr
          cases he
          obtain ⟨i, zv, hi, hzv, hc⟩ := zeroT_sound hz
          obtain ⟨hk, hkn⟩ := hnew k rfl
          obtain ⟨v, w', G', q1, q2, q3, q4, q5⟩ := new_sound (P := P) hI (t := t) (ofConst_sound hc G w) hs hk hkn
          refine worthN_v (s := Instr.alloc t true (.tuple #[])) ?_ q2 (fun o ho => ?_) q4 q5
          · simp only [Instr.alloc, Sem.run_bind, run_zero hi hzv, Result.andThen_ok]
            simpa using q1
          · rcases (q3 o).1 ho with e | e
            · exact .inl ⟨k, rfl, e⟩
            · exact .inr e
        · cases hr
      · cases hr
    · -- box
      rename_i t x hpe
      obtain ⟨x', hx, rfl⟩ := Option.map_eq_some_iff.1 hr
      simp only [SOp.step] at he
      split at he
      · rename_i hs
        cases he
        obtain ⟨hk, hkn⟩ := hnew k rfl
        obtain ⟨v, w', G', q1, q2, q3, q4, q5⟩ := new_sound (P := P) hI (t := t) (ze hR hx) hs hk hkn
        refine worthN_v (s := Instr.box t (a.eval x)) q1 q2 (fun o ho => ?_) q4 q5
        rcases (q3 o).1 ho with e | e
        · exact .inl ⟨k, rfl, e⟩
        · exact .inr e
      · cases he
    · -- lookup
      rename_i t m key ok hpe
      split at hr
      · rename_i kk et m' key' hmap hm hkey
        obtain ⟨z, hz, rfl⟩ := Option.map_eq_some_iff.1 hr
        obtain ⟨kt, d, hu, hkt, hd⟩ := resMap_spec hmap
        have h1 := ze hR hm
        have h2 := ze hR hkey
        have hst : st' = st ∧ ((m'.ev env = .nilmap ∧ av = (if ok then .tuple [z, .bool false] else z)) ∨
          (∃ o es, m'.ev env = .map o ∧ st.objs o = some (.map es) ∧ ((∃ i v, findA kk (key'.ev env) es 0 = some (some (i, v)) ∧ av = (if ok then .tuple [v, .bool true] else v)) ∨ (findA kk (key'.ev env) es 0 = some none ∧ av = (if ok then .tuple [z, .bool false] else z))))) := by
          simp only [SOp.step] at he
          split at he
          · rename_i heq
            split at he
            · cases he; exact ⟨rfl, .inl ⟨heq, rfl⟩⟩
            · cases he
          · rename_i o heq
            split at he
            · rename_i es ho
              split at he
              · rename_i i v hf
                cases he; exact ⟨rfl, .inr ⟨o, es, heq, ho, .inl ⟨i, v, hf, rfl⟩⟩⟩
              · rename_i hf
                split at he
                · cases he; exact ⟨rfl, .inr ⟨o, es, heq, ho, .inr ⟨hf, rfl⟩⟩⟩
                · cases he
              · cases he
            · cases he
          · cases he
        obtain ⟨rfl, hst⟩ := hst
        obtain ⟨v, q1, q2⟩ := lookup_sound hI hu hkt hd hz h1 h2 hst
        exact worthN_v q1 (Ext.refl _ _ _) (fun o ho => .inr ho) hI q2
      · cases hr
    · -- mapUpdate
      rename_i t m key v hpe
      split at hr
      · rename_i kk et m' key' v' hmap hm hkey hv
        cases hr
        obtain ⟨kt, d, hu, hkt, hd⟩ := resMap_spec hmap
        have h1 := ze hR hm
        have h2 := ze hR hkey
        have h3 := ze hR hv
        simp only [SOp.step] at he
        split at he
        · rename_i o heq
          split at he
          · rename_i es ho
            split at he
            · rename_i i x hf
              cases he
              obtain ⟨w', q1, q2, q3⟩ := mapUpd_sound (P := P) hI hu hkt hd h1 h2 h3 heq ho (.inl ⟨i, x, hf, rfl⟩)
              exact worthN_u q1 q2 (fun o ho => .inr ho) q3
            · rename_i hf
              split at he
              · cases he
                obtain ⟨w', q1, q2, q3⟩ := mapUpd_sound (P := P) hI hu hkt hd h1 h2 h3 heq ho (.inr ⟨hf, rfl⟩)
                exact worthN_u q1 q2 (fun o ho => .inr ho) q3
              · cases he
            · cases he
          · cases he
        · cases he
      · cases hr
    · -- insert
      rename_i t m key v hpe
      split at hr
      · rename_i kk et m' key' v' hmap hm hkey hv
        cases hr
        obtain ⟨kt, d, hu, hkt, hd⟩ := resMap_spec hmap
        have h1 := ze hR hm
        have h2 := ze hR hkey
        have h3 := ze hR hv
        simp only [SOp.step] at he
        split at he
        · rename_i o heq
          split at he
          · rename_i es ho
            split at he
            · rename_i i x hf
              cases he
              obtain ⟨w', q1, q2, q3⟩ := mapUpd_sound (P := P) hI hu hkt hd h1 h2 h3 heq ho (.inl ⟨i, x, hf, rfl⟩)
              exact worthN_u q1 q2 (fun o ho => .inr ho) q3
            · rename_i hf
              split at he
              · cases he
                obtain ⟨w', q1, q2, q3⟩ := mapUpd_sound (P := P) hI hu hkt hd h1 h2 h3 heq ho (.inr ⟨hf, rfl⟩)
                exact worthN_u q1 q2 (fun o ho => .inr ho) q3
              · cases he
            · cases he
          · cases he
        · cases he
      · cases hr
    · -- makeMap
      rename_i t rs hpe
      split at hr
      · rename_i hc
        cases hr
        cases he
        obtain ⟨hk, hkn⟩ := hnew k rfl
        obtain ⟨v, w', G', q1, q2, q3, q4, q5⟩ := mkMap_sound (P := P) hI (t := t) (r := rs.map a.eval) (fun v hv => by
          obtain ⟨hc1, hc2⟩ := hc
          cases rs with
          | none => cases hv
          | some x =>
            cases x with
            | const c =>
              cases c <;> simp [isIntConst] at hc1
              cases hv
              refine ⟨⟨_, _, rfl⟩, ?_⟩
              obtain ⟨⟨kk, et⟩, hm⟩ := Option.isSome_iff_exists.1 hc2
              obtain ⟨kt, d, hu, _⟩ := resMap_spec hm
              exact ⟨kt, et, hu⟩
            | _ => simp [isIntConst] at hc1) hk hkn
        refine worthN_v (s := Instr.makeMap t (rs.map a.eval)) q1 q2 (fun o ho => ?_) q4 q5
        rcases (q3 o).1 ho with e | e
        · exact .inl ⟨k, rfl, e⟩
        · exact .inr e
      · cases hr
    · -- call
      rename_i c hpe
      obtain ⟨callee, args, tys⟩ := c
      have hargs : args = args.toList.toArray := by simp
      have htys : tys = tys.toList.toArray := by simp
      unfold resCall at hr
      simp only at hr
      generalize args.toList = al at *
      generalize tys.toList = tl at *
      subst hargs; subst htys
      have happ : ∀ (sx x : Operand) (t tx e n : Nat) (str : Bool) (s' x' : Opd), callee = .builtin .append → al = [sx, x] → tl = [t, tx] → resO sx = some s' → resO x = some x' → P.underlying t = some (.slice e) → elemOk P e n (bytesT P e) = true →
          (str = false → ∃ e', P.underlying tx = some (.slice e')) → (str = true → P.underlying tx = some .string) → s = .append str e n (bytesT P e) s' x' k →
          WorthN P w0 base G st' w (execOp a.eval ⟨dst, .call ⟨callee, al.toArray, tl.toArray⟩, ty, pos, after, guard⟩) av (fun x => ∃ k, s.new = some k ∧ x = r + k) := by
        intro sx x t tx e n str s' x' e1 e2 e3 hs hx hu hel ht1 ht2 e4
        subst e1; subst e2; subst e3; subst e4
        have h1 := ze hR hs
        have h2 := ze hR hx
        obtain ⟨hk, hkn⟩ := hnew k rfl
        simp only [SOp.step] at he
        split at he
        · rename_i cs len p m ds heq hsrc
          have key : (m = 0 ∧ av = s'.ev env ∧ st' = st) ∨ (m ≠ 0 ∧ cs.length = len * n ∧ (len + m) * bytesT P e ≤ big ∧ len + m ≤ big ∧
              ((p = .full ∧ av = .sl (cs ++ ds) (len + m) (.tok (r + k)) ∧ st' = st.put (r + k) (.tip e n (len + m))) ∨
               (∃ t, p = .tok t ∧ st.objs t = some (.tip e n len) ∧ av = .sl (cs ++ ds) (len + m) (.tok t) ∧ st' = st.put t (.tip e n (len + m))))) := by
            split at he
            · rename_i h0
              cases he
              exact .inl ⟨h0, heq.symm, rfl⟩
            · rename_i h0
              split at he
              · rename_i hc
                refine .inr ⟨h0, hc.1, hc.2.1, hc.2.2, ?_⟩
                split at he
                · cases he; exact .inl ⟨rfl, rfl, rfl⟩
                · rename_i t0
                  split at he
                  · rename_i e0 s0 l0 ho
                    split at he
                    · rename_i hc2
                      obtain ⟨rfl, rfl, rfl⟩ := hc2
                      cases he
                      exact .inr ⟨t0, rfl, ho, rfl, rfl⟩
                    · cases he
                  · cases he
                · cases he
              · cases he
          obtain ⟨v, w', G', q1, q2, q3, q4, q5⟩ := append_sound (ty := ty) hI (elemOk_spec hu hel) h1 h2 heq hsrc ht1 ht2 hk hkn key
          refine ⟨v, w', G', .inl ?_, q2, fun o ho => ?_, q4, q5⟩
          · simp only [execOp, resolve, invoke, builtin, Sem.run_bind, Sem.run_pure, Result.andThen_ok, List.map_toArray, List.map_cons, List.map_nil]
            rw [q1]
            rfl
          · rcases q3 o ho with e | e
            · exact .inl ⟨k, rfl, e⟩
            · exact .inr e
        · cases he
      split at hr
      · obtain ⟨l, hl, rfl⟩ := Option.map_eq_some_iff.1 hr; cases he
      · split at hr
        · cases hr; cases he
        · cases hr
      · split at hr
        · split at hr
          · rename_i sx x t tx s' x' e e' hs hx hu hux
            split at hr
            · rename_i n hn
              split at hr
              · rename_i hel
                cases hr
                exact happ _ _ _ _ _ _ _ _ _ rfl rfl rfl hs hx hu hel (fun _ => ⟨e', hux⟩) (fun h => by cases h) rfl
              · cases hr
            · cases hr
          · rename_i sx x t tx s' x' e hs hx hu hux
            split at hr
            · rename_i n hn
              split at hr
              · rename_i hel
                cases hr
                exact happ _ _ _ _ _ _ _ _ _ rfl rfl rfl hs hx hu hel (fun h => by cases h) (fun _ => hux) rfl
              · cases hr
            · cases hr
          · cases hr
        · cases hr
      · cases hr
    · -- defer
      rename_i c hpe
      split at hr
      · split at hr
        · cases hr; cases he
        · cases hr
      · cases hr
    · cases hr
theorem step_soundP (hI : Inv w0 base G st w) (hR : RepEnv G w env a) {o : Oper} {k r : Nat} {s : SOp} {av : AV} (hr : resOp P k o.op = some s.plain) (he : s.step r env st = some (av, st'))
  (hnew : ∀ k, s.new = some k → ¬ G.used (r + k) ∧ r + k < st.next) :
  WorthN P w0 base G st' w (execOp a.eval o) av (fun x => ∃ k, s.new = some k ∧ x = r + k) := by
 rcases s.plain_inv with h | ⟨e, n, b, x, y, k0, rfl⟩
 ·rw [h] at hr; exact step_sound hI hR hr he hnew
 ·obtain ⟨v, w', G', q1, q2, q3, q4, q5⟩ := step_soundR hI hR hr he (hnew k0 rfl)
  exact ⟨v, w', G', q1, q2, fun o ho => (q3 o ho).imp (fun e => ⟨k0, rfl, e⟩) id, q4, q5⟩
end
end
section
def St.add (st : St) (X : Nat → Option AObj) : St := { st with objs := fun o => match st.objs o with | some x => some x | none => X o }
theorem xd {st : St} {X : Nat → Option AObj} {o : Nat} {x : AObj} (h : st.objs o = some x) : (st.add X).objs o = some x := by simp [St.add, h]
theorem ux (st : St) (X : Nat → Option AObj) (o : Nat) (x : AObj) : (st.put o x).add X = (st.add X).put o x := by
 unfold St.add St.put
 congr 1
 funext o'
 by_cases e : o' = o
 ·subst e; simp [zd]
 ·simp [zl _ _ _ _ e]
theorem add_del {st : St} {X : Nat → Option AObj} {o : Nat} (h : X o = none) : (st.del o).add X = (st.add X).del o := by
 unfold St.add St.del
 congr 1
 funext o'
 by_cases e : o' = o
 ·subst e; simp [h]
 ·simp [e]
theorem add_data {st : St} {X : Nat → Option AObj} {o : Nat} {cs : List AV} (h : st.data o = some cs) : (st.add X).data o = some cs := by
 obtain ⟨x, hx, hd⟩ := Option.bind_eq_some_iff.1 h
 exact Option.bind_eq_some_iff.2 ⟨x, xd hx, hd⟩
theorem step_frame {s : SOp} {r : Nat} {env : Env} {st st' : St} {v : AV} (X : Nat → Option AObj) (hX : ∀ o, X o ≠ none → st.objs o = none) (h : s.step r env st = some (v, st')) : s.step r env (st.add X) = some (v, st'.add X) := by
 cases s with
 | pe e =>
  obtain ⟨v', hv, e'⟩ := Option.map_eq_some_iff.1 h
  cases e'
  simp [SOp.step, hv]
 | load n agg x =>
  simp only [SOp.step] at h ⊢
  split at h
  ·obtain ⟨v', hv, e'⟩ := Option.map_eq_some_iff.1 h
   cases e'
   simp [hv]
  ·split at h
   ·rename_i cs hcs
    obtain ⟨v', hv, e'⟩ := Option.map_eq_some_iff.1 h
    cases e'
    simp [add_data hcs, hv]
   ·cases h
  ·cases h
 | store n x y =>
  simp only [SOp.step] at h ⊢
  split at h
  ·split at h
   ·rename_i ob ho
    split at h
    ·rename_i cs hd
     split at h
     ·rename_i hc
      cases h
      simp only [xd ho, hd]
      rw [if_pos hc, ux]
     ·cases h
    ·cases h
   ·cases h
  ·cases h
 | alloc T z k => cases h; simp [SOp.step, ux]
 | box T x k =>
  simp only [SOp.step] at h ⊢
  split at h
  ·rename_i hc; cases h; rw [if_pos hc, ux]
  ·cases h
 | append str e size bytes a b k =>
  simp only [SOp.step] at h ⊢
  split at h
  ·split at h
   ·rename_i h0; cases h; rw [if_pos h0]
   ·rename_i h0
    rw [if_neg h0]
    split at h
    ·rename_i hc
     rw [if_pos hc]
     split at h
     ·cases h; rw [ux]
     ·split at h
      ·rename_i ho
       split at h
       ·rename_i hc2
        cases h
        simp only [xd ho]
        rw [if_pos hc2, ux]
       ·cases h
      ·cases h
     ·cases h
    ·cases h
  ·cases h
 | appendR e size bytes a b k =>
  simp only [SOp.step] at h ⊢
  split at h
  ·split at h
   ·rename_i hc; cases h; rw [if_pos hc, ux]
   ·cases h
  ·rename_i o len n ds _ _
   split at h
   ·rename_i ho
    split at h
    ·rename_i hc
     cases h
     simp only [xd ho]
     have hn : X o = none := by
      cases hx : X o with
      | none => rfl
      | some y => have := hX o (by rw [hx]; simp); rw [ho] at this; cases this
     rw [if_pos hc, ux, add_del hn]
    ·cases h
   ·cases h
  ·cases h
 | lookup kk z ok m key =>
  simp only [SOp.step] at h ⊢
  split at h
  ·split at h
   ·rename_i hc; cases h; rw [if_pos hc]
   ·cases h
  ·split at h
   ·rename_i ho
    simp only [xd ho]
    split at h
    ·cases h; simp [*]
    ·split at h
     ·rename_i hc; cases h; simp [*]
     ·cases h
    ·cases h
   ·cases h
  ·cases h
 | mapUpd kk m key v =>
  simp only [SOp.step] at h ⊢
  split at h
  ·split at h
   ·rename_i ho
    simp only [xd ho]
    split at h
    ·cases h; simp [*, ux]
    ·split at h
     ·rename_i hc; cases h; simp [*, ux]
     ·cases h
    ·cases h
   ·cases h
  ·cases h
 | mkMap k => cases h; simp [SOp.step, ux]
 | call f l => cases h
 | callV x l => cases h
 | defer x l => cases h
theorem step_keep {s : SOp} {r : Nat} {env : Env} {st st' : St} {v : AV} (h : s.step r env st = some (v, st')) : st'.next = st.next ∧ ∀ o, o < r → st.objs o = none → st'.objs o = none := by
  have hput : ∀ (x : Nat) (ob : AObj), (st.objs x ≠ none ∨ r ≤ x) → (st.put x ob).next = st.next ∧ ∀ o, o < r → st.objs o = none → (st.put x ob).objs o = none := by
    intro x ob hx
    refine ⟨rfl, fun o ho hn => ?_⟩
    have : o ≠ x := by rintro rfl; rcases hx with hx | hx
                       · exact hx hn
                       · omega
    simp [St.put, zl _ _ _ _ this, hn]
  cases s with
  | pe e => obtain ⟨v', hv, e'⟩ := Option.map_eq_some_iff.1 h; cases e'; exact ⟨rfl, fun _ _ h => h⟩
  | load n agg x =>
    simp only [SOp.step] at h
    split at h
    · obtain ⟨v', hv, e'⟩ := Option.map_eq_some_iff.1 h; cases e'; exact ⟨rfl, fun _ _ h => h⟩
    · split at h
      · obtain ⟨v', hv, e'⟩ := Option.map_eq_some_iff.1 h; cases e'; exact ⟨rfl, fun _ _ h => h⟩
      · cases h
    · cases h
  | store n x y =>
    simp only [SOp.step] at h
    split at h
    · split at h
      · rename_i ob ho
        split at h
        · split at h
          · cases h; exact hput _ _ (.inl (by simp [ho]))
          · cases h
        · cases h
      · cases h
    · cases h
  | alloc T z k => cases h; exact hput _ _ (.inr (by omega))
  | box T x k =>
    simp only [SOp.step] at h
    split at h
    · cases h; exact hput _ _ (.inr (by omega))
    · cases h
  | append str e size bytes a b k =>
    simp only [SOp.step] at h
    split at h
    · split at h
      · cases h; exact ⟨rfl, fun _ _ h => h⟩
      · split at h
        · split at h
          · cases h; exact hput _ _ (.inr (by omega))
          · split at h
            · rename_i ho
              split at h
              · cases h; exact hput _ _ (.inl (by simp [ho]))
              · cases h
            · cases h
          · cases h
        · cases h
    · cases h
  | appendR e size bytes a b k =>
    simp only [SOp.step] at h
    split at h
    · split at h
      · cases h; exact hput _ _ (.inr (by omega))
      · cases h
    · split at h
      · split at h
        · cases h
          refine ⟨rfl, fun o ho hn => ?_⟩
          simp only [St.put, St.del]
          rw [zl _ _ _ _ (by omega)]
          split
          · rfl
          · exact hn
        · cases h
      · cases h
    · cases h
  | lookup kk z ok m key =>
    simp only [SOp.step] at h
    split at h
    · split at h
      · cases h; exact ⟨rfl, fun _ _ h => h⟩
      · cases h
    · split at h
      · split at h
        · cases h; exact ⟨rfl, fun _ _ h => h⟩
        · split at h
          · cases h; exact ⟨rfl, fun _ _ h => h⟩
          · cases h
        · cases h
      · cases h
    · cases h
  | mapUpd kk m key v =>
    simp only [SOp.step] at h
    split at h
    · split at h
      · rename_i ho
        split at h
        · cases h; exact hput _ _ (.inl (by simp [ho]))
        · split at h
          · cases h; exact hput _ _ (.inl (by simp [ho]))
          · cases h
        · cases h
      · cases h
    · cases h
  | mkMap k => cases h; exact hput _ _ (.inr (by omega))
  | call f l => cases h
  | callV x l => cases h
  | defer x l => cases h
def Enters (P : Program) (f : FuncId) : Prop := ∃ fn, P.funcs[f]? = some fn ∧ fn.body.isNone = false ∧ (fn.name == "runtime.NumGoroutine") = false
structure Det (P : Program) (w0 : World) (base : Nat) (f : FuncId) (args : List AV) (st : St) (r : AV) (st' : St) : Prop where
 enters : Enters P f
 next : st.next ≤ st'.next
 keep : ∀ o, o < st.next → st.objs o = none → st'.objs o = none
 calls : ∀ (X : Nat → Option AObj) (G : Gh) (w : World) (vs : List Value), (∀ o, X o ≠ none → st.objs o = none) → Inv w0 base G (st.add X) w → RepL G w args vs →
  Calls P f ⟨vs⟩ w fun e w' => ∃ v G', e = .returned v ∧ Ext base G w G' w' ∧ (∀ o, o < st.next → G'.used o → G.used o) ∧ Inv w0 base G' (st'.add X) w' ∧ Rep G' w' r v
abbrev ADef := Fn × List AV × List AV
def RepD (G : Gh) (w : World) (d : ADef) (c : Deferred) : Prop := ∃ cap args, c = { target := .fn d.1 ⟨cap⟩, args := ⟨args⟩ } ∧ RepL G w d.2.1 cap ∧ RepL G w d.2.2 args
def RepDs (G : Gh) (w : World) : List ADef → List Deferred → Prop
 | [], cs => cs = []
 | d :: ds, cs => ∃ c cs', cs = c :: cs' ∧ RepD G w d c ∧ RepDs G w ds cs'
structure RepFr (G : Gh) (w : World) (N : Nat) (env : Env) (ds : List ADef) (a : Act) : Prop where
 size : a.tmps.size = N
 env : RepEnv G w env a
 defers : RepDs G w ds a.defers
theorem repDs_mono {base : Nat} {G G' : Gh} {w w' : World} (h : Ext base G w G' w') : ∀ {ds : List ADef} {cs : List Deferred}, RepDs G w ds cs → RepDs G' w' ds cs
 | [], _, h' => h'
 | d :: ds, _, ⟨c, cs, e, ⟨cap, args, e', h1, h2⟩, h3⟩ => ⟨c, cs, e, ⟨cap, args, e', xf h _ _ h1, xf h _ _ h2⟩, repDs_mono h h3⟩
theorem repFr_mono {base : Nat} {G G' : Gh} {w w' : World} (h : Ext base G w G' w') {N : Nat} {env : Env} {ds : List ADef} {a : Act} (hf : RepFr G w N env ds a) : RepFr G' w' N env ds a :=
 ⟨hf.size, fun i => v8 h _ _ (hf.env i), repDs_mono h hf.defers⟩
def Env.put (env : Env) : Option Nat → AV → Env
 | none, _ => env
 | some d, v => env.set d v
theorem repFr_put {G : Gh} {w : World} {N : Nat} {env : Env} {ds : List ADef} {a : Act} (hf : RepFr G w N env ds a) {dst : Option Nat} (hd : ∀ d, dst = some d → d < N) {av : AV} {v : Value} (hv : Rep G w av v) : RepFr G w N (env.put dst av) ds (a.put dst v) := by
 cases dst with
 | none => exact hf
 | some d =>
  have hlt := hd d rfl
  refine ⟨by simp [Act.put, hf.size], fun i => ?_, hf.defers⟩
  by_cases e : i = d
  ·subst e
   have h1 : (env.put (some i) av) i = av := if_pos rfl
   have h2 : (a.put (some i) v).tmps.getD i undef = v := by simp [Act.put, Array.getD_eq_getD_getElem?, hf.size, hlt]
   rw [h1, h2]; exact hv
  ·have h1 : (env.put (some d) av) i = env i := if_neg e
   have h2 : (a.put (some d) v).tmps.getD i undef = a.tmps.getD i undef := by simp [Act.put, Array.getD_eq_getD_getElem?, Array.getElem?_setIfInBounds_ne (Ne.symm e)]
   rw [h1, h2]; exact hf.env i
def Wanted (s : SOper) (env : Env) : Prop := s.guard = none ∨ ∃ d b, s.guard = some (d, b) ∧ env d = .bool b
def noB : AV → Bool → Bool
 | .bool b', b => b' != b
 | .tuple [], _ => true
 | _, _ => false
inductive Step (P : Program) (w0 : World) (base r : Nat) (s : SOper) (env : Env) (ds : List ADef) (st : St) : Env → List ADef → St → Prop
 | skip (d : Nat) (b : Bool) (h1 : s.guard = some (d, b)) (h2 : noB (env d) b = true) : Step P w0 base r s env ds st (env.put s.dst (.tuple [])) ds st
 | run (v : AV) (st' : St) (h1 : Wanted s env) (h2 : s.op.step r env st = some (v, st')) : Step P w0 base r s env ds st (env.put s.dst v) ds st'
 | call (f : FuncId) (args : List Opd) (v : AV) (st' : St) (h1 : Wanted s env) (h2 : s.op = .call f args) (h3 : Det P w0 base f (args.map (·.ev env)) st v st') : Step P w0 base r s env ds st (env.put s.dst v) ds st'
 | callV (x : Opd) (args : List Opd) (f : FuncId) (first cap : List AV) (v : AV) (st' : St) (h1 : Wanted s env) (h2 : s.op = .callV x args) (h3 : x.ev env = .func (.func f) first cap)
   (h4 : Det P w0 base f (first ++ args.map (·.ev env) ++ cap) st v st') : Step P w0 base r s env ds st (env.put s.dst v) ds st'
 | defer (x : Opd) (args : List Opd) (fn : Fn) (first cap : List AV) (h1 : Wanted s env) (h2 : s.op = .defer x args) (h3 : x.ev env = .func fn first cap) :
   Step P w0 base r s env ds st (env.put s.dst .undef) ((fn, cap, first ++ args.map (·.ev env)) :: ds) st
structure Resolves (P : Program) (N : Nat) (ops : Array Oper) (i k : Nat) (s : SOper) : Prop where
 ex : ∃ o, ops[i]? = some o ∧ resOp P k o.op = some s.op.plain ∧ s.dst = o.dst ∧ (∀ d, o.dst = some d → d < N) ∧
  (o.guard = none ∧ s.guard = none ∨ ∃ j b oj d, o.guard = some (j, b) ∧ ops[j]? = some oj ∧ oj.dst = some d ∧ s.guard = some (d, b))
section
variable {P : Program} {w0 : World} {base : Nat} {G : Gh} {st st' : St} {w : World} {env env' : Env} {ds ds' : List ADef} {a : Act} {N : Nat} {ops : Array Oper} {i k r : Nat} {s : SOper} {Q : Exit → Act → World → Prop} {K : Act → World → Prop}
theorem yielded_bool (hf : RepFr G w N env ds a) {j d : Nat} {oj : Oper} {b : Bool} (h1 : ops[j]? = some oj) (h2 : oj.dst = some d) (h3 : env d = .bool b) : yielded ops a.tmps j = some b := by
 have := hf.env d
 rw [h3] at this
 simp only [Rep] at this
 have hv : a.tmps[d]? = some (.bool b) := by
  rw [Array.getD_eq_getD_getElem?] at this
  cases h : a.tmps[d]? with
  | none => rw [h] at this; cases this
  | some v => rw [h] at this; simp at this; rw [this]
 simp [yielded, h1, h2, hv]
theorem yielded_no (hf : RepFr G w N env ds a) {j d : Nat} {oj : Oper} {b : Bool} (h1 : ops[j]? = some oj) (h2 : oj.dst = some d) (h3 : noB (env d) b = true) : yielded ops a.tmps j ≠ some b := by
 cases hv : env d with
 | bool b' =>
  rw [yielded_bool hf h1 h2 hv]
  rw [hv] at h3
  simp [noB] at h3
  simp [h3]
 | tuple l =>
  cases l with
  | nil =>
   have := hf.env d
   rw [hv] at this
   obtain ⟨vs, hvs, rfl⟩ := this
   have hv2 : a.tmps[d]? = none ∨ a.tmps[d]? = some (.tuple #[]) := by
    rw [Array.getD_eq_getD_getElem?] at hvs
    cases h : a.tmps[d]? with
    | none => exact .inl rfl
    | some v => rw [h] at hvs; simp at hvs; exact .inr (by rw [hvs])
   rcases hv2 with hv2 | hv2 <;> simp [yielded, h1, h2, hv2]
  | cons x l => rw [hv] at h3; cases h3
 | _ => rw [hv] at h3; cases h3
theorem resolves_new {P : Program} {k : Nat} {op : Op} {s : SOp} (h : resOp P k op = some s) {k' : Nat} (hk : s.new = some k') : k' = k := by
 unfold resOp at h
 split at h
 ·cases h; cases hk
 ·split at h
  ·split at h
   ·split at h
    ·cases h; cases hk
    ·cases h
   ·cases h
  ·split at h
   ·cases h; cases hk
   ·cases h
  ·split at h
   ·split at h
    ·cases h; cases hk; rfl
    ·cases h
   ·cases h
  ·obtain ⟨x, _, rfl⟩ := Option.map_eq_some_iff.1 h; cases hk; rfl
  ·split at h
   ·obtain ⟨x, _, rfl⟩ := Option.map_eq_some_iff.1 h; cases hk
   ·cases h
  ·split at h
   ·cases h; cases hk
   ·cases h
  ·split at h
   ·cases h; cases hk
   ·cases h
  ·split at h
   ·cases h; cases hk; rfl
   ·cases h
  ·unfold resCall at h
   split at h
   ·obtain ⟨x, _, rfl⟩ := Option.map_eq_some_iff.1 h; cases hk
   ·split at h
    ·cases h; cases hk
    ·cases h
   ·split at h
    ·split at h
     ·split at h
      ·split at h
       ·cases h; cases hk; rfl
       ·cases h
      ·cases h
     ·split at h
      ·split at h
       ·cases h; cases hk; rfl
       ·cases h
      ·cases h
     ·cases h
    ·cases h
   ·cases h
  ·split at h
   ·split at h
    ·cases h; cases hk
    ·cases h
   ·cases h
  ·cases h
theorem resolves_newP {P : Program} {k : Nat} {op : Op} {s : SOp} (h : resOp P k op = some s.plain) {k' : Nat} (hk : s.new = some k') : k' = k := by
 refine resolves_new h ?_
 cases s <;> exact hk
end
end
section
section
variable {P : Program} {w0 : World} {base : Nat} {G : Gh} {st st' : St} {w : World} {env env' : Env} {ds ds' : List ADef} {a : Act} {N : Nat} {ops : Array Oper} {i k r : Nat} {s : SOper} {Q : Exit → Act → World → Prop} {K : Act → World → Prop}
theorem run_callValue {c : Call} {x : Operand} {ty : TypeId} {f : FuncId} {first cap : List Value} (hc : c.callee = .value x) (hx : a.eval x = .func (.func f) ⟨first⟩ ⟨cap⟩) (hE : Enters P f) :
  (do let d ← resolve a.eval c ty; invoke d.target d.args : Sem Next).run P w = .ok (.enter f ⟨first ++ c.args.toList.map a.eval ++ cap⟩) w := by
 obtain ⟨fn, h1, h2, h3⟩ := hE
 have e : (⟨first⟩ ++ c.args.map a.eval : Array Value) ++ ⟨cap⟩ = ⟨first ++ c.args.toList.map a.eval ++ cap⟩ := by
  apply Array.ext'
  simp
 simp only [resolve, hc, hx, Deferred.ofValue, Sem.run_bind, Sem.run_pure, Result.andThen_ok, invoke, callFunc, run_program, h1, h3, h2, if_false, Bool.false_eq_true]
 rw [e]
theorem upon_call {o : Oper} {f : FuncId} {vs : List Value} (hrun : (execOp a.eval o).run P w = .ok (.enter f ⟨vs⟩) w) {R : Ending → World → Prop} (hc : Calls P f ⟨vs⟩ w R) (hK : ∀ e w', R e w' → ∃ v, e = .returned v ∧ K (a.put o.dst v) w') : o.wp P a w K Q := by
 unfold Oper.wp
 rw [hrun]
 refine hc.mono fun e w' he => ?_
 obtain ⟨v, rfl, hk⟩ := hK e w' he
 exact hk
theorem resCall_call {c : Call} {f : FuncId} {args : List Opd} (h : resCall P k c = some (.call f args)) : c.callee = .value (.func f) ∧ resOs c.args.toList = some args := by
 unfold resCall at h
 split at h
 ·rename_i f' hc
  obtain ⟨l, hl, e⟩ := Option.map_eq_some_iff.1 h
  cases e
  exact ⟨hc, hl⟩
 ·split at h <;> cases h
 ·split at h
  ·split at h <;> (try split at h) <;> (try split at h) <;> cases h
  ·cases h
 ·cases h
theorem resCall_callV {c : Call} {x : Opd} {args : List Opd} (h : resCall P k c = some (.callV x args)) : ∃ y, c.callee = .value y ∧ resO y = some x ∧ resOs c.args.toList = some args := by
 unfold resCall at h
 split at h
 ·obtain ⟨l, hl, e⟩ := Option.map_eq_some_iff.1 h
  cases e
 ·rename_i y _ hc
  split at h
  ·rename_i x' l hx hl
   cases h
   exact ⟨y, hc, hx, hl⟩
  ·cases h
 ·split at h
  ·split at h <;> (try split at h) <;> (try split at h) <;> cases h
  ·cases h
 ·cases h
theorem resOp_call {op : Op} {f : FuncId} {args : List Opd} (h : resOp P k op = some (.call f args)) : ∃ c, op = .call c ∧ c.callee = .value (.func f) ∧ resOs c.args.toList = some args := by
  unfold resOp at h
  split at h
  · cases h
  · split at h
    all_goals first
      | (rename_i c hpe; obtain ⟨h1, h2⟩ := resCall_call h; exact ⟨c, rfl, h1, h2⟩)
      | (exfalso
         revert h
         repeat' split
         all_goals first
           | (intro h; cases h; done)
           | (intro h; obtain ⟨_, _, e⟩ := Option.map_eq_some_iff.1 h; cases e))
theorem resOp_callV {op : Op} {x : Opd} {args : List Opd} (h : resOp P k op = some (.callV x args)) : ∃ c y, op = .call c ∧ c.callee = .value y ∧ resO y = some x ∧ resOs c.args.toList = some args := by
  unfold resOp at h
  split at h
  · cases h
  · split at h
    all_goals first
      | (rename_i c hpe; obtain ⟨y, h1, h2, h3⟩ := resCall_callV h; exact ⟨c, y, rfl, h1, h2, h3⟩)
      | (exfalso
         revert h
         repeat' split
         all_goals first
           | (intro h; cases h; done)
           | (intro h; obtain ⟨_, _, e⟩ := Option.map_eq_some_iff.1 h; cases e))
theorem resCall_defer {c : Call} {x : Opd} {args : List Opd} (h : resCall P k c = some (.defer x args)) : False := by
 unfold resCall at h
 revert h
 repeat' split
 all_goals first
  | (intro h; cases h; done)
  | (intro h; obtain ⟨_, _, e⟩ := Option.map_eq_some_iff.1 h; cases e)
theorem resOp_defer {op : Op} {x : Opd} {args : List Opd} (h : resOp P k op = some (.defer x args)) : ∃ c y, op = .defer c ∧ c.callee = .value y ∧ resO y = some x ∧ resOs c.args.toList = some args := by
  unfold resOp at h
  split at h
  · cases h
  · split at h
    all_goals first
      | (rename_i c hpe
         split at h
         · rename_i y hc
           split at h
           · rename_i x' l hx hl
             cases h
             exact ⟨c, y, rfl, hc, hx, hl⟩
           · cases h
         · cases h)
      | exact (resCall_defer h).elim
      | (exfalso
         revert h
         repeat' split
         all_goals first
           | (intro h; cases h; done)
           | (intro h; obtain ⟨_, _, e⟩ := Option.map_eq_some_iff.1 h; cases e))
theorem wpOp_of_step (hres : Resolves P N ops i k s) (hs : Step P w0 base r s env ds st env' ds' st') (X : Nat → Option AObj) (hX : ∀ o, X o ≠ none → st.objs o = none) (hI : Inv w0 base G (st.add X) w) (hF : RepFr G w N env ds a)
  (hfresh : ¬ G.used (r + k) ∧ r + k < st.next)
  (hK : ∀ a' w' G', Ext base G w G' w' → (∀ o, o < st.next → G'.used o → G.used o ∨ o = r + k) → Inv w0 base G' (st'.add X) w' → RepFr G' w' N env' ds' a' → K a' w') : wpOp P ops Q i K a w := by
 obtain ⟨o, ho, hop, hdst, hdN, hg⟩ := hres.ex
 have hsd : ∀ d, s.dst = some d → d < N := fun d h => hdN d (hdst ▸ h)
 unfold wpOp
 simp only [ho]
 have hwant : Wanted s env → Region.wanted o (yielded ops a.tmps) = true := by
  intro hw
  rcases hg with ⟨g1, g2⟩ | ⟨j, b, oj, d, g1, g2, g3, g4⟩
  ·simp [Region.wanted, g1]
  ·rcases hw with hw | ⟨d', b', hw, hb⟩
   ·rw [g4] at hw; cases hw
   ·rw [g4] at hw; cases hw
    simp [Region.wanted, g1, yielded_bool hF g2 g3 hb]
 cases hs with
 | skip d b h1 h2 =>
  have hnw : Region.wanted o (yielded ops a.tmps) = false := by
   rcases hg with ⟨g1, g2⟩ | ⟨j, b0, oj, d', g1, g2, g3, g4⟩
   ·rw [g2] at h1; cases h1
   ·rw [g4] at h1; cases h1
    simp [Region.wanted, g1, yielded_no hF g2 g3 h2]
  rw [hnw]
  simp only [Bool.false_eq_true, if_false]
  refine hK _ _ G (Ext.refl _ _ _) (fun _ _ h => .inl h) hI ?_
  rw [hdst]
  exact repFr_put hF hdN ⟨[], rfl, rfl⟩
 | run v _ h1 h2 =>
  rw [if_pos (hwant h1)]
  left
  obtain ⟨u, w', G', q1, q2, q3, q4, q5⟩ := step_soundP (st := st.add X) (st' := st'.add X) hI hF.env hop (step_frame X hX h2) (fun k' hk' => by rw [resolves_newP hop hk']; exact hfresh)
  have hfr : RepFr G' w' N (env.put s.dst v) ds (a.put o.dst u) := by
   rw [hdst]
   exact repFr_put (repFr_mono q2 hF) hdN q5
  have hk := hK _ _ G' q2 (fun o' _ ho' => by
   rcases q3 o' ho' with ⟨k', hk', e⟩ | h
   ·right; rw [e, resolves_newP hop hk']
   ·exact .inl h) q4 hfr
  unfold Oper.wp
  rcases q1 with q1 | ⟨q1, rfl⟩
  ·rw [q1]; exact hk
  ·rw [q1]; exact hk
 | call f args v _ h1 h2 h3 =>
  rw [if_pos (hwant h1)]
  left
  rw [h2] at hop
  obtain ⟨c, hopc, hc1, hc2⟩ := resOp_call hop
  have hx : a.eval (.func f) = .func (.func f) ⟨[]⟩ ⟨[]⟩ := rfl
  have hrun : (execOp a.eval o).run P w = .ok (.enter f ⟨c.args.toList.map a.eval⟩) w := by
   have := run_callValue (w := w) (ty := o.type) hc1 hx h3.enters
   simp only [List.nil_append, List.append_nil] at this
   simp only [execOp, hopc]
   exact this
  refine upon_call hrun (h3.calls X G w _ hX hI (ui hF.env hc2)) ?_
  rintro e w' ⟨u, G', rfl, q2, q3, q4, q5⟩
  refine ⟨u, rfl, hK _ _ G' q2 (fun o' h h' => .inl (q3 o' h h')) q4 ?_⟩
  rw [hdst]
  exact repFr_put (repFr_mono q2 hF) hdN q5
 | callV x args f first cap v _ h1 h2 h3 h4 =>
  rw [if_pos (hwant h1)]
  left
  rw [h2] at hop
  obtain ⟨c, y, hopc, hc1, hc2, hc3⟩ := resOp_callV hop
  have hx := ze hF.env hc2
  rw [h3] at hx
  obtain ⟨fv, cv, hy, hf1, hf2⟩ := hx
  have hrun : (execOp a.eval o).run P w = .ok (.enter f ⟨fv ++ c.args.toList.map a.eval ++ cv⟩) w := by
   have := run_callValue (w := w) (ty := o.type) hc1 hy h4.enters
   simp only [execOp, hopc]
   exact this
  refine upon_call hrun (h4.calls X G w _ hX hI (uj (uj hf1 (ui hF.env hc3)) hf2)) ?_
  rintro e w' ⟨u, G', rfl, q2, q3, q4, q5⟩
  refine ⟨u, rfl, hK _ _ G' q2 (fun o' h h' => .inl (q3 o' h h')) q4 ?_⟩
  rw [hdst]
  exact repFr_put (repFr_mono q2 hF) hdN q5
 | defer x args fn first cap h1 h2 h3 =>
  rw [if_pos (hwant h1)]
  left
  rw [h2] at hop
  obtain ⟨c, y, hopc, hc1, hc2, hc3⟩ := resOp_defer hop
  have hx := ze hF.env hc2
  rw [h3] at hx
  obtain ⟨fv, cv, hy, hf1, hf2⟩ := hx
  have hrun : (execOp a.eval o).run P w = .ok (.defer { target := .fn fn ⟨cv⟩, args := ⟨fv ++ c.args.toList.map a.eval⟩ }) w := by
   have e : (⟨fv⟩ ++ c.args.map a.eval : Array Value) = ⟨fv ++ c.args.toList.map a.eval⟩ := by
    apply Array.ext'
    simp
   simp only [execOp, hopc, resolve, hc1, hy, Deferred.ofValue, Sem.run_bind, Sem.run_pure, Result.andThen_ok]
   rw [e]
  unfold Oper.wp
  rw [hrun]
  show K _ _
  refine hK _ _ G (Ext.refl _ _ _) (fun _ _ h => .inl h) hI ?_
  rw [hdst]
  have hf' : RepFr G w N env ((fn, cap, first ++ args.map (·.ev env)) :: ds) { a with defers := { target := .fn fn ⟨cv⟩, args := ⟨fv ++ c.args.toList.map a.eval⟩ } :: a.defers } :=
   ⟨hF.size, hF.env, _, _, rfl, ⟨cv, _, rfl, hf2, uj hf1 (ui hF.env hc3)⟩, hF.defers⟩
  exact repFr_put hf' hdN trivial
theorem step_next (hs : Step P w0 base r s env ds st env' ds' st') (hr : r ≤ st.next) : st.next ≤ st'.next ∧ ∀ o, o < r → st.objs o = none → st'.objs o = none := by
 cases hs with
 | skip => exact ⟨Nat.le_refl _, fun _ _ h => h⟩
 | run v _ h1 h2 => obtain ⟨q1, q2⟩ := step_keep h2; exact ⟨Nat.le_of_eq q1.symm, q2⟩
 | call f args v _ h1 h2 h3 => exact ⟨h3.next, fun o ho h => h3.keep o (by omega) h⟩
 | callV x args f first cap v _ h1 h2 h3 h4 => exact ⟨h4.next, fun o ho h => h4.keep o (by omega) h⟩
 | defer => exact ⟨Nat.le_refl _, fun _ _ h => h⟩
end
end
section
def Opd.reads : Opd → List Nat
 | .tmp t => [t]
 | .lit _ => []
def oreads : Option Opd → List Nat
 | none => []
 | some x => x.reads
def PE.reads : PE → List Nat
 | .mov x | .un _ x | .nilck x | .conv _ x | .fld _ _ _ x | .fldA _ x | .ext x _ | .mkI _ x | .lenS x | .lenL x | .lenM x => x.reads
 | .pick c a b => c.reads ++ a.reads ++ b.reads
 | .bin _ _ x y | .eqs _ _ x y | .idxA _ x y | .idxArr _ _ x y | .idxS x y | .max2 x y | .min2 x y => x.reads ++ y.reads
 | .build _ ps => ps.flatMap fun p => p.2.2.reads
 | .lits _ xs => xs.flatMap Opd.reads
 | .mkF _ a b => a.flatMap Opd.reads ++ b.flatMap Opd.reads
 | .slcS x l h | .slcL _ x l h => x.reads ++ oreads l ++ oreads h
def SOp.reads : SOp → List Nat
 | .pe e => e.reads
 | .load _ _ x | .box _ x _ => x.reads
 | .store _ x v => x.reads ++ v.reads
 | .alloc _ _ _ | .mkMap _ => []
 | .append _ _ _ _ s x _ => s.reads ++ x.reads
 | .appendR _ _ _ s x _ => s.reads ++ x.reads
 | .lookup _ _ _ m k => m.reads ++ k.reads
 | .mapUpd _ m k v => m.reads ++ k.reads ++ v.reads
 | .call _ l => l.flatMap Opd.reads
 | .callV x l | .defer x l => x.reads ++ l.flatMap Opd.reads
def SOper.reads (s : SOper) : List Nat := s.op.reads ++ (match s.guard with | some (d, _) => [d] | none => [])
section
variable {env env' : Env}
theorem z7 {x : Opd} (h : ∀ t ∈ x.reads, env t = env' t) : x.ev env = x.ev env' := by
 cases x with
 | tmp t => exact h t (by simp [Opd.reads])
 | lit a => rfl
theorem evs_congr {l : List Opd} (h : ∀ t ∈ l.flatMap Opd.reads, env t = env' t) : l.map (·.ev env) = l.map (·.ev env') :=
 List.map_congr_left fun x hx => z7 fun t ht => h t (List.mem_flatMap.2 ⟨x, hx, ht⟩)
theorem bound_congr {d : Nat} {x : Option Opd} (h : ∀ t ∈ oreads x, env t = env' t) : boundA env d x = boundA env' d x := by
 cases x with
 | none => rfl
 | some x => simp only [boundA, z7 h]
theorem fillA_congr : ∀ {ps : List (Nat × Nat × Opd)} {cs : List AV}, (∀ t ∈ ps.flatMap (fun p => p.2.2.reads), env t = env' t) → fillA env cs ps = fillA env' cs ps
 | [], _, _ => rfl
 | (off, n, x) :: ps, cs, h => by
  have hx : x.ev env = x.ev env' := z7 fun t ht => h t (by simp [ht])
  simp only [fillA, hx]
  split
  ·exact fillA_congr fun t ht => h t (by simp only [List.flatMap_cons, List.mem_append]; exact .inr ht)
  ·rfl
theorem litsA_congr {n : Nat} : ∀ {xs : List Opd}, (∀ t ∈ xs.flatMap Opd.reads, env t = env' t) → litsA env n xs = litsA env' n xs
 | [], _ => rfl
 | x :: xs, h => by
  have hx : x.ev env = x.ev env' := z7 fun t ht => h t (by simp [ht])
  simp only [litsA, hx]
  rw [litsA_congr fun t ht => h t (by simp only [List.flatMap_cons, List.mem_append]; exact .inr ht)]
theorem pe_congr {e : PE} (h : ∀ t ∈ e.reads, env t = env' t) : e.eval env = e.eval env' := by
 cases e with
 | build z ps => simp only [PE.eval, fillA_congr h]
 | lits n xs => simp only [PE.eval, litsA_congr h]
 | mkF fn x y => simp only [PE.eval, evs_congr (l := x) fun t ht => h t (List.mem_append_left _ ht), evs_congr (l := y) fun t ht => h t (List.mem_append_right _ ht)]
 | slcS x l hi =>
  simp only [PE.reads, List.mem_append] at h
  simp only [PE.eval, z7 (x := x) fun t ht => h t (.inl (.inl ht)), bound_congr (x := l) fun t ht => h t (.inl (.inr ht)), bound_congr (x := hi) fun t ht => h t (.inr ht)]
 | slcL n x l hi =>
  simp only [PE.reads, List.mem_append] at h
  simp only [PE.eval, z7 (x := x) fun t ht => h t (.inl (.inl ht)), bound_congr (x := l) fun t ht => h t (.inl (.inr ht)), bound_congr (x := hi) fun t ht => h t (.inr ht)]
 | pick c x y =>
  simp only [PE.reads, List.mem_append] at h
  simp only [PE.eval, z7 (x := c) fun t ht => h t (.inl (.inl ht)), z7 (x := x) fun t ht => h t (.inl (.inr ht)), z7 (x := y) fun t ht => h t (.inr ht)]
 | bin d op x y => simp only [PE.reads, List.mem_append] at h; simp only [PE.eval, z7 (x := x) fun t ht => h t (.inl ht), z7 (x := y) fun t ht => h t (.inr ht)]
 | eqs d op x y => simp only [PE.reads, List.mem_append] at h; simp only [PE.eval, z7 (x := x) fun t ht => h t (.inl ht), z7 (x := y) fun t ht => h t (.inr ht)]
 | idxA n x y => simp only [PE.reads, List.mem_append] at h; simp only [PE.eval, z7 (x := x) fun t ht => h t (.inl ht), z7 (x := y) fun t ht => h t (.inr ht)]
 | idxArr n m x y => simp only [PE.reads, List.mem_append] at h; simp only [PE.eval, z7 (x := x) fun t ht => h t (.inl ht), z7 (x := y) fun t ht => h t (.inr ht)]
 | idxS x y => simp only [PE.reads, List.mem_append] at h; simp only [PE.eval, z7 (x := x) fun t ht => h t (.inl ht), z7 (x := y) fun t ht => h t (.inr ht)]
 | max2 x y => simp only [PE.reads, List.mem_append] at h; simp only [PE.eval, z7 (x := x) fun t ht => h t (.inl ht), z7 (x := y) fun t ht => h t (.inr ht)]
 | min2 x y => simp only [PE.reads, List.mem_append] at h; simp only [PE.eval, z7 (x := x) fun t ht => h t (.inl ht), z7 (x := y) fun t ht => h t (.inr ht)]
 | mov x => simp only [PE.eval, z7 (x := x) h]
 | un op x => simp only [PE.eval, z7 (x := x) h]
 | nilck x => simp only [PE.eval, z7 (x := x) h]
 | conv c x => simp only [PE.eval, z7 (x := x) h]
 | fld o n g x => simp only [PE.eval, z7 (x := x) h]
 | fldA o x => simp only [PE.eval, z7 (x := x) h]
 | ext x i => simp only [PE.eval, z7 (x := x) h]
 | mkI t x => simp only [PE.eval, z7 (x := x) h]
 | lenS x => simp only [PE.eval, z7 (x := x) h]
 | lenL x => simp only [PE.eval, z7 (x := x) h]
 | lenM x => simp only [PE.eval, z7 (x := x) h]
theorem step_congr {s : SOp} {r : Nat} {st : St} (h : ∀ t ∈ s.reads, env t = env' t) : s.step r env st = s.step r env' st := by
 cases s with
 | pe e => simp only [SOp.step, pe_congr (e := e) h]
 | load n g x => simp only [SOp.step, z7 (x := x) h]
 | box T x k => simp only [SOp.step, z7 (x := x) h]
 | store n x v => simp only [SOp.reads, List.mem_append] at h; simp only [SOp.step, z7 (x := x) fun t ht => h t (.inl ht), z7 (x := v) fun t ht => h t (.inr ht)]
 | alloc T z k => rfl
 | mkMap k => rfl
 | append b e n m x v k => simp only [SOp.reads, List.mem_append] at h; simp only [SOp.step, z7 (x := x) fun t ht => h t (.inl ht), z7 (x := v) fun t ht => h t (.inr ht)]
 | appendR e n m x v k => simp only [SOp.reads, List.mem_append] at h; simp only [SOp.step, z7 (x := x) fun t ht => h t (.inl ht), z7 (x := v) fun t ht => h t (.inr ht)]
 | lookup kk z ok x v => simp only [SOp.reads, List.mem_append] at h; simp only [SOp.step, z7 (x := x) fun t ht => h t (.inl ht), z7 (x := v) fun t ht => h t (.inr ht)]
 | mapUpd kk x y z =>
  simp only [SOp.reads, List.mem_append] at h
  simp only [SOp.step, z7 (x := x) fun t ht => h t (.inl (.inl ht)), z7 (x := y) fun t ht => h t (.inl (.inr ht)), z7 (x := z) fun t ht => h t (.inr ht)]
 | call f l => rfl
 | callV x l => rfl
 | defer x l => rfl
end
inductive Kd where
 | pure | read | alloc | eff | other
 deriving DecidableEq
def SOp.kd : SOp → Kd
 | .pe _ => .pure
 | .load _ _ _ | .lookup _ _ _ _ _ => .read
 | .alloc _ _ _ | .box _ _ _ | .mkMap _ => .alloc
 | .store _ _ _ | .append _ _ _ _ _ _ _ | .appendR _ _ _ _ _ _ | .mapUpd _ _ _ _ | .call _ _ | .callV _ _ => .eff
 | .defer _ _ => .other
inductive Rd where
 | part (o off n : Nat) (agg : Bool)
 | whole (o : Nat)
def Rd.id : Rd → Nat
 | .part o _ _ _ => o
 | .whole o => o
def Rd.same (s0 s1 : St) : Rd → Prop
 | .part o off n agg => (s0.data o).bind (fun cs => loadA n agg cs off) = (s1.data o).bind (fun cs => loadA n agg cs off)
 | .whole o => s0.objs o = s1.objs o
theorem Rd.same_of {s0 s1 : St} {x : Rd} (h : s0.objs x.id = s1.objs x.id) : x.same s0 s1 := by
 cases x with
 | part o off n agg => simp only [Rd.same, St.data]; rw [show s0.objs o = s1.objs o from h]
 | whole o => exact h
theorem Rd.same_symm {s0 s1 : St} {x : Rd} (h : x.same s0 s1) : x.same s1 s0 := by
 cases x <;> exact h.symm
theorem Rd.same_put {s0 s1 : St} {x : Rd} (a : Nat) (y : AObj) (h : x.same s0 s1) : x.same (s0.put a y) (s1.put a y) := by
 by_cases e : x.id = a
 ·refine Rd.same_of ?_
  rw [e]
  exact (zd _ _ _).trans (zd _ _ _).symm
 ·cases x with
  | part o off n agg =>
   have h0 : (s0.put a y).objs o = s0.objs o := zl _ _ _ _ e
   have h1 : (s1.put a y).objs o = s1.objs o := zl _ _ _ _ e
   simp only [Rd.same, St.data] at h ⊢
   rw [h0, h1]; exact h
  | whole o =>
   have h0 : (s0.put a y).objs o = s0.objs o := zl _ _ _ _ e
   have h1 : (s1.put a y).objs o = s1.objs o := zl _ _ _ _ e
   simp only [Rd.same] at h ⊢
   rw [h0, h1]; exact h
def SOp.rd (env : Env) : SOp → Option Rd
 | .load n agg x => match x.ev env with
  | .ptr o off => some (.part o off n agg)
  | _ => none
 | .lookup _ _ _ m _ => match m.ev env with
  | .map o => some (.whole o)
  | _ => none
 | _ => none
theorem rd_congr {env env' : Env} {s : SOp} (h : ∀ t ∈ s.reads, env t = env' t) : s.rd env = s.rd env' := by
 cases s with
 | load n g x => simp only [SOp.rd, z7 (x := x) h]
 | lookup kk z ok x v => simp only [SOp.reads, List.mem_append] at h; simp only [SOp.rd, z7 (x := x) fun t ht => h t (.inl ht)]
 | _ => rfl
theorem pure_step {s : SOp} (hk : s.kd = .pure) {r : Nat} {env : Env} {st st' : St} {v : AV} (h : s.step r env st = some (v, st')) : st' = st ∧ ∀ st2, s.step r env st2 = some (v, st2) := by
 cases s <;> simp [SOp.kd] at hk
 obtain ⟨v', hv, e⟩ := Option.map_eq_some_iff.1 h
 cases e
 exact ⟨rfl, fun st2 => by simp [SOp.step, hv]⟩
theorem read_step {s : SOp} (hk : s.kd = .read) {r : Nat} {env : Env} {st st' : St} {v : AV} (h : s.step r env st = some (v, st')) :
  st' = st ∧ ∀ st2 : St, (∀ o, s.rd env = some o → o.same st st2) → s.step r env st2 = some (v, st2) := by
 cases s <;> simp [SOp.kd] at hk
 ·rename_i n g x
  simp only [SOp.step] at h
  split at h
  ·rename_i cs off heq
   obtain ⟨v', hv, e⟩ := Option.map_eq_some_iff.1 h
   cases e
   exact ⟨rfl, fun st2 _ => by simp [SOp.step, heq, hv]⟩
  ·rename_i o off heq
   split at h
   ·rename_i cs hd
    obtain ⟨v', hv, e⟩ := Option.map_eq_some_iff.1 h
    cases e
    refine ⟨rfl, fun st2 h2 => ?_⟩
    have h3 := h2 _ (by simp only [SOp.rd, heq]; rfl)
    simp only [Rd.same, hd, Option.bind_some, hv] at h3
    obtain ⟨cs2, h4, h5⟩ := Option.bind_eq_some_iff.1 h3.symm
    simp [SOp.step, heq, h4, h5]
   ·cases h
  ·cases h
 ·rename_i kk z ok m key
  simp only [SOp.step] at h
  split at h
  ·rename_i heq
   split at h
   ·rename_i hs; cases h; exact ⟨rfl, fun st2 _ => by simp [SOp.step, heq, hs]⟩
   ·cases h
  ·rename_i o heq
   split at h
   ·rename_i es ho
    have key : ∀ st2 : St, (∀ o', SOp.rd env (.lookup kk z ok m key) = some o' → o'.same st st2) → st2.objs o = some (.map es) := fun st2 h2 => by rw [← (show st.objs o = st2.objs o from h2 (.whole o) (by simp [SOp.rd, heq])), ho]
    split at h
    ·rename_i hf; cases h; exact ⟨rfl, fun st2 h2 => by simp [SOp.step, heq, key st2 h2, hf]⟩
    ·rename_i hf
     split at h
     ·rename_i hs; cases h; exact ⟨rfl, fun st2 h2 => by simp [SOp.step, heq, key st2 h2, hf, hs]⟩
     ·cases h
    ·cases h
   ·cases h
  ·cases h
theorem alloc_step {P : Program} {s : SOp} (hk : s.kd = .alloc) {r i : Nat} (hi : s.new = some i) {env : Env} {st st' : St} {v : AV} (h : s.step r env st = some (v, st')) :
  ∃ x, st' = st.put (r + i) x ∧ ∀ st2 : St, s.step r env st2 = some (v, st2.put (r + i) x) := by
 cases s <;> simp [SOp.kd] at hk
 ·cases hi; cases h; exact ⟨_, rfl, fun st2 => rfl⟩
 ·cases hi
  simp only [SOp.step] at h
  split at h
  ·rename_i hs; cases h; exact ⟨_, rfl, fun st2 => by simp only [SOp.step]; rw [if_pos hs]⟩
  ·cases h
 ·cases hi; cases h; exact ⟨_, rfl, fun st2 => rfl⟩
def one (k : Nat) (x : AObj) : Nat → Option AObj := fun o => if o = k then some x else none
theorem add_one {st : St} {k : Nat} {x : AObj} (h : st.objs k = none) : st.add (one k x) = st.put k x := by
 unfold St.add St.put
 congr 1
 funext o
 by_cases e : o = k
 ·subst e; simp [h, one, zd]
 ·cases ho : st.objs o <;> simp [ho, one, e, zl]
theorem stadd_add {st : St} {X Y : Nat → Option AObj} : (st.add X).add Y = st.add (fun o => match X o with | some x => some x | none => Y o) := by
 unfold St.add
 congr 1
 funext o
 simp only
 cases st.objs o <;> rfl
theorem det_add {P : Program} {w0 : World} {base : Nat} {f : FuncId} {args : List AV} {st st' : St} {r : AV} (h : Det P w0 base f args st r st') (X : Nat → Option AObj) (hX : ∀ o, X o ≠ none → st.objs o = none) :
  Det P w0 base f args (st.add X) r (st'.add X) where
 enters := h.enters
 next := h.next
 keep := fun o ho hn => by
  simp only [St.add] at hn ⊢
  split at hn
  ·cases hn
  ·rename_i hs
   rw [h.keep o ho hs]
   exact hn
 calls := fun Y G w vs hY hI hR => by
  rw [stadd_add] at hI
  refine (h.calls _ G w vs (fun o ho => ?_) hI hR).mono ?_
  ·by_cases hx : X o = none
   ·rw [hx] at ho
    have := hY o ho
    simp only [St.add] at this
    split at this
    ·cases this
    ·assumption
   ·exact hX o hx
  ·rintro e w' ⟨v, G', q1, q2, q3, q4, q5⟩
   exact ⟨v, G', q1, q2, q3, by rw [stadd_add]; exact q4, q5⟩
end
section
structure Side (r : Nat) (ss : List SOper) (un : Nat → Nat → Bool) (rds : Nat → Option Rd) (i : Nat) (s : SOper) (env : Env) (st st' : St) : Prop where
 read : s.op.kd = .read → Wanted s env → s.op.rd env = rds i
 apart : s.op.kd = .read → ∀ q sq, ss[q]? = some sq → sq.op.kd = .alloc → un i q = true → ∀ x, rds i = some x → x.id ≠ r + q
 alloc : s.op.kd = .alloc → st.objs (r + i) = none
 effA : s.op.kd = .eff → ∀ q sq, ss[q]? = some sq → sq.op.kd = .alloc → un i q = true → st.objs (r + q) = st'.objs (r + q)
 effR : s.op.kd = .eff → ∀ q sq, ss[q]? = some sq → sq.op.kd = .read → un i q = true → ∀ o, rds q = some o → o.same st st'
def Apart (s t : SOper) : Prop := (∀ d, s.dst = some d → d ∉ t.reads ∧ t.dst ≠ some d) ∧ (∀ d, t.dst = some d → d ∉ s.reads)
def mayPass : Kd → Kd → Bool
 | .other, _ | _, .other => false
 | .eff, .eff | .alloc, .eff | .alloc, .read => false
 | _, _ => true
section
variable {P : Program} {w0 : World} {base r : Nat} {ss : List SOper} {un : Nat → Nat → Bool} {rds : Nat → Option Rd} {env env1 env2 : Env} {ds : List ADef} {st st1 st2 : St} {i j : Nat} {si sj : SOper}
theorem put_reads {env : Env} {d : Option Nat} {v : AV} {l : List Nat} (h : ∀ d', d = some d' → d' ∉ l) : ∀ t ∈ l, (env.put d v) t = env t := by
 intro t ht
 cases d with
 | none => rfl
 | some d' =>
  have : t ≠ d' := fun e => h d' rfl (e ▸ ht)
  exact if_neg this
theorem put_comm {env : Env} {d e : Option Nat} {v u : AV} (h : ∀ d', d = some d' → e ≠ some d') : (env.put d v).put e u = (env.put e u).put d v := by
 cases d with
 | none => rfl
 | some d =>
  cases e with
  | none => rfl
  | some e =>
   have hne : e ≠ d := fun x => h d rfl (x ▸ rfl)
   funext t
   simp only [Env.put, Env.set]
   by_cases h1 : t = e
   ·subst h1; simp [hne]
   ·simp [h1]
theorem ud {s : SOper} {env env' : Env} (h : ∀ t ∈ s.reads, env t = env' t) (hw : Wanted s env) : Wanted s env' := by
 rcases hw with hw | ⟨d, b, hw, hb⟩
 ·exact .inl hw
 ·exact .inr ⟨d, b, hw, by rw [← h d (by simp [SOper.reads, hw])]; exact hb⟩
inductive Does (P : Program) (w0 : World) (base r : Nat) (s : SOper) (env : Env) (st : St) : AV → St → Prop
 | skip (d : Nat) (b : Bool) (h1 : s.guard = some (d, b)) (h2 : noB (env d) b = true) : Does P w0 base r s env st (.tuple []) st
 | run (v : AV) (st' : St) (h1 : Wanted s env) (h2 : s.op.step r env st = some (v, st')) : Does P w0 base r s env st v st'
 | call (f : FuncId) (args : List Opd) (v : AV) (st' : St) (h1 : Wanted s env) (h2 : s.op = .call f args) (h3 : Det P w0 base f (args.map (·.ev env)) st v st') : Does P w0 base r s env st v st'
 | callV (x : Opd) (args : List Opd) (f : FuncId) (first cap : List AV) (v : AV) (st' : St) (h1 : Wanted s env) (h2 : s.op = .callV x args) (h3 : x.ev env = .func (.func f) first cap)
   (h4 : Det P w0 base f (first ++ args.map (·.ev env) ++ cap) st v st') : Does P w0 base r s env st v st'
theorem does_step {s : SOper} {v : AV} {st' : St} (h : Does P w0 base r s env st v st') : Step P w0 base r s env ds st (env.put s.dst v) ds st' := by
 cases h with
 | skip d b h1 h2 => exact .skip d b h1 h2
 | run _ _ h1 h2 => exact .run _ _ h1 h2
 | call f args _ _ h1 h2 h3 => exact .call f args _ _ h1 h2 h3
 | callV x args f first cap _ _ h1 h2 h3 h4 => exact .callV x args f first cap _ _ h1 h2 h3 h4
theorem xe {s : SOper} {v : AV} {st' : St} {env' : Env} (h : ∀ t ∈ s.reads, env t = env' t) (hd : Does P w0 base r s env st v st') : Does P w0 base r s env' st v st' := by
 have ho : ∀ t ∈ s.op.reads, env t = env' t := fun t ht => h t (List.mem_append_left _ ht)
 cases hd with
 | skip d b h1 h2 => exact .skip d b h1 (by rw [← h d (by simp [SOper.reads, h1])]; exact h2)
 | run _ _ h1 h2 => exact .run _ _ (ud h h1) (by rw [← step_congr ho]; exact h2)
 | call f args _ _ h1 h2 h3 =>
  rw [h2] at ho
  exact .call f args _ _ (ud h h1) h2 (by rw [← evs_congr ho]; exact h3)
 | callV x args f first cap _ _ h1 h2 h3 h4 =>
  rw [h2] at ho
  exact .callV x args f first cap _ _ (ud h h1) h2 (by rw [← z7 fun t ht => ho t (List.mem_append_left _ ht)]; exact h3) (by rw [← evs_congr fun t ht => ho t (List.mem_append_right _ ht)]; exact h4)
theorem does_pure {s : SOper} {v : AV} {st' : St} (hk : s.op.kd = .pure) (h : Does P w0 base r s env st v st') : st' = st ∧ ∀ st2, Does P w0 base r s env st2 v st2 := by
 cases h with
 | skip d b h1 h2 => exact ⟨rfl, fun st2 => .skip d b h1 h2⟩
 | run _ _ h1 h2 => obtain ⟨e, h3⟩ := pure_step hk h2; exact ⟨e, fun st2 => .run _ _ h1 (h3 st2)⟩
 | call f args _ _ h1 h2 h3 => rw [h2] at hk; cases hk
 | callV x args f first cap _ _ h1 h2 h3 h4 => rw [h2] at hk; cases hk
theorem does_read {s : SOper} {v : AV} {st' : St} (hk : s.op.kd = .read) (h : Does P w0 base r s env st v st') : st' = st ∧ ∀ st2 : St, (Wanted s env → ∀ o, s.op.rd env = some o → o.same st st2) → Does P w0 base r s env st2 v st2 := by
 cases h with
 | skip d b h1 h2 => exact ⟨rfl, fun st2 _ => .skip d b h1 h2⟩
 | run _ _ h1 h2 => obtain ⟨e, h3⟩ := read_step hk h2; exact ⟨e, fun st2 h4 => .run _ _ h1 (h3 st2 (h4 h1))⟩
 | call f args _ _ h1 h2 h3 => rw [h2] at hk; cases hk
 | callV x args f first cap _ _ h1 h2 h3 h4 => rw [h2] at hk; cases hk
theorem does_alloc {s : SOper} {v : AV} {st' : St} (hk : s.op.kd = .alloc) (hi : s.op.new = some i) (h : Does P w0 base r s env st v st') :
  (st' = st ∧ ∀ st2, Does P w0 base r s env st2 v st2) ∨ ∃ x, st' = st.put (r + i) x ∧ ∀ st2 : St, Does P w0 base r s env st2 v (st2.put (r + i) x) := by
 cases h with
 | skip d b h1 h2 => exact .inl ⟨rfl, fun st2 => .skip d b h1 h2⟩
 | run _ _ h1 h2 => obtain ⟨x, e, h3⟩ := alloc_step (P := P) hk hi h2; exact .inr ⟨x, e, fun st2 => .run _ _ h1 (h3 st2)⟩
 | call f args _ _ h1 h2 h3 => rw [h2] at hk; cases hk
 | callV x args f first cap _ _ h1 h2 h3 h4 => rw [h2] at hk; cases hk
theorem does_add {s : SOper} {v : AV} {st' : St} {k : Nat} {x : AObj} (h : Does P w0 base r s env st v st') (h1 : st.objs k = none) (h2 : st'.objs k = none) : Does P w0 base r s env (st.put k x) v (st'.put k x) := by
 rw [← add_one h1, ← add_one h2]
 have hX : ∀ o, one k x o ≠ none → st.objs o = none := by
  intro o ho
  by_cases e : o = k
  ·subst e; exact h1
  ·exact absurd (if_neg e) ho
 cases h with
 | skip d b g1 g2 => exact .skip d b g1 g2
 | run _ _ g1 g2 => exact .run _ _ g1 (step_frame _ hX g2)
 | call f args _ _ g1 g2 g3 => exact .call f args _ _ g1 g2 (det_add g3 _ hX)
 | callV y args f first cap _ _ g1 g2 g3 g4 => exact .callV y args f first cap _ _ g1 g2 g3 (det_add g4 _ hX)
theorem put_put_comm {st : St} {a b : Nat} {x y : AObj} (h : a ≠ b) : (st.put a x).put b y = (st.put b y).put a x := by
 unfold St.put
 congr 1
 funext o
 simp only [upd]
 by_cases h1 : o = b
 ·subst h1; simp [Ne.symm h]
 ·simp [h1]
theorem vq {st : St} {a o : Nat} {x : AObj} (h : o ≠ a) : (st.put a x).objs o = st.objs o := zl _ _ _ _ h
theorem put_objs_same {st : St} {a : Nat} {x : AObj} : (st.put a x).objs a = some x := zd _ _ _
theorem swap_does (hij : i ≠ j) (hsi : ss[i]? = some si) (hsj : ss[j]? = some sj) (hni : si.op.kd = .alloc → si.op.new = some i) (hnj : sj.op.kd = .alloc → sj.op.new = some j)
  (hap : Apart sj si) (hmay : mayPass sj.op.kd si.op.kd = true) (hu1 : un i j = true) (hu2 : un j i = true) {vj vi : AV}
  (h1 : Does P w0 base r sj env st vj st1) (s1 : Side r ss un rds j sj env st st1) (h2 : Does P w0 base r si (env.put sj.dst vj) st1 vi st2) (s2 : Side r ss un rds i si (env.put sj.dst vj) st1 st2) :
  ∃ st1', Does P w0 base r si env st vi st1' ∧ Side r ss un rds i si env st st1' ∧ Does P w0 base r sj (env.put si.dst vi) st1' vj st2 ∧ Side r ss un rds j sj (env.put si.dst vi) st1' st2 ∧
   (env.put sj.dst vj).put si.dst vi = (env.put si.dst vi).put sj.dst vj := by
 have c1 : ∀ t ∈ si.reads, (env.put sj.dst vj) t = env t := put_reads fun d hd => (hap.1 d hd).1
 have c2 : ∀ t ∈ sj.reads, env t = (env.put si.dst vi) t := fun t ht => (put_reads (v := vi) (env := env) (fun d hd => hap.2 d hd) t ht).symm
 have hcomm : (env.put sj.dst vj).put si.dst vi = (env.put si.dst vi).put sj.dst vj := put_comm fun d hd => (hap.1 d hd).2
 have h2' := xe c1 h2
 have wi : Wanted si env → Wanted si (env.put sj.dst vj) := ud fun t ht => (c1 t ht).symm
 have wj : Wanted sj (env.put si.dst vi) → Wanted sj env := ud fun t ht => (c2 t ht).symm
 have ri : si.op.rd (env.put sj.dst vj) = si.op.rd env := rd_congr fun t ht => c1 t (List.mem_append_left _ ht)
 have rj : sj.op.rd env = sj.op.rd (env.put si.dst vi) := rd_congr fun t ht => c2 t (List.mem_append_left _ ht)
 have readI : si.op.kd = .read → Wanted si env → si.op.rd env = rds i := fun hk hw => by rw [← ri]; exact s2.read hk (wi hw)
 have readJ : sj.op.kd = .read → Wanted sj (env.put si.dst vi) → sj.op.rd (env.put si.dst vi) = rds j := fun hk hw => by rw [← rj]; exact s1.read hk (wj hw)
 have hne : r + i ≠ r + j := by omega
 cases hkj : sj.op.kd with
 | other => rw [hkj] at hmay; cases hmay
 | pure =>
  obtain ⟨rfl, hj⟩ := does_pure hkj h1
  exact ⟨st2, h2', ⟨readI, s2.apart, s2.alloc, s2.effA, s2.effR⟩, xe c2 (hj st2), ⟨readJ, s1.apart, (fun h => by rw [hkj] at h; cases h), (fun h => by rw [hkj] at h; cases h), (fun h => by rw [hkj] at h; cases h)⟩, hcomm⟩
 | read =>
  obtain ⟨rfl, hj⟩ := does_read hkj h1
  refine ⟨st2, h2', ⟨readI, s2.apart, s2.alloc, s2.effA, s2.effR⟩, xe c2 (hj st2 fun hw o ho => ?_), ⟨readJ, s1.apart, (fun h => by rw [hkj] at h; cases h), (fun h => by rw [hkj] at h; cases h), (fun h => by rw [hkj] at h; cases h)⟩, hcomm⟩
  have ho' : rds j = some o := by rw [← s1.read hkj hw]; exact ho
  cases hki : si.op.kd with
  | other => rw [hki, hkj] at hmay; cases hmay
  | pure => obtain ⟨rfl, _⟩ := does_pure hki h2'; exact Rd.same_of rfl
  | read => obtain ⟨rfl, _⟩ := does_read hki h2'; exact Rd.same_of rfl
  | alloc =>
   rcases does_alloc hki (hni hki) h2' with ⟨rfl, _⟩ | ⟨x, rfl, _⟩
   ·exact Rd.same_of rfl
   ·have := s1.apart hkj i si hsi hki hu2
    exact Rd.same_symm (Rd.same_of (vq fun e => this _ ho' e))
  | eff => exact s2.effR hki j sj hsj hkj hu1 o ho'
 | alloc =>
  have hnone := s1.alloc hkj
  rcases does_alloc hkj (hnj hkj) h1 with ⟨rfl, hj⟩ | ⟨x, rfl, hj⟩
  ·refine ⟨st2, h2', ⟨readI, s2.apart, s2.alloc, s2.effA, s2.effR⟩, xe c2 (hj st2), ⟨readJ, (fun h => by rw [hkj] at h; cases h), fun _ => ?_, (fun h => by rw [hkj] at h; cases h), (fun h => by rw [hkj] at h; cases h)⟩, hcomm⟩
   cases hki : si.op.kd with
   | other => rw [hki, hkj] at hmay; cases hmay
   | pure => obtain ⟨rfl, _⟩ := does_pure hki h2'; exact hnone
   | read => obtain ⟨rfl, _⟩ := does_read hki h2'; exact hnone
   | alloc =>
    rcases does_alloc hki (hni hki) h2' with ⟨rfl, _⟩ | ⟨y, rfl, _⟩
    ·exact hnone
    ·rw [vq hne.symm]; exact hnone
   | eff => rw [hki, hkj] at hmay; cases hmay
  ·cases hki : si.op.kd with
   | other => rw [hki, hkj] at hmay; cases hmay
   | pure =>
    obtain ⟨rfl, hi⟩ := does_pure hki h2'
    exact ⟨st, hi st, ⟨readI, (fun h => by rw [hki] at h; cases h), (fun h => by rw [hki] at h; cases h), (fun h => by rw [hki] at h; cases h), (fun h => by rw [hki] at h; cases h)⟩, xe c2 (hj st), ⟨readJ, (fun h => by rw [hkj] at h; cases h), fun _ => hnone, (fun h => by rw [hkj] at h; cases h), (fun h => by rw [hkj] at h; cases h)⟩, hcomm⟩
   | read =>
    obtain ⟨rfl, hi⟩ := does_read hki h2'
    refine ⟨st, hi st fun hw o ho => ?_, ⟨readI, s2.apart, (fun h => by rw [hki] at h; cases h), (fun h => by rw [hki] at h; cases h), (fun h => by rw [hki] at h; cases h)⟩, xe c2 (hj st), ⟨readJ, (fun h => by rw [hkj] at h; cases h), fun _ => hnone, (fun h => by rw [hkj] at h; cases h), (fun h => by rw [hkj] at h; cases h)⟩, hcomm⟩
    have ho' : rds i = some o := by rw [← readI hki hw]; exact ho
    have := s2.apart hki j sj hsj hkj hu1
    exact Rd.same_of (vq fun e => this _ ho' e)
   | alloc =>
    have hnone2 := s2.alloc hki
    rw [vq hne] at hnone2
    rcases does_alloc hki (hni hki) h2' with ⟨rfl, hi⟩ | ⟨y, rfl, hi⟩
    ·exact ⟨st, hi st, ⟨readI, s2.apart, fun _ => hnone2, (fun h => by rw [hki] at h; cases h), (fun h => by rw [hki] at h; cases h)⟩, xe c2 (hj st), ⟨readJ, s1.apart, fun _ => hnone, (fun h => by rw [hkj] at h; cases h), (fun h => by rw [hkj] at h; cases h)⟩, hcomm⟩
    ·refine ⟨st.put (r + i) y, hi st, ⟨readI, s2.apart, fun _ => hnone2, (fun h => by rw [hki] at h; cases h), (fun h => by rw [hki] at h; cases h)⟩, ?_, ⟨readJ, s1.apart, fun _ => by rw [vq hne.symm]; exact hnone, (fun h => by rw [hkj] at h; cases h), (fun h => by rw [hkj] at h; cases h)⟩, hcomm⟩
     rw [put_put_comm hne.symm]
     exact xe c2 (hj _)
   | eff => rw [hki, hkj] at hmay; cases hmay
 | eff =>
  cases hki : si.op.kd with
  | other => rw [hki, hkj] at hmay; cases hmay
  | eff => rw [hki, hkj] at hmay; cases hmay
  | pure =>
   obtain ⟨rfl, hi⟩ := does_pure hki h2'
   exact ⟨st, hi st, ⟨readI, (fun h => by rw [hki] at h; cases h), (fun h => by rw [hki] at h; cases h), (fun h => by rw [hki] at h; cases h), (fun h => by rw [hki] at h; cases h)⟩, xe c2 h1, ⟨readJ, (fun h => by rw [hkj] at h; cases h), (fun h => by rw [hkj] at h; cases h), s1.effA, s1.effR⟩, hcomm⟩
  | read =>
   obtain ⟨rfl, hi⟩ := does_read hki h2'
   refine ⟨st, hi st fun hw o ho => ?_, ⟨readI, s2.apart, (fun h => by rw [hki] at h; cases h), (fun h => by rw [hki] at h; cases h), (fun h => by rw [hki] at h; cases h)⟩, xe c2 h1, ⟨readJ, (fun h => by rw [hkj] at h; cases h), (fun h => by rw [hkj] at h; cases h), s1.effA, s1.effR⟩, hcomm⟩
   have ho' : rds i = some o := by rw [← readI hki hw]; exact ho
   exact Rd.same_symm (s1.effR hkj i si hsi hki hu2 o ho')
  | alloc =>
   have hnone1 := s2.alloc hki
   have hnone : st.objs (r + i) = none := (s1.effA hkj i si hsi hki hu2).trans hnone1
   rcases does_alloc hki (hni hki) h2' with ⟨rfl, hi⟩ | ⟨y, rfl, hi⟩
   ·exact ⟨st, hi st, ⟨readI, s2.apart, fun _ => hnone, (fun h => by rw [hki] at h; cases h), (fun h => by rw [hki] at h; cases h)⟩, xe c2 h1, ⟨readJ, (fun h => by rw [hkj] at h; cases h), (fun h => by rw [hkj] at h; cases h), s1.effA, s1.effR⟩, hcomm⟩
   ·refine ⟨st.put (r + i) y, hi st, ⟨readI, s2.apart, fun _ => hnone, (fun h => by rw [hki] at h; cases h), (fun h => by rw [hki] at h; cases h)⟩, xe c2 (does_add h1 hnone hnone1), ⟨readJ, (fun h => by rw [hkj] at h; cases h), (fun h => by rw [hkj] at h; cases h), ?_, ?_⟩, hcomm⟩
    ·intro hk q sq hsq hkq huq
     by_cases e : r + q = r + i
     ·rw [e, put_objs_same, put_objs_same]
     ·rw [vq e, vq e]; exact s1.effA hk q sq hsq hkq huq
    ·intro hk q sq hsq hkq huq o ho
     exact Rd.same_put _ _ (s1.effR hk q sq hsq hkq huq o ho)
end
end
section
inductive RunD (P : Program) (w0 : World) (base r : Nat) (ss : List SOper) (un : Nat → Nat → Bool) (rds : Nat → Option Rd) : List Nat → Env → St → Env → St → Prop
 | nil (env : Env) (st : St) : RunD P w0 base r ss un rds [] env st env st
 | cons (i : Nat) (l : List Nat) (s : SOper) (v : AV) (env env' : Env) (st st1 st' : St) (h1 : ss[i]? = some s) (h2 : Does P w0 base r s env st v st1) (h3 : Side r ss un rds i s env st st1)
   (h4 : RunD P w0 base r ss un rds l (env.put s.dst v) st1 env' st') : RunD P w0 base r ss un rds (i :: l) env st env' st'
def Direct (ops : Array Oper) (p i : Nat) : Prop := ∃ o e, ops[i]? = some o ∧ e ∈ o.after ∧ Region.binds .any e = true ∧ e.on = p
inductive TC (ops : Array Oper) : Nat → Nat → Prop
 | one {p i : Nat} (h : Direct ops p i) : TC ops p i
 | more {p q i : Nat} (h : TC ops p q) (h' : Direct ops q i) : TC ops p i
structure PairOK (ss : List SOper) (un : Nat → Nat → Bool) (j i : Nat) : Prop where
 ne : i ≠ j
 un1 : un i j = true
 un2 : un j i = true
 ex : ∃ si sj, ss[i]? = some si ∧ ss[j]? = some sj ∧ Apart sj si ∧ mayPass sj.op.kd si.op.kd = true
section
variable {P : Program} {w0 : World} {base r : Nat} {ss : List SOper} {un : Nat → Nat → Bool} {rds : Nat → Option Rd} {ops : Array Oper} {N : Nat} {Q : Exit → Act → World → Prop}
theorem bring_front (hn : ∀ (i : Nat) (s : SOper), ss[i]? = some s → s.op.kd = .alloc → s.op.new = some i) {i : Nat} {l2 : List Nat} {env' : Env} {st' : St} : ∀ (l1 : List Nat) (env : Env) (st : St), (∀ j ∈ l1, PairOK ss un j i) →
  RunD P w0 base r ss un rds (l1 ++ i :: l2) env st env' st' → RunD P w0 base r ss un rds (i :: (l1 ++ l2)) env st env' st'
 | [], env, st, _, h => h
 | j :: l1, env, st, hp, h => by
  cases h with
  | cons _ _ sj vj _ _ _ st1 _ a1 a2 a3 a4 =>
   have ih := bring_front hn l1 _ _ (fun j' hj' => hp j' (by simp [hj'])) a4
   cases ih with
   | cons _ _ si vi _ _ _ st2 _ b1 b2 b3 b4 =>
    obtain ⟨hne, hu1, hu2, si', sj', e1, e2, hap, hmay⟩ := hp j (by simp)
    rw [b1] at e1; cases e1
    rw [a1] at e2; cases e2
    obtain ⟨st1', c1, c2, c3, c4, c5⟩ := swap_does hne b1 a1 (hn i si b1) (hn j sj a1) hap hmay hu1 hu2 a2 a3 b2 b3
    rw [c5] at b4
    exact .cons i _ si vi env env' st st1' st' b1 c1 c2 (.cons j _ sj vj _ env' st1' st2 st' a1 c3 c4 b4)
theorem tc_listed {listed : Array Bool} (hdown : ∀ x p, listed.getD x false = true → Direct ops p x → listed.getD p false = true) {i : Nat} (hi : ∀ p, Direct ops p i → listed.getD p false = true) : ∀ {j}, TC ops j i → listed.getD j false = true := by
 have key : ∀ j x, TC ops j x → (∀ p, Direct ops p x → listed.getD p false = true) → listed.getD j false = true := by
  intro j x h
  induction h with
  | one h => exact fun hx => hx _ h
  | more h h' ih => exact fun hx => ih fun p hp => hdown _ p (hx _ h') hp
 exact fun {j} h => key j i h hi
theorem wpAny_run (hres : ∀ (i : Nat) (s : SOper), ss[i]? = some s → Resolves P N ops i i s) (hn : ∀ (i : Nat) (s : SOper), ss[i]? = some s → s.op.kd = .alloc → s.op.new = some i) (hlen : ss.length = ops.size) {env' : Env} {st' : St} {ds : List ADef} (X : Nat → Option AObj) :
  ∀ (n : Nat) (l : List Nat) (listed : Array Bool) (env : Env) (st : St) (a : Act) (w : World) (G : Gh), l.length = n → RunD P w0 base r ss un rds l env st env' st' → listed.size = ops.size → (∀ i, i ∈ l ↔ i < ops.size ∧ listed.getD i true = false) → l.Nodup →
   l.Pairwise (fun j i => TC ops j i ∨ PairOK ss un j i) → (∀ l1 i l2, l = l1 ++ i :: l2 → ∀ p, Direct ops p i → listed.getD p false = true ∨ p ∈ l1) → (∀ x p, listed.getD x false = true → Direct ops p x → listed.getD p false = true) →
   r + ss.length ≤ st.next → (∀ o, X o ≠ none → o < r ∧ st.objs o = none) → (∀ i ∈ l, ¬ G.used (r + i)) → Inv w0 base G (st.add X) w → RepFr G w N env ds a →
   (∀ a' w' G', Ext base G w G' w' → (∀ o, o < r → G'.used o → G.used o) → Inv w0 base G' (st'.add X) w' → RepFr G' w' N env' ds a' → Q .normal a' w') → wpAny P .any ops Q n listed a w := by
 intro n
 induction n with
 | zero =>
  intro l listed env st a w G hl hrun hsz hmem hnd hpair hval hdown hr hX hfr hI hF hQ
  have : l = [] := List.eq_nil_of_length_eq_zero hl
  subst this
  cases hrun
  refine ⟨?_, hQ a w G (Ext.refl _ _ _) (fun _ _ h => h) hI hF⟩
  rw [List.eq_nil_iff_forall_not_mem]
  intro x hx
  rw [mem_ready] at hx
  obtain ⟨h0, o, ho, _⟩ := hx
  exact absurd ((hmem x).2 ⟨(Array.getElem?_eq_some_iff.1 ho).1, h0⟩) (by simp)
 | succ n ih =>
  intro l listed env st a w G hl hrun hsz hmem hnd hpair hval hdown hr hX hfr hI hF hQ
  refine ⟨fun hnil => ?_, fun i hi => ?_⟩
  ·cases l with
   | nil => cases hl
   | cons x l =>
    exfalso
    have hx := (hmem x).1 (by simp)
    have : x ∈ Region.ready .any ops listed := by
     rw [mem_ready]
     refine ⟨hx.2, ops[x], by simp [hx.1], fun e he hb => ?_⟩
     rcases hval [] x l rfl e.on ⟨ops[x], e, by simp [hx.1], he, hb, rfl⟩ with h | h
     ·exact h
     ·cases h
    rw [hnil] at this
    cases this
  ·rw [mem_ready] at hi
   obtain ⟨h0, o, ho, hpre⟩ := hi
   have hlt : i < ops.size := (Array.getElem?_eq_some_iff.1 ho).1
   have hil : i ∈ l := (hmem i).2 ⟨hlt, h0⟩
   obtain ⟨l1, l2, rfl⟩ := List.append_of_mem hil
   have hdir : ∀ p, Direct ops p i → listed.getD p false = true := by
    rintro p ⟨o', e, ho', he, hb, rfl⟩
    rw [ho] at ho'; cases ho'
    exact hpre e he hb
   have hunl : ∀ j ∈ l1, listed.getD j true = false := fun j hj => ((hmem j).1 (by simp [hj])).2
   have hpl1 : ∀ j ∈ l1, PairOK ss un j i := by
    intro j hj
    have := (List.pairwise_append.1 hpair).2.2 j hj i (by simp)
    rcases this with h | h
    ·have h1 := tc_listed hdown hdir h
     have h2 := hunl j hj
     rw [Array.getD_eq_getD_getElem?] at h1 h2
     cases hq : listed[j]? <;> simp [hq] at h1 h2
     rw [h1] at h2; cases h2
    ·exact h
   have hrun' := bring_front hn l1 env st hpl1 hrun
   cases hrun' with
   | cons _ _ s v _ _ _ st1 _ b1 b2 b3 b4 =>
    have hsn : i < ss.length := by omega
    have hni : i ∉ l1 ++ l2 := by
     have := hnd
     rw [List.nodup_append] at this
     obtain ⟨_, h2, h3⟩ := this
     rw [List.nodup_cons] at h2
     intro hm
     rcases List.mem_append.1 hm with hm | hm
     ·exact h3 i hm i (by simp) rfl
     ·exact h2.1 hm
    refine wpOp_of_step (hres i s b1) (does_step (ds := ds) b2) X (fun o ho => (hX o ho).2) hI hF ⟨hfr i hil, by omega⟩ ?_
    intro a' w' G' he hu hI' hF'
    obtain ⟨hnx, hkeep⟩ := step_next (does_step (ds := ds) b2) (by omega)
    refine ih (l1 ++ l2) (listed.setIfInBounds i true) _ st1 a' w' G' (by simp at hl ⊢; omega) b4 (by simp [hsz]) (fun x => ?_) ?_ ?_ ?_ ?_ (by omega) (fun o ho => ⟨(hX o ho).1, hkeep o (hX o ho).1 (hX o ho).2⟩) ?_ hI' hF' ?_
    ·constructor
     ·intro hx
      have hxi : i ≠ x := fun e => hni (e ▸ hx)
      have := (hmem x).1 (by rcases List.mem_append.1 hx with h | h <;> simp [h])
      exact ⟨this.1, by rw [getD_set_ne true hxi]; exact this.2⟩
     ·rintro ⟨hx1, hx2⟩
      have hxi : i ≠ x := by
       rintro rfl
       simp [hsz, hlt] at hx2
      rw [getD_set_ne true hxi] at hx2
      have := (hmem x).2 ⟨hx1, hx2⟩
      rcases List.mem_append.1 this with h | h
      ·simp [h]
      ·rcases List.mem_cons.1 h with rfl | h
       ·exact absurd rfl hxi
       ·simp [h]
    ·exact hnd.sublist (List.Sublist.append (List.Sublist.refl _) (List.sublist_cons_self _ _))
    ·exact hpair.sublist (List.Sublist.append (List.Sublist.refl _) (List.sublist_cons_self _ _))
    ·intro m1 x m2 hm p hp
     rcases List.append_eq_append_iff.1 hm with ⟨c, hc1, hc2⟩ | ⟨c, hc1, hc2⟩
     ·-- x lies in l2 (or begins there)
      subst hc1
      rcases hval (l1 ++ i :: c) x m2 (by rw [hc2]; simp) p hp with h | h
      ·exact .inl (getD_set_true h)
      ·rcases List.mem_append.1 h with h | h
       ·right; simp [h]
       ·rcases List.mem_cons.1 h with rfl | h
        ·left; simp [hsz, hlt]
        ·right; simp [h]
     ·cases c with
      | nil =>
       simp only [List.nil_append] at hc2
       simp only [List.append_nil] at hc1
       subst hc1
       rcases hval (l1 ++ [i]) x m2 (by rw [← hc2]; simp) p hp with h | h
       ·exact .inl (getD_set_true h)
       ·rcases List.mem_append.1 h with h | h
        ·exact .inr h
        ·simp at h; subst h; left; simp [hsz, hlt]
      | cons y c =>
       simp only [List.cons_append, List.cons.injEq] at hc2
       obtain ⟨rfl, rfl⟩ := hc2
       subst hc1
       rcases hval m1 x (c ++ i :: l2) (by simp) p hp with h | h
       ·exact .inl (getD_set_true h)
       ·exact .inr h
    ·intro x p hx hp
     by_cases e : i = x
     ·subst e; exact getD_set_true (hdir p hp)
     ·rw [getD_set_ne false e] at hx
      exact getD_set_true (hdown x p hx hp)
    ·intro j hj hu'
     have hji : i ≠ j := fun e => hni (e ▸ hj)
     have hjl : j ∈ l1 ++ i :: l2 := by rcases List.mem_append.1 hj with h | h <;> simp [h]
     have hjs : j < ops.size := ((hmem j).1 hjl).1
     rcases hu (r + j) (by omega) hu' with h | h
     ·exact hfr j hjl h
     ·omega
    ·intro a2 w2 G2 he2 hu2 hI2 hF2
     refine hQ a2 w2 G2 (he.trans he2) (fun o ho hq => ?_) hI2 hF2
     rcases hu o (by omega) (hu2 o ho hq) with h | h
     ·exact h
     ·omega
end
end
section
def resGuard (N : Nat) (ops : Array Oper) (o : Oper) : Option (Option (Nat × Bool)) := match o.guard with
 | none => some none
 | some (j, b) => match ops[j]? with
  | some oj => match oj.dst with
   | some d => some (some (d, b))
   | none => none
  | none => none
def dstOk (N : Nat) : Option Nat → Bool
 | none => true
 | some d => decide (d < N)
def resList (P : Program) (N : Nat) (ops : Array Oper) : Nat → List Oper → Option (List SOper)
 | _, [] => some []
 | i, o :: rest => match resOp P i o.op, resGuard N ops o, dstOk N o.dst, resList P N ops (i + 1) rest with
  | some op, some g, true, some r => some (⟨o.dst, g, op⟩ :: r)
  | _, _, _, _ => none
def maskOf (ms : List Nat) (o : Oper) : Nat := o.after.toList.foldl (fun s e => if Region.binds .any e then s ||| 2 ^ e.on ||| ms.getD e.on 0 else s) 0
def masks : List Oper → List Nat → List Nat
 | [], acc => acc
 | o :: os, acc => masks os (acc ++ [maskOf acc o])
def depB (ms : List Nat) (j i : Nat) : Bool := (ms.getD i 0).testBit j
def unB (ms : List Nat) (i j : Nat) : Bool := !depB ms j i && !depB ms i j && i != j
def apartB (s t : SOper) : Bool :=
 (match s.dst with | some d => !t.reads.contains d && t.dst != some d | none => true) && (match t.dst with | some d => !s.reads.contains d | none => true)
def pairB (ms : List Nat) (ss : List SOper) (j i : Nat) : Bool :=
 depB ms j i || (unB ms i j && unB ms j i && i != j && (match ss[i]?, ss[j]? with | some si, some sj => apartB sj si && mayPass sj.op.kd si.op.kd | _, _ => false))
def pairsB (ms : List Nat) (ss : List SOper) : List Nat → Bool
 | [] => true
 | j :: l => l.all (pairB ms ss j) && pairsB ms ss l
def directB (ops : Array Oper) (i : Nat) : List Nat := match ops[i]? with
 | some o => (o.after.toList.filter (Region.binds .any)).map (·.on)
 | none => []
def validB (ops : Array Oper) : List Nat → List Nat → Bool
 | _, [] => true
 | seen, i :: l => (directB ops i).all (fun p => seen.contains p) && validB ops (i :: seen) l
def drawB (ops : Array Oper) (ss : List SOper) (ms ord : List Nat) : Bool :=
 ms == masks ops.toList [] && ord.all (fun i => decide (i < ops.size)) && (List.range ops.size).all (fun i => ord.contains i) && decide ord.Nodup && pairsB ms ss ord && validB ops [] ord &&
 decide (ss.length = ops.size)
def isAlloc (s : SOper) : Bool := match s.op.kd with | .alloc => true | _ => false
def canon (ops : Array Oper) (ss : List SOper) : Nat → List Nat → List Nat → List Nat
 | 0, _, acc => acc.reverse
 | n + 1, left, acc =>
  let ready := left.filter fun i => (directB ops i).all fun p => acc.contains p
  match ready.find? (fun i => !((ss[i]?).any isAlloc)) with
  | some i => canon ops ss n (left.filter (· != i)) (i :: acc)
  | none => match ready with
   | i :: _ => canon ops ss n (left.filter (· != i)) (i :: acc)
   | [] => acc.reverse
section
variable {P : Program} {w0 : World} {base r : Nat} {ss : List SOper} {ops : Array Oper} {N : Nat} {Q : Exit → Act → World → Prop}
theorem resList_specP : ∀ (os : List Oper) (i : Nat) (ss : List SOper), resList P N ops i os = some (ss.map SOper.plain) → (∀ j, os[j]? = ops[i + j]?) →
  ss.length = os.length ∧ ∀ (j : Nat) (s : SOper), ss[j]? = some s → Resolves P N ops (i + j) (i + j) s
 | [], i, ss, h, _ => by simp [resList] at h; subst h; exact ⟨rfl, fun j s hj => by simp at hj⟩
 | o :: os, i, ss, h, hop => by
  simp only [resList] at h
  split at h
  ·rename_i op g r h1 h2 h3 h4
   cases ss with
   | nil => cases h
   | cons s0 ss0 =>
   simp only [List.map_cons, Option.some.injEq, List.cons.injEq] at h
   obtain ⟨h0, h5⟩ := h
   subst h5
   obtain ⟨dst0, guard0, op0⟩ := s0
   simp only [SOper.plain, SOper.mk.injEq] at h0
   obtain ⟨rfl, rfl, rfl⟩ := h0
   obtain ⟨hl, hr⟩ := resList_specP os (i + 1) ss0 h4 (fun j => by have := hop (j + 1); rw [show i + 1 + j = i + (j + 1) from by omega]; simpa using this)
   refine ⟨by simp [hl], fun j s hj => ?_⟩
   cases j with
   | succ j =>
    simp at hj
    have := hr j s hj
    rwa [show i + 1 + j = i + (j + 1) from by omega] at this
   | zero =>
    simp at hj
    subst hj
    have ho : ops[i]? = some o := by have := hop 0; simpa using this.symm
    refine ⟨o, by simpa using ho, by simpa using h1, rfl, fun d hd => ?_, ?_⟩
    ·rw [hd] at h3; simpa [dstOk] using h3
    ·unfold resGuard at h2
     split at h2
     ·rename_i hg; cases h2; exact .inl ⟨hg, rfl⟩
     ·rename_i k b hg
      split at h2
      ·rename_i oj hoj
       split at h2
       ·rename_i d hd; cases h2; exact .inr ⟨k, b, oj, d, hg, hoj, hd, rfl⟩
       ·cases h2
      ·cases h2
  ·cases h
theorem plain_of_res {k : Nat} {op : Op} {s : SOp} (h : resOp P k op = some s) : s.plain = s := by
  rcases s.plain_inv with e | ⟨e, n, b, a, c, k', rfl⟩
  · exact e
  · exfalso
    unfold resOp at h
    split at h
    · cases h
    · split at h
      all_goals first
        | (rename_i c hpe
           unfold resCall at h
           revert h
           repeat' split
           all_goals first
             | (intro h; cases h; done)
             | (intro h; obtain ⟨_, _, e⟩ := Option.map_eq_some_iff.1 h; cases e))
        | (revert h
           repeat' split
           all_goals first
             | (intro h; cases h; done)
             | (intro h; obtain ⟨_, _, e⟩ := Option.map_eq_some_iff.1 h; cases e))
theorem plain_of_list : ∀ (os : List Oper) (i : Nat) (ss : List SOper), resList P N ops i os = some ss → ss.map SOper.plain = ss
 | [], i, ss, h => by simp [resList] at h; subst h; rfl
 | o :: os, i, ss, h => by
  simp only [resList] at h
  split at h
  ·rename_i op g r h1 h2 h3 h4
   cases h
   rw [List.map_cons, plain_of_list os (i + 1) r h4]
   simp [SOper.plain, plain_of_res h1]
  ·cases h
theorem resList_spec (os : List Oper) (i : Nat) (ss : List SOper) (h : resList P N ops i os = some ss) (hop : ∀ j, os[j]? = ops[i + j]?) :
  ss.length = os.length ∧ ∀ (j : Nat) (s : SOper), ss[j]? = some s → Resolves P N ops (i + j) (i + j) s :=
 resList_specP os i ss (by rw [plain_of_list os i ss h]; exact h) hop
theorem resolves_kd {i k : Nat} {s : SOper} (h : Resolves P N ops i k s) (hk : s.op.kd = .alloc) : s.op.new = some k := by
 obtain ⟨o, ho, hop, _⟩ := h.ex
 have : ∃ k', s.op.new = some k' := by
  cases hs : s.op <;> rw [hs] at hk <;> simp [SOp.kd] at hk <;> exact ⟨_, rfl⟩
 obtain ⟨k', hk'⟩ := this
 rw [hk', resolves_newP hop hk']
theorem maskOf_tc {done : List Oper} {ms : List Nat} (hms : ∀ i j, (ms.getD i 0).testBit j = true → TC ops j i) {o : Oper} {i : Nat} (ho : ops[i]? = some o) {j : Nat} (h : (maskOf ms o).testBit j = true) : TC ops j i := by
 unfold maskOf at h
 have key : ∀ (es : List Edge) (s : Nat), (∀ e ∈ es, e ∈ o.after) → (s.testBit j = true → TC ops j i) → (es.foldl (fun s e => if Region.binds .any e then s ||| 2 ^ e.on ||| ms.getD e.on 0 else s) s).testBit j = true → TC ops j i := by
  intro es
  induction es with
  | nil => intro s _ hs h; exact hs h
  | cons e es ih =>
   intro s he hs h
   rw [List.foldl_cons] at h
   refine ih _ (fun e' he' => he e' (by simp [he'])) (fun h1 => ?_) h
   split at h1
   ·rename_i hb
    have hd : Direct ops e.on i := ⟨o, e, ho, he e (by simp), hb, rfl⟩
    rw [Nat.testBit_or, Nat.testBit_or, Bool.or_eq_true, Bool.or_eq_true] at h1
    rcases h1 with (h1 | h1) | h1
    ·exact hs h1
    ·rw [Nat.testBit_two_pow] at h1
     have : e.on = j := by simpa using h1
     subst this
     exact .one hd
    ·exact .more (hms _ _ h1) hd
   ·exact hs h1
 refine key o.after.toList 0 (fun e he => by simpa using he) (fun h0 => ?_) h
 rw [Nat.zero_testBit] at h0; cases h0
theorem masks_tc : ∀ (os : List Oper) (acc : List Nat), (∀ j, os[j]? = ops[acc.length + j]?) → (∀ i j, (acc.getD i 0).testBit j = true → TC ops j i) → ∀ i j, ((masks os acc).getD i 0).testBit j = true → TC ops j i
 | [], acc, _, h => h
 | o :: os, acc, ho, h => by
  simp only [masks]
  refine masks_tc os _ (fun j => ?_) (fun i j hj => ?_)
  ·have := ho (j + 1)
   rw [List.length_append, List.length_singleton, show acc.length + 1 + j = acc.length + (j + 1) from by omega]
   simpa using this
  ·rcases Nat.lt_trichotomy i acc.length with hlt | rfl | hlt
   ·rw [List.getD_eq_getElem?_getD, List.getElem?_append_left hlt, ← List.getD_eq_getElem?_getD] at hj
    exact h i j hj
   ·simp only [List.getD_eq_getElem?_getD, List.getElem?_concat_length, Option.getD_some] at hj
    exact maskOf_tc (done := os) h (by have := ho 0; simpa using this.symm) hj
   ·rw [List.getD_eq_getElem?_getD, List.getElem?_eq_none (by simp; omega), Option.getD_none, Nat.zero_testBit] at hj
    cases hj
theorem apartB_spec {s t : SOper} (h : apartB s t = true) : Apart s t := by
 unfold apartB at h
 rw [Bool.and_eq_true] at h
 obtain ⟨h1, h2⟩ := h
 refine ⟨fun d hd => ?_, fun d hd => ?_⟩
 ·rw [hd] at h1
  simp only [Bool.and_eq_true, Bool.not_eq_true', bne_iff_ne, ne_eq] at h1
  refine ⟨fun hm => ?_, h1.2⟩
  have := h1.1
  rw [List.contains_iff_mem.2 hm] at this
  cases this
 ·rw [hd] at h2
  simp only [Bool.not_eq_true'] at h2
  intro hm
  rw [List.contains_iff_mem.2 hm] at h2
  cases h2
theorem pairB_spec {ms : List Nat} (hms : ∀ i j, (ms.getD i 0).testBit j = true → TC ops j i) {j i : Nat} (h : pairB ms ss j i = true) : TC ops j i ∨ PairOK ss (unB ms) j i := by
 unfold pairB at h
 rw [Bool.or_eq_true] at h
 rcases h with h | h
 ·exact .inl (hms i j h)
 ·right
  simp only [Bool.and_eq_true, bne_iff_ne, ne_eq] at h
  obtain ⟨⟨⟨h1, h2⟩, h3⟩, h4⟩ := h
  refine ⟨h3, h1, h2, ?_⟩
  split at h4
  ·rename_i si sj e1 e2
   rw [Bool.and_eq_true] at h4
   exact ⟨si, sj, e1, e2, apartB_spec h4.1, h4.2⟩
  ·cases h4
theorem pairsB_spec {ms : List Nat} (hms : ∀ i j, (ms.getD i 0).testBit j = true → TC ops j i) : ∀ {l : List Nat}, pairsB ms ss l = true → l.Pairwise (fun j i => TC ops j i ∨ PairOK ss (unB ms) j i)
 | [], _ => List.Pairwise.nil
 | j :: l, h => by
  simp only [pairsB, Bool.and_eq_true, List.all_eq_true] at h
  exact List.Pairwise.cons (fun i hi => pairB_spec hms (h.1 i hi)) (pairsB_spec hms h.2)
theorem directB_spec {p i : Nat} (h : Direct ops p i) : p ∈ directB ops i := by
 obtain ⟨o, e, ho, he, hb, rfl⟩ := h
 unfold directB
 rw [ho]
 exact List.mem_map.2 ⟨e, List.mem_filter.2 ⟨by simpa using he, hb⟩, rfl⟩
theorem validB_spec : ∀ {l seen : List Nat}, validB ops seen l = true → ∀ l1 i l2, l = l1 ++ i :: l2 → ∀ p, Direct ops p i → p ∈ seen ∨ p ∈ l1
 | [], seen, _, l1, i, l2, e => by simp at e
 | x :: l, seen, h, l1, i, l2, e => by
  simp only [validB, Bool.and_eq_true, List.all_eq_true] at h
  cases l1 with
  | nil =>
   simp only [List.nil_append, List.cons.injEq] at e
   obtain ⟨rfl, rfl⟩ := e
   exact fun p hp => .inl (List.contains_iff_mem.1 (h.1 p (directB_spec hp)))
  | cons y l1 =>
   simp only [List.cons_append, List.cons.injEq] at e
   obtain ⟨rfl, e⟩ := e
   intro p hp
   rcases validB_spec h.2 l1 i l2 e p hp with h1 | h1
   ·rcases List.mem_cons.1 h1 with rfl | h1
    ·right; simp
    ·exact .inl h1
   ·right; simp [h1]
theorem wp_draw {id : Nat} {ms ord : List Nat} (hm : P.follows .mixedOrders = true) (hss : resList P N ops 0 ops.toList = some ss) (hd : drawB ops ss ms ord = true) {rds : Nat → Option Rd} {env env' : Env} {st st' : St} {ds : List ADef} {X : Nat → Option AObj} {a : Act} {w : World} {G : Gh}
  (hrun : RunD P w0 base st.next ss (unB ms) rds ord env { st with next := st.next + ss.length } env' st') (hX : ∀ o, X o ≠ none → st.objs o = none) (hI : Inv w0 base G (st.add X) w) (hF : RepFr G w N env ds a)
  (hQ : ∀ a' w' G', Ext base G w G' w' → (∀ o, o < st.next → G'.used o → G.used o) → Inv w0 base G' (st'.add X) w' → RepFr G' w' N env' ds a' → Q .normal a' w') :
  (Code.region id ops true).wp P Q a w := by
 obtain ⟨hlen, hres⟩ := resList_spec ops.toList 0 ss hss (fun j => by simp)
 simp only [drawB, Bool.and_eq_true, beq_iff_eq, List.all_eq_true, decide_eq_true_eq] at hd
 obtain ⟨⟨⟨⟨⟨⟨d1, d2⟩, d3⟩, d4⟩, d5⟩, d6⟩, d7⟩ := hd
 have hms : ∀ i j, (ms.getD i 0).testBit j = true → TC ops j i := by
  rw [d1]
  refine masks_tc ops.toList [] (fun j => by simp) (fun i j h => ?_)
  simp at h
 have hres' : ∀ (i : Nat) (s : SOper), ss[i]? = some s → Resolves P N ops i i s := fun i s h => by have := hres i s h; rwa [Nat.zero_add] at this
 have hmem : ∀ i, i ∈ ord ↔ i < ops.size := fun i => ⟨d2 i, fun h => List.contains_iff_mem.1 (d3 i (List.mem_range.2 h))⟩
 have hcount : ord.length = ops.size := by
  have h1 : ord.Perm (List.range ops.size) := (List.perm_ext_iff_of_nodup d4 List.nodup_range).2 fun i => by rw [hmem, List.mem_range]
  rw [h1.length_eq, List.length_range]
 refine wp_region_any hm ?_
 have hI' := inv_drew hI
 have he := ext_drew base G w
 have hXr : ∀ o, X o ≠ none → o < st.next ∧ st.objs o = none := fun o ho => by
  have hn := hX o ho
  refine ⟨?_, hn⟩
  cases hx : X o with
  | none => exact absurd hx ho
  | some x =>
   have := (hI.objs o x (by simp [St.add, hn, hx])).1
   exact hI.scope o this
 rw [← hcount]
 refine wpAny_run hres' (fun i s h hk => resolves_kd (hres' i s h) hk) d7 X ord.length ord _ env _ a _ G rfl hrun (by simp [hcount]) (fun i => ?_) d4 (pairsB_spec hms d5) ?_ ?_ ?_ ?_ ?_ (inv_forget hI' (fun o x h => h) (by simp [St.add])) (repFr_mono he hF) ?_
 ·rw [hmem]
  constructor
  ·intro h; refine ⟨h, ?_⟩; simp [hcount, h]
  ·exact fun h => h.1
 ·intro l1 i l2 e p hp
  rcases validB_spec d6 l1 i l2 e p hp with h | h
  ·cases h
  ·exact .inr h
 ·intro x p hx
  exfalso
  rw [Array.getD_eq_getD_getElem?] at hx
  cases hq : (Array.replicate ord.length false)[x]? with
  | none => rw [hq] at hx; cases hx
  | some b =>
   rw [hq] at hx
   have := Array.getElem?_eq_some_iff.1 hq
   obtain ⟨_, h2⟩ := this
   simp at h2
   subst h2
   simp at hx
 ·exact Nat.le_refl _
 ·exact hXr
 ·intro i _ hu
  have := hI.scope _ hu
  simp only [St.add] at this
  omega
 ·intro a' w' G' q1 q2 q3 q4
  exact hQ a' w' G' (he.trans q1) q2 q3 q4
inductive RunS (P : Program) (w0 : World) (base r : Nat) : List SOper → Env → List ADef → St → Env → List ADef → St → Prop
 | nil (env : Env) (ds : List ADef) (st : St) : RunS P w0 base r [] env ds st env ds st
 | cons (s : SOper) (l : List SOper) (env env1 env' : Env) (ds ds1 ds' : List ADef) (st st1 st' : St) (h1 : Step P w0 base r s env ds st env1 ds1 st1) (h2 : RunS P w0 base r l env1 ds1 st1 env' ds' st') :
   RunS P w0 base r (s :: l) env ds st env' ds' st'
theorem wpOps_runS {env' : Env} {ds' : List ADef} {st' : St} (X : Nat → Option AObj) : ∀ (l : List SOper) (k : Nat) (env : Env) (ds : List ADef) (st : St) (a : Act) (w : World) (G : Gh), (∀ (j : Nat) (s : SOper), l[j]? = some s → Resolves P N ops (k + j) (k + j) s) →
  RunS P w0 base r l env ds st env' ds' st' → r + k + l.length ≤ st.next → (∀ o, X o ≠ none → o < r ∧ st.objs o = none) → (∀ i, k ≤ i → i < k + l.length → ¬ G.used (r + i)) → Inv w0 base G (st.add X) w → RepFr G w N env ds a →
  (∀ a' w' G', Ext base G w G' w' → (∀ o, o < r → G'.used o → G.used o) → Inv w0 base G' (st'.add X) w' → RepFr G' w' N env' ds' a' → Q .normal a' w') → wpOps P ops Q (List.range' k l.length) a w
 | [], k, env, ds, st, a, w, G, hres, hrun, hr, hX, hfr, hI, hF, hQ => by
  cases hrun
  exact hQ a w G (Ext.refl _ _ _) (fun _ _ h => h) hI hF
 | s :: l, k, env, ds, st, a, w, G, hres, hrun, hr, hX, hfr, hI, hF, hQ => by
  cases hrun with
  | cons _ _ _ env1 _ _ ds1 _ _ st1 _ h1 h2 =>
   rw [List.length_cons, List.range'_succ, wpOps_cons]
   simp only [List.length_cons] at hr hfr
   have hk := hres 0 s rfl
   rw [Nat.add_zero] at hk
   refine wpOp_of_step hk h1 X (fun o ho => (hX o ho).2) hI hF ⟨hfr k (Nat.le_refl _) (by omega), by omega⟩ ?_
   intro a' w' G' he hu hI' hF'
   obtain ⟨hnx, hkeep⟩ := step_next h1 (by omega)
   refine wpOps_runS X l (k + 1) env1 ds1 st1 a' w' G' (fun j s' hj => by have := hres (j + 1) s' (by simpa using hj); rwa [show k + (j + 1) = k + 1 + j from by omega] at this) h2 (by omega)
    (fun o ho => ⟨(hX o ho).1, hkeep o (hX o ho).1 (hX o ho).2⟩) (fun i h3 h4 hu' => ?_) hI' hF' (fun a2 w2 G2 he2 hu2 hI2 hF2 => ?_)
   ·rcases hu (r + i) (by omega) hu' with h | h
    ·exact hfr i (by omega) (by omega) h
    ·omega
   ·refine hQ a2 w2 G2 (he.trans he2) (fun o ho hq => ?_) hI2 hF2
    rcases hu o (by omega) (hu2 o ho hq) with h | h
    ·exact h
    ·omega
theorem wp_seqRegion {id : Nat} (hss : resList P N ops 0 ops.toList = some (ss.map SOper.plain)) {env env' : Env} {st st' : St} {ds ds' : List ADef} {X : Nat → Option AObj} {a : Act} {w : World} {G : Gh}
  (hrun : RunS P w0 base st.next ss env ds { st with next := st.next + ss.length } env' ds' st') (hX : ∀ o, X o ≠ none → st.objs o = none) (hI : Inv w0 base G (st.add X) w) (hF : RepFr G w N env ds a)
  (hQ : ∀ a' w' G', Ext base G w G' w' → (∀ o, o < st.next → G'.used o → G.used o) → Inv w0 base G' (st'.add X) w' → RepFr G' w' N env' ds' a' → Q .normal a' w') :
  (Code.region id ops false).wp P Q a w := by
 obtain ⟨hlen, hres⟩ := resList_specP ops.toList 0 ss hss (fun j => by simp)
 refine wp_region ?_
 have e : List.range ops.size = List.range' 0 ss.length := by rw [hlen, Array.length_toList, List.range_eq_range']
 rw [e]
 refine wpOps_runS X ss 0 env ds _ a w G (fun j s h => hres j s h) hrun (by simp) (fun o ho => ?_) (fun i _ _ hu => ?_) (inv_forget hI (fun o x h => h) (by simp [St.add])) hF hQ
 ·have hn := hX o ho
  refine ⟨?_, hn⟩
  cases hx : X o with
  | none => exact absurd hx ho
  | some x => exact hI.scope o (hI.objs o x (by simp [St.add, hn, hx])).1
 ·have := hI.scope _ hu
  simp only [St.add] at this
  omega
end
end
section
def CallW (P : Program) (w0 : World) (base : Nat) (f : FuncId) (args : List AV) (st : St) (K : AV → St → Prop) : Prop := ∃ v st', Det P w0 base f args st v st' ∧ K v st'
def goOp (P : Program) (w0 : World) (base r : Nat) (env : Env) (st : St) (K : AV → St → Prop) : SOp → Prop
 | .call f args => CallW P w0 base f (args.map (·.ev env)) st K
 | .callV x args => match x.ev env with
  | .func (.func f) first cap => CallW P w0 base f (first ++ args.map (·.ev env) ++ cap) st K
  | _ => False
 | .defer _ _ => False
 | op => match op.step r env st with
  | some (v, st') => K v st'
  | none => False
def onGuard (s : SOper) (env : Env) (go skip : Prop) : Prop := match s.guard with
 | none => go
 | some (d, b) => match env d with
  | .bool b' => if b' = b then go else skip
  | .tuple [] => skip
  | _ => False
def awpOps (P : Program) (w0 : World) (base r : Nat) : List SOper → Env → List ADef → St → (Env → List ADef → St → Prop) → Prop
 | [], env, ds, st, K => K env ds st
 | s :: l, env, ds, st, K => onGuard s env
   (match s.op with
    | .defer x args => match x.ev env with
     | .func fn first cap => awpOps P w0 base r l (env.put s.dst .undef) ((fn, cap, first ++ args.map (·.ev env)) :: ds) st K
     | _ => False
    | op => goOp P w0 base r env st (fun v st' => awpOps P w0 base r l (env.put s.dst v) ds st' K) op)
   (awpOps P w0 base r l (env.put s.dst (.tuple [])) ds st K)
structure Log where
 rd : List (Nat × Option Rd)
 ef : List (Nat × St × St)
def oblR (un : Nat → Nat → Bool) (i : Nat) (s0 s1 : St) : List (Nat × Option Rd) → Prop
 | [] => True
 | (q, some o) :: l => (if un i q then s0.objs o.id = s1.objs o.id ∨ o.same s0 s1 else True) ∧ oblR un i s0 s1 l
 | (_, none) :: l => oblR un i s0 s1 l
def oblE (un : Nat → Nat → Bool) (q : Nat) (o : Rd) : List (Nat × St × St) → Prop
 | [] => True
 | (i, s0, s1) :: l => (if un i q then s0.objs o.id = s1.objs o.id ∨ o.same s0 s1 else True) ∧ oblE un q o l
def oblQ (un : Nat → Nat → Bool) (q : Nat) (r : Option Rd) (l : List (Nat × St × St)) : Prop := match r with
 | some o => oblE un q o l
 | none => True
def awpD (P : Program) (w0 : World) (base r : Nat) (ss : List SOper) (un : Nat → Nat → Bool) : List Nat → Env → St → Log → (Env → St → Prop) → Prop
 | [], env, st, _, K => K env st
 | i :: l, env, st, L, K => match ss[i]? with
  | none => False
  | some s => onGuard s env
    (match s.op.kd with
     | .read => oblQ un i (s.op.rd env) L.ef ∧ goOp P w0 base r env st (fun v st' => awpD P w0 base r ss un l (env.put s.dst v) st' { L with rd := (i, s.op.rd env) :: L.rd } K) s.op
     | .eff => goOp P w0 base r env st (fun v st' => oblR un i st st' L.rd ∧ awpD P w0 base r ss un l (env.put s.dst v) st' { L with ef := (i, st, st') :: L.ef } K) s.op
     | _ => goOp P w0 base r env st (fun v st' => awpD P w0 base r ss un l (env.put s.dst v) st' L K) s.op)
    (awpD P w0 base r ss un l (env.put s.dst (.tuple [])) st { L with rd := (i, none) :: L.rd } K)
section
variable {P : Program} {w0 : World} {base r : Nat} {ss : List SOper} {un : Nat → Nat → Bool} {env : Env} {st : St} {ds : List ADef}
theorem onGuard_spec {s : SOper} {go skip : Prop} (h : onGuard s env go skip) : (Wanted s env ∧ go) ∨ (∃ d b, s.guard = some (d, b) ∧ noB (env d) b = true ∧ skip) := by
 unfold onGuard at h
 split at h
 ·exact .inl ⟨.inl ‹_›, h⟩
 ·rename_i d b hg
  split at h
  ·rename_i b' hb
   split at h
   ·rename_i e; subst e; exact .inl ⟨.inr ⟨d, b', hg, hb⟩, h⟩
   ·rename_i e; exact .inr ⟨d, b, hg, by rw [hb]; simp [noB, e], h⟩
  ·rename_i hb; exact .inr ⟨d, b, hg, by rw [hb]; rfl, h⟩
  ·exact h.elim
theorem goOp_spec {s : SOper} {K : AV → St → Prop} (hw : Wanted s env) (h : goOp P w0 base r env st K s.op) : ∃ v st', Does P w0 base r s env st v st' ∧ K v st' := by
 have hstep : ∀ op, s.op = op → (∀ f a, op ≠ .call f a) → (∀ x a, op ≠ .callV x a) → (∀ x a, op ≠ .defer x a) → (match op.step r env st with | some (v, st') => K v st' | none => False) → ∃ v st', Does P w0 base r s env st v st' ∧ K v st' := by
  intro op e _ _ _ h
  split at h
  ·rename_i v st' hs; subst e; exact ⟨v, st', .run v st' hw hs, h⟩
  ·exact h.elim
 cases hop : s.op with
 | call f args =>
  rw [hop] at h
  obtain ⟨v, st', h1, h2⟩ := h
  exact ⟨v, st', .call f args v st' hw hop h1, h2⟩
 | callV x args =>
  rw [hop] at h
  simp only [goOp] at h
  split at h
  ·rename_i f first cap hx
   obtain ⟨v, st', h1, h2⟩ := h
   exact ⟨v, st', .callV x args f first cap v st' hw hop hx h1, h2⟩
  ·exact h.elim
 | defer x args => rw [hop] at h; exact h.elim
 | _ => rw [hop] at h; exact hstep _ hop (by simp) (by simp) (by simp) h
theorem awpOps_run : ∀ (l : List SOper) (env : Env) (ds : List ADef) (st : St) (K : Env → List ADef → St → Prop), awpOps P w0 base r l env ds st K → ∃ env' ds' st', RunS P w0 base r l env ds st env' ds' st' ∧ K env' ds' st'
 | [], env, ds, st, K, h => ⟨env, ds, st, .nil _ _ _, h⟩
 | s :: l, env, ds, st, K, h => by
  simp only [awpOps] at h
  rcases onGuard_spec h with ⟨hw, h⟩ | ⟨d, b, h1, h2, h⟩
  ·by_cases hdef : ∃ x args, s.op = .defer x args
   ·obtain ⟨x, args, hop⟩ := hdef
    rw [hop] at h
    simp only at h
    split at h
    ·rename_i fn first cap hx
     obtain ⟨env', ds', st', q1, q2⟩ := awpOps_run l _ _ _ K h
     exact ⟨env', ds', st', .cons s l _ _ _ _ _ _ _ _ _ (.defer x args fn first cap hw hop hx) q1, q2⟩
    ·exact h.elim
   ·have h' : goOp P w0 base r env st (fun v st' => awpOps P w0 base r l (env.put s.dst v) ds st' K) s.op := by
     cases hop : s.op <;> rw [hop] at h <;> first | exact h | exact absurd ⟨_, _, hop⟩ hdef
    obtain ⟨v, st1, q1, q2⟩ := goOp_spec hw h'
    obtain ⟨env', ds', st', q3, q4⟩ := awpOps_run l _ _ _ K q2
    exact ⟨env', ds', st', .cons s l _ _ _ _ _ _ _ _ _ (does_step q1) q3, q4⟩
  ·obtain ⟨env', ds', st', q1, q2⟩ := awpOps_run l _ _ _ K h
   exact ⟨env', ds', st', .cons s l _ _ _ _ _ _ _ _ _ (.skip d b h1 h2) q1, q2⟩
theorem oblR_spec {i : Nat} {s0 s1 : St} : ∀ {l : List (Nat × Option Rd)}, oblR un i s0 s1 l → ∀ q o, (q, some o) ∈ l → un i q = true → o.same s0 s1
 | [], _, q, o, hm, _ => by cases hm
 | (q', some o') :: l, h, q, o, hm, hu => by
  obtain ⟨h1, h2⟩ := h
  rcases List.mem_cons.1 hm with e | hm
  ·cases e; rw [if_pos hu] at h1; exact h1.elim Rd.same_of id
  ·exact oblR_spec h2 q o hm hu
 | (q', none) :: l, h, q, o, hm, hu => by
  rcases List.mem_cons.1 hm with e | hm'
  ·cases e
  ·exact oblR_spec (l := l) h q o hm' hu
theorem oblE_spec {q : Nat} {o : Rd} : ∀ {l : List (Nat × St × St)}, oblE un q o l → ∀ i s0 s1, (i, s0, s1) ∈ l → un i q = true → o.same s0 s1
 | [], _, i, s0, s1, hm, _ => by cases hm
 | (i', s0', s1') :: l, h, i, s0, s1, hm, hu => by
  obtain ⟨h1, h2⟩ := h
  rcases List.mem_cons.1 hm with e | hm
  ·cases e; rw [if_pos hu] at h1; exact h1.elim Rd.same_of id
  ·exact oblE_spec h2 i s0 s1 hm hu
theorem pairs_cons {ms : List Nat} {x i : Nat} {l : List Nat} (h : pairsB ms ss (i :: l) = true) (hx : x ∈ l) : pairB ms ss i x = true := by
 simp only [pairsB, Bool.and_eq_true, List.all_eq_true] at h
 exact h.1 x hx
theorem pair_kinds {ms : List Nat} {q i : Nat} {sq si : SOper} (h : pairB ms ss q i = true) (hu : unB ms i q = true) (h1 : ss[q]? = some sq) (h2 : ss[i]? = some si) : mayPass sq.op.kd si.op.kd = true := by
 unfold pairB at h
 rw [Bool.or_eq_true] at h
 rcases h with h | h
 ·simp only [unB, Bool.and_eq_true, Bool.not_eq_true'] at hu
  rw [h] at hu
  simp at hu
 ·simp only [Bool.and_eq_true, h1, h2] at h
  exact h.2.2
theorem does_keeps {s : SOper} {i : Nat} {v : AV} {st' : St} (hi : s.op.kd = .alloc → s.op.new = some i) (hnew : ∀ k, s.op.new = some k → k = i) (h : Does P w0 base r s env st v st') : st.next ≤ st'.next ∧ ∀ o, o < st.next → o ≠ r + i → st.objs o = none → st'.objs o = none := by
 cases h with
 | skip => exact ⟨Nat.le_refl _, fun _ _ _ h => h⟩
 | call f args _ _ h1 h2 h3 => exact ⟨h3.next, fun o h4 _ h5 => h3.keep o h4 h5⟩
 | callV x args f first cap _ _ h1 h2 h3 h4 => exact ⟨h4.next, fun o h5 _ h6 => h4.keep o h5 h6⟩
 | run _ _ h1 h2 =>
  refine ⟨Nat.le_of_eq (step_keep h2).1.symm, fun o _ hne hn => ?_⟩
  have hput : ∀ (x : Nat) (ob : AObj), (st.objs x ≠ none ∨ x = r + i) → (st.put x ob).objs o = none := by
   intro x ob hx
   have : o ≠ x := by
    rintro rfl
    rcases hx with hx | hx
    ·exact hx hn
    ·exact hne hx
   simp [St.put, zl _ _ _ _ this, hn]
  cases hop : s.op with
  | pe e => rw [hop] at h2; obtain ⟨v', hv, e'⟩ := Option.map_eq_some_iff.1 h2; cases e'; exact hn
  | load n agg x => obtain ⟨e, _⟩ := read_step (by rw [hop]; rfl) h2; rw [e]; exact hn
  | lookup kk z ok m key => obtain ⟨e, _⟩ := read_step (by rw [hop]; rfl) h2; rw [e]; exact hn
  | alloc T z k => obtain ⟨x, e, _⟩ := alloc_step (P := P) (by rw [hop]; rfl) (hi (by rw [hop]; rfl)) h2; rw [e]; exact hput _ _ (.inr rfl)
  | box T x k => obtain ⟨x, e, _⟩ := alloc_step (P := P) (by rw [hop]; rfl) (hi (by rw [hop]; rfl)) h2; rw [e]; exact hput _ _ (.inr rfl)
  | mkMap k => obtain ⟨x, e, _⟩ := alloc_step (P := P) (by rw [hop]; rfl) (hi (by rw [hop]; rfl)) h2; rw [e]; exact hput _ _ (.inr rfl)
  | store n x y =>
   rw [hop] at h2
   simp only [SOp.step] at h2
   split at h2
   ·split at h2
    ·rename_i ob ho
     split at h2
     ·split at h2
      ·cases h2; exact hput _ _ (.inl (by simp [ho]))
      ·cases h2
     ·cases h2
    ·cases h2
   ·cases h2
  | append str e size bytes a b k =>
   have hk := hnew k (by rw [hop]; rfl)
   rw [hop] at h2
   simp only [SOp.step] at h2
   split at h2
   ·split at h2
    ·cases h2; exact hn
    ·split at h2
     ·split at h2
      ·cases h2; exact hput _ _ (.inr (by rw [hk]))
      ·split at h2
       ·rename_i ho
        split at h2
        ·cases h2; exact hput _ _ (.inl (by simp [ho]))
        ·cases h2
       ·cases h2
      ·cases h2
     ·cases h2
   ·cases h2
  | appendR e size bytes a b k =>
   have hk := hnew k (by rw [hop]; rfl)
   rw [hop] at h2
   simp only [SOp.step] at h2
   split at h2
   ·split at h2
    ·cases h2; exact hput _ _ (.inr (by rw [hk]))
    ·cases h2
   ·split at h2
    ·split at h2
     ·cases h2
      simp only [St.put, St.del]
      rw [zl _ _ _ _ (by omega)]
      split
      ·rfl
      ·exact hn
     ·cases h2
    ·cases h2
   ·cases h2
  | mapUpd kk m key v =>
   rw [hop] at h2
   simp only [SOp.step] at h2
   split at h2
   ·split at h2
    ·rename_i ho
     split at h2
     ·cases h2; exact hput _ _ (.inl (by simp [ho]))
     ·split at h2
      ·cases h2; exact hput _ _ (.inl (by simp [ho]))
      ·cases h2
     ·cases h2
    ·cases h2
   ·cases h2
  | call f l => rw [hop] at h2; cases h2
  | callV x l => rw [hop] at h2; cases h2
  | defer x l => rw [hop] at h2; cases h2
theorem read_there {s : SOp} (hk : s.kd = .read) {v : AV} {st' : St} (h : s.step r env st = some (v, st')) : ∀ o, s.rd env = some o → st.objs o.id ≠ none := by
 intro o ho
 cases s <;> simp [SOp.kd] at hk
 ·simp only [SOp.rd] at ho
  split at ho
  ·rename_i o' off heq
   cases ho
   simp only [SOp.step, heq] at h
   split at h
   ·rename_i cs hd
    intro hn
    simp [St.data, show st.objs o' = none from hn] at hd
   ·cases h
  ·cases ho
 ·simp only [SOp.rd] at ho
  split at ho
  ·rename_i o' heq
   cases ho
   simp only [SOp.step, heq] at h
   split at h
   ·rename_i es hes; simp [Rd.id, hes]
   ·cases h
  ·cases ho
theorem awpD_run {ms : List Nat} (hn1 : ∀ (i : Nat) (s : SOper), ss[i]? = some s → s.op.kd = .alloc → s.op.new = some i) (hn2 : ∀ (i : Nat) (s : SOper), ss[i]? = some s → ∀ k, s.op.new = some k → k = i) :
  ∀ (l : List Nat) (done : List Nat) (env : Env) (st : St) (L : Log) (K : Env → St → Prop), awpD P w0 base r ss (unB ms) l env st L K → pairsB ms ss l = true → (∀ q ∈ done, ∀ i ∈ l, pairB ms ss q i = true) → (∀ q, q < ss.length → q ∈ done ∨ q ∈ l) → (done ++ l).Nodup → r + ss.length ≤ st.next →
   (∀ q ∈ l, ∀ sq, ss[q]? = some sq → sq.op.kd = .alloc → st.objs (r + q) = none) → (∀ q ∈ done, ∀ sq, ss[q]? = some sq → sq.op.kd = .read → ∃ o, (q, o) ∈ L.rd) → (∀ q o o', (q, o) ∈ L.rd → (q, o') ∈ L.rd → o = o') → (∀ q o, (q, o) ∈ L.rd → q ∈ done) →
   ∃ env' st', K env' st' ∧ ∃ rds : Nat → Option Rd, (∀ q o, (q, o) ∈ L.rd → rds q = o) ∧ RunD P w0 base r ss (unB ms) rds l env st env' st' ∧
    (∀ i s0 s1, (i, s0, s1) ∈ L.ef → ∀ q ∈ l, ∀ sq, ss[q]? = some sq → sq.op.kd = .read → unB ms i q = true → ∀ o, rds q = some o → o.same s0 s1)
 | [], done, env, st, L, K, h, _, _, _, _, _, _, _, hL, _ => by
  refine ⟨env, st, h, fun q => ((L.rd.find? fun x => x.1 == q).map (·.2)).getD none, fun q o hm => ?_, .nil _ _, fun i s0 s1 _ q hq => by cases hq⟩
  cases hf : L.rd.find? (fun x => x.1 == q) with
  | none => have := List.find?_eq_none.1 hf (q, o) hm; simp at this
  | some x =>
   have h1 := List.find?_some hf
   have h2 := List.mem_of_find?_eq_some hf
   obtain ⟨q', o'⟩ := x
   simp at h1
   subst h1
   simp only [hf]
   exact hL _ _ _ h2 hm
 | i :: l, done, env, st, L, K, h, hp, hpd, hall, hnd, hr, hnone, hdone, hL, hLd => by
  simp only [awpD] at h
  split at h
  ·exact h.elim
  ·rename_i s hs
   have hpl : pairsB ms ss l = true := by simp only [pairsB, Bool.and_eq_true] at hp; exact hp.2
   have hpd' : ∀ q ∈ done ++ [i], ∀ x ∈ l, pairB ms ss q x = true := by
    intro q hq x hx
    rcases List.mem_append.1 hq with hq | hq
    ·exact hpd q hq x (by simp [hx])
    ·simp at hq; subst hq; exact pairs_cons hp hx
   have hall' : ∀ q, q < ss.length → q ∈ done ++ [i] ∨ q ∈ l := by
    intro q hq
    rcases hall q hq with h1 | h1
    ·exact .inl (by simp [h1])
    ·rcases List.mem_cons.1 h1 with rfl | h1
     ·exact .inl (by simp)
     ·exact .inr h1
   have hnd' : ((done ++ [i]) ++ l).Nodup := by simpa using hnd
   have hil : i ∉ l := by
    have := (List.nodup_append.1 hnd).2.1
    exact (List.nodup_cons.1 this).1
   have hid : i ∉ done := fun hm => (List.nodup_append.1 hnd).2.2 i hm i (by simp) rfl
   have hilt : i < ss.length := (List.getElem?_eq_some_iff.1 hs).1
   have key : ∀ (v : AV) (st1 : St) (L' : Log), Does P w0 base r s env st v st1 → awpD P w0 base r ss (unB ms) l (env.put s.dst v) st1 L' K →
     (L'.rd = L.rd ∧ s.op.kd ≠ .read ∨ ∃ o, L'.rd = (i, o) :: L.rd ∧ (s.op.kd = .read → Wanted s env → s.op.rd env = o) ∧ (s.op.kd = .read → oblQ (unB ms) i o L.ef) ∧ (s.op.kd = .read → ∀ o', o = some o' → st.objs o'.id ≠ none)) →
     (L'.ef = L.ef ∧ (s.op.kd = .eff → st1 = st) ∨ L'.ef = (i, st, st1) :: L.ef ∧ oblR (unB ms) i st st1 L.rd) →
     ∃ env' st', K env' st' ∧ ∃ rds : Nat → Option Rd, (∀ q o, (q, o) ∈ L.rd → rds q = o) ∧ RunD P w0 base r ss (unB ms) rds (i :: l) env st env' st' ∧
      (∀ i' s0 s1, (i', s0, s1) ∈ L.ef → ∀ q ∈ i :: l, ∀ sq, ss[q]? = some sq → sq.op.kd = .read → unB ms i' q = true → ∀ o, rds q = some o → o.same s0 s1) := by
    intro v st1 L' hd hawp hrd hef
    obtain ⟨k1, k2⟩ := does_keeps (hn1 i s hs) (hn2 i s hs) hd
    have hLsub : ∀ q o, (q, o) ∈ L.rd → (q, o) ∈ L'.rd := by
     intro q o hm
     rcases hrd with ⟨e, _⟩ | ⟨o', e, _⟩ <;> rw [e]
     ·exact hm
     ·exact List.mem_cons_of_mem _ hm
    have hEsub : ∀ x, x ∈ L.ef → x ∈ L'.ef := by
     intro x hm
     rcases hef with ⟨e, _⟩ | ⟨e, _⟩ <;> rw [e]
     ·exact hm
     ·exact List.mem_cons_of_mem _ hm
    have hnone' : ∀ q ∈ l, ∀ sq, ss[q]? = some sq → sq.op.kd = .alloc → st1.objs (r + q) = none := by
     intro q hq sq hsq hkq
     have hlt : q < ss.length := (List.getElem?_eq_some_iff.1 hsq).1
     refine k2 _ (by omega) (fun e => ?_) (hnone q (by simp [hq]) sq hsq hkq)
     have : q = i := by omega
     exact hil (this ▸ hq)
    obtain ⟨env', st', hK, rds, c1, c2, c3⟩ := awpD_run hn1 hn2 l (done ++ [i]) (env.put s.dst v) st1 L' K hawp hpl hpd' hall' hnd' (by omega) hnone'
     (fun q hq sq hsq hkq => by
      rcases List.mem_append.1 hq with hq | hq
      ·obtain ⟨o, ho⟩ := hdone q hq sq hsq hkq
       exact ⟨o, hLsub q o ho⟩
      ·simp at hq; subst hq
       rw [hs] at hsq; cases hsq
       rcases hrd with ⟨_, e⟩ | ⟨o, e, _⟩
       ·exact absurd hkq e
       ·exact ⟨o, by rw [e]; simp⟩)
     (fun q o o' h1 h2 => by
      rcases hrd with ⟨e, _⟩ | ⟨o0, e, _⟩
      ·rw [e] at h1 h2; exact hL q o o' h1 h2
      ·rw [e] at h1 h2
       rcases List.mem_cons.1 h1 with e1 | h1' <;> rcases List.mem_cons.1 h2 with e2 | h2'
       ·cases e1; cases e2; rfl
       ·cases e1; exact absurd (hLd _ _ h2') hid
       ·cases e2; exact absurd (hLd _ _ h1') hid
       ·exact hL q o o' h1' h2')
     (fun q o h1 => by
      rcases hrd with ⟨e, _⟩ | ⟨o0, e, _⟩
      ·rw [e] at h1; exact List.mem_append_left _ (hLd q o h1)
      ·rw [e] at h1
       rcases List.mem_cons.1 h1 with e1 | h1
       ·cases e1; simp
       ·exact List.mem_append_left _ (hLd q o h1))
    refine ⟨env', st', hK, rds, fun q o hm => c1 q o (hLsub q o hm), .cons i l s v env env' st st1 st' hs hd ⟨?_, ?_, ?_, ?_, ?_⟩ c2, ?_⟩
    ·-- what is read
     intro hk hw
     rcases hrd with ⟨_, e⟩ | ⟨o, e, h1, _⟩
     ·exact absurd hk e
     ·rw [h1 hk hw]; exact (c1 i o (by rw [e]; simp)).symm
    ·intro hk q sq hsq hkq hu x0 heq hxid
     have hqlt : q < ss.length := (List.getElem?_eq_some_iff.1 hsq).1
     rcases hall q hqlt with hq | hq
     ·have := pair_kinds (hpd q hq i (by simp)) hu hsq hs
      rw [hkq, hk] at this; cases this
     ·rcases hrd with ⟨_, e⟩ | ⟨o, e, _, _, h3⟩
      ·exact absurd hk e
      ·have : rds i = o := c1 i o (by rw [e]; simp)
       rw [this] at heq
       exact h3 hk _ heq (by rw [hxid]; exact hnone q hq sq hsq hkq)
    ·intro hk; exact hnone i (by simp) s hs hk
    ·intro hk q sq hsq hkq hu
     have hqlt : q < ss.length := (List.getElem?_eq_some_iff.1 hsq).1
     rcases hall q hqlt with hq | hq
     ·have := pair_kinds (hpd q hq i (by simp)) hu hsq hs
      rw [hkq, hk] at this; cases this
     ·have h1 := hnone q hq sq hsq hkq
      have hqi : r + q ≠ r + i := by
       intro e
       have : q = i := by omega
       subst this
       rw [hs] at hsq; cases hsq
       rw [hk] at hkq; cases hkq
      rw [h1, k2 _ (by omega) hqi h1]
    ·intro hk q sq hsq hkq hu o ho
     have hqlt : q < ss.length := (List.getElem?_eq_some_iff.1 hsq).1
     rcases hef with ⟨_, e⟩ | ⟨e, hob⟩
     ·exact Rd.same_of (by rw [e hk])
     ·rcases hall q hqlt with hq | hq
      ·obtain ⟨o', ho'⟩ := hdone q hq sq hsq hkq
       have := c1 q o' (hLsub q o' ho')
       rw [ho] at this
       subst this
       exact oblR_spec hob q o ho' hu
      ·rcases List.mem_cons.1 hq with rfl | hq
       ·rw [hs] at hsq; cases hsq
        rw [hk] at hkq; cases hkq
       ·exact c3 i st st1 (by rw [e]; simp) q hq sq hsq hkq hu o ho
    ·intro i' s0 s1 hm q hq sq hsq hkq hu o ho
     rcases List.mem_cons.1 hq with rfl | hq
     ·rw [hs] at hsq; cases hsq
      rcases hrd with ⟨_, e⟩ | ⟨o', e, _, h2, _⟩
      ·exact absurd hkq e
      ·have : rds q = o' := c1 q o' (by rw [e]; simp)
       rw [ho] at this
       subst this
       exact oblE_spec (h2 hkq) i' s0 s1 hm hu
     ·exact c3 i' s0 s1 (hEsub _ hm) q hq sq hsq hkq hu o ho
   rcases onGuard_spec h with ⟨hw, h⟩ | ⟨d, b, h1, h2, h⟩
   ·cases hk : s.op.kd with
    | read =>
     rw [hk] at h
     simp only at h
     obtain ⟨ho, h⟩ := h
     obtain ⟨v, st1, q1, q2⟩ := goOp_spec hw h
     refine key v st1 _ q1 q2 (.inr ⟨_, rfl, fun _ _ => rfl, fun _ => ho, fun _ o' he => ?_⟩) (.inl ⟨rfl, fun h => by rw [hk] at h; cases h⟩)
     cases q1 with
     | skip d b g1 g2 =>
      rcases hw with hw | ⟨d', b2, hw, hb2⟩
      ·rw [g1] at hw; cases hw
      ·rw [g1] at hw; cases hw
       rw [hb2] at g2; simp [noB] at g2
     | run _ _ g1 g2 => exact read_there hk g2 o' he
     | call f args _ _ g1 g2 g3 => rw [g2] at hk; cases hk
     | callV x args f first cap _ _ g1 g2 g3 g4 => rw [g2] at hk; cases hk
    | eff =>
     rw [hk] at h
     simp only at h
     obtain ⟨v, st1, q1, q2, q3⟩ := goOp_spec hw h
     exact key v st1 _ q1 q3 (.inl ⟨rfl, by rw [hk]; simp⟩) (.inr ⟨rfl, q2⟩)
    | pure =>
     rw [hk] at h
     simp only at h
     obtain ⟨v, st1, q1, q2⟩ := goOp_spec hw h
     exact key v st1 _ q1 q2 (.inl ⟨rfl, by rw [hk]; simp⟩) (.inl ⟨rfl, fun h => by rw [hk] at h; cases h⟩)
    | alloc =>
     rw [hk] at h
     simp only at h
     obtain ⟨v, st1, q1, q2⟩ := goOp_spec hw h
     exact key v st1 _ q1 q2 (.inl ⟨rfl, by rw [hk]; simp⟩) (.inl ⟨rfl, fun h => by rw [hk] at h; cases h⟩)
    | other =>
     rw [hk] at h
     simp only at h
     obtain ⟨v, st1, q1, q2⟩ := goOp_spec hw h
     exact key v st1 _ q1 q2 (.inl ⟨rfl, by rw [hk]; simp⟩) (.inl ⟨rfl, fun h => by rw [hk] at h; cases h⟩)
   ·exact key (.tuple []) st _ (.skip d b h1 h2) h (.inr ⟨none, rfl, fun _ hw => by
     rcases hw with hw | ⟨d', b2, hw, hb2⟩
     ·rw [h1] at hw; cases hw
     ·rw [h1] at hw; cases hw
      rw [hb2] at h2; simp [noB] at h2, fun _ => trivial, fun _ o' he => by cases he⟩) (.inl ⟨rfl, fun _ => rfl⟩)
end
end
section
inductive AEx where
 | normal | exit (id : Nat) | ret
def AEx.toExit : AEx → Exit
 | .normal => .normal
 | .exit id => .exit id
 | .ret => .ret
inductive SCode where
 | skip
 | seq (a b : SCode)
 | cond (c : Opd) (a b : SCode)
 | block (id : Nat) (c : SCode)
 | loop (c : SCode)
 | exit (id : Nat)
 | ret
 | reg (ss : List SOper)
 | draw (ms ord : List Nat) (ss : List SOper)
 | frz (ts : List Nat) (c : SCode)
def SCode.strip : SCode → SCode
 | .seq a b => .seq a.strip b.strip
 | .cond c a b => .cond c a.strip b.strip
 | .block id c => .block id c.strip
 | .loop c => .loop c.strip
 | .frz _ c => c.strip
 | .reg ss => .reg (ss.map SOper.plain)
 | c => c
def frz1 (t : Nat) (e : Env) (s : St) : Env × St := match e t with
 | .ptr o 0 => match s.objs o with
  | some (.cells _ cs) => (e.set t (.iptr cs 0), s.del o)
  | _ => (e, s)
 | .row o len => match s.objs o with
  | some (.row _ _ cs) => (e.set t (.sl cs len .no), s.del o)
  | _ => (e, s)
 | _ => (e, s)
def frzs : List Nat → Env → St → Env × St
 | [], e, s => (e, s)
 | t :: ts, e, s => frzs ts (frz1 t e s).1 (frz1 t e s).2
def resCode (P : Program) (N : Nat) : Code → Option SCode
 | .skip => some .skip
 | .seq a b => match resCode P N a, resCode P N b with
  | some a, some b => some (.seq a b)
  | _, _ => none
 | .cond c a b => match resO c, resCode P N a, resCode P N b with
  | some c, some a, some b => some (.cond c a b)
  | _, _, _ => none
 | .block id c => (resCode P N c).map (.block id)
 | .loop c => (resCode P N c).map .loop
 | .exit id => some (.exit id)
 | .ret => some .ret
 | .region _ ops draw => match resList P N ops 0 ops.toList with
  | some ss => if draw then
    let ms := masks ops.toList []
    let ord := canon ops ss ops.size (List.range ops.size) []
    if drawB ops ss ms ord && P.follows .mixedOrders then some (.draw ms ord ss) else none
   else some (.reg ss)
  | none => none
 | _ => none
structure DetC (P : Program) (w0 : World) (base N : Nat) (c : Code) (env : Env) (ds : List ADef) (st : St) (ex : AEx) (env' : Env) (ds' : List ADef) (st' : St) : Prop where
 next : st.next ≤ st'.next
 keep : ∀ o, o < st.next → st.objs o = none → st'.objs o = none
 wp : ∀ (X : Nat → Option AObj) (G : Gh) (w : World) (a : Act), (∀ o, X o ≠ none → st.objs o = none) → Inv w0 base G (st.add X) w → RepFr G w N env ds a →
  c.wp P (fun e a' w' => e = ex.toExit ∧ ∃ G', Ext base G w G' w' ∧ (∀ o, o < st.next → G'.used o → G.used o) ∧ Inv w0 base G' (st'.add X) w' ∧ RepFr G' w' N env' ds' a') a w
abbrev CK := AEx → Env → List ADef → St → Prop
def iter (B : Env → List ADef → St → CK → Prop) (Q : CK) : Nat → Env → List ADef → St → Prop
 | 0, _, _, _ => False
 | n + 1, env, ds, st => B env ds st fun ex e d s => match ex with
  | .normal => iter B Q n e d s
  | ex => Q ex e d s
def LoopW (B : Env → List ADef → St → CK → Prop) (env : Env) (ds : List ADef) (st : St) (Q : CK) : Prop := ∃ n, iter B Q n env ds st
def noneAt (st : St) : List SOper → Nat → Prop
 | [], _ => True
 | s :: l, i => (match s.op.kd with | .alloc => st.objs (st.next + i) = none | _ => True) ∧ noneAt st l (i + 1)
theorem noneAt_spec {st : St} : ∀ {l : List SOper} {i : Nat}, noneAt st l i → ∀ (q : Nat) (s : SOper), l[q]? = some s → s.op.kd = .alloc → st.objs (st.next + (i + q)) = none
 | [], i, _, q, s, hq, _ => by simp at hq
 | s0 :: l, i, h, q, s, hq, hk => by
  obtain ⟨h1, h2⟩ := h
  cases q with
  | zero => simp at hq; subst hq; rw [hk] at h1; simpa using h1
  | succ q => simp at hq; have := noneAt_spec h2 q s hq hk; rwa [show i + (q + 1) = i + 1 + q from by omega]
def awp (P : Program) (w0 : World) (base : Nat) : SCode → Env → List ADef → St → CK → Prop
 | .skip, env, ds, st, Q => Q .normal env ds st
 | .seq a b, env, ds, st, Q => awp P w0 base a env ds st fun ex e d s => match ex with
  | .normal => awp P w0 base b e d s Q
  | ex => Q ex e d s
 | .cond c a b, env, ds, st, Q => match c.ev env with
  | .bool t => if t = true then awp P w0 base a env ds st Q else awp P w0 base b env ds st Q
  | _ => False
 | .block id c, env, ds, st, Q => awp P w0 base c env ds st fun ex e d s => match ex with
  | .exit i => if i = id then Q .normal e d s else Q (.exit i) e d s
  | ex => Q ex e d s
 | .loop c, env, ds, st, Q => LoopW (awp P w0 base c) env ds st Q
 | .exit id, env, ds, st, Q => Q (.exit id) env ds st
 | .ret, env, ds, st, Q => Q .ret env ds st
 | .reg ss, env, ds, st, Q => awpOps P w0 base st.next ss env ds { st with next := st.next + ss.length } fun e d s => Q .normal e d s
 | .draw ms ord ss, env, ds, st, Q => noneAt st ss 0 ∧ awpD P w0 base st.next ss (unB ms) ord env { st with next := st.next + ss.length } ⟨[], []⟩ fun e s => Q .normal e ds s
 | .frz ts c, env, ds, st, Q => awp P w0 base c env ds st fun ex e d s => Q ex (frzs ts e s).1 d (frzs ts e s).2
structure Forget (st st2 : St) : Prop where
 objs : ∀ o x, st2.objs o = some x → st.objs o = some x
 next : st2.next = st.next
section
variable {P : Program} {w0 : World} {base N : Nat}
theorem detC_seq {a b : Code} {env e1 env' : Env} {ds d1 ds' : List ADef} {st s1 st' : St} {ex : AEx} (ha : DetC P w0 base N a env ds st .normal e1 d1 s1) (hb : DetC P w0 base N b e1 d1 s1 ex env' ds' st') : DetC P w0 base N (.seq a b) env ds st ex env' ds' st' where
 next := Nat.le_trans ha.next hb.next
 keep := fun o ho hn => hb.keep o (Nat.lt_of_lt_of_le ho ha.next) (ha.keep o ho hn)
 wp := fun X G w a hX hI hR => by
  have hXs : ∀ o, X o ≠ none → o < st.next := fun o ho => by
   cases hx : X o with
   | none => exact absurd hx ho
   | some x => exact hI.scope o (hI.objs o x (by simp [St.add, hX o ho, hx])).1
  refine wp_seq (wp_mono (ha.wp X G w a hX hI hR) ?_)
  rintro e a' w' ⟨rfl, G', h1, h2, h3, h4⟩
  refine wp_mono (hb.wp X G' w' a' (fun o ho => ha.keep o (hXs o ho) (hX o ho)) h3 h4) ?_
  rintro e a2 w2 ⟨he, G2, g1, g2, g3, g4⟩
  exact ⟨he, G2, h1.trans g1, fun o ho hu => h2 o ho (g2 o (Nat.lt_of_lt_of_le ho ha.next) hu), g3, g4⟩
theorem detC_seq_out {a b : Code} {env env' : Env} {ds ds' : List ADef} {st st' : St} {ex : AEx} (hex : ex ≠ .normal) (ha : DetC P w0 base N a env ds st ex env' ds' st') : DetC P w0 base N (.seq a b) env ds st ex env' ds' st' where
 next := ha.next
 keep := ha.keep
 wp := fun X G w a hX hI hR => by
  refine wp_seq (wp_mono (ha.wp X G w a hX hI hR) ?_)
  rintro e a' w' ⟨rfl, h⟩
  cases ex with
  | normal => exact absurd rfl hex
  | exit id => exact ⟨rfl, h⟩
  | ret => exact ⟨rfl, h⟩
theorem least {p : Nat → Prop} (h : ∃ n, p n) : ∃ m, p m ∧ ∀ k, p k → m ≤ k := by
 obtain ⟨n, hn⟩ := h
 induction n using Nat.strongRecOn with
 | _ n ih =>
  by_cases h : ∃ k, k < n ∧ p k
  ·obtain ⟨k, hk, hp⟩ := h
   exact ih k hk hp
  ·exact ⟨n, hn, fun k hk => by
    rcases Nat.lt_or_ge k n with h1 | h1
    ·exact absurd ⟨k, h1, hk⟩ h
    ·exact h1⟩
open Classical in
noncomputable def leastOf (p : Nat → Prop) : Nat := if h : ∃ n, p n then Classical.choose (least h) else 0
theorem leastOf_spec {p : Nat → Prop} (h : ∃ n, p n) : p (leastOf p) ∧ ∀ k, p k → leastOf p ≤ k := by
 unfold leastOf
 rw [dif_pos h]
 exact Classical.choose_spec (least h)
inductive Path (P : Program) (w0 : World) (base N : Nat) (c : Code) (ex : AEx) (env' : Env) (ds' : List ADef) (st' : St) : Nat → Env → List ADef → St → Prop
 | last (env : Env) (ds : List ADef) (st : St) (h : DetC P w0 base N c env ds st ex env' ds' st') (he : ex ≠ .normal) : Path P w0 base N c ex env' ds' st' 0 env ds st
 | more (n : Nat) (env e1 : Env) (ds d1 : List ADef) (st s1 : St) (h : DetC P w0 base N c env ds st .normal e1 d1 s1) (h' : Path P w0 base N c ex env' ds' st' n e1 d1 s1) : Path P w0 base N c ex env' ds' st' (n + 1) env ds st
theorem path_next {c : Code} {ex : AEx} {env' : Env} {ds' : List ADef} {st' : St} {n : Nat} {env : Env} {ds : List ADef} {st : St} (h : Path P w0 base N c ex env' ds' st' n env ds st) : st.next ≤ st'.next ∧ ∀ o, o < st.next → st.objs o = none → st'.objs o = none := by
 induction h with
 | last env ds st h he => exact ⟨h.next, h.keep⟩
 | more n env e1 ds d1 st s1 h h' ih => exact ⟨Nat.le_trans h.next ih.1, fun o ho hn => ih.2 o (Nat.lt_of_lt_of_le ho h.next) (h.keep o ho hn)⟩
theorem detC_path {c : Code} {ex : AEx} {env' : Env} {ds' : List ADef} {st' : St} {n : Nat} {env : Env} {ds : List ADef} {st : St} (h : Path P w0 base N c ex env' ds' st' n env ds st) : DetC P w0 base N (.loop c) env ds st ex env' ds' st' where
 next := (path_next h).1
 keep := (path_next h).2
 wp := fun X G w a hX hI hR => by
  have hXs : ∀ o, X o ≠ none → o < st.next := fun o ho => by
   cases hx : X o with
   | none => exact absurd hx ho
   | some x => exact hI.scope o (hI.objs o x (by simp [St.add, hX o ho, hx])).1
  let R : Nat → Act → World → Prop := fun m a1 w1 => ∃ e1 d1 s1 G1, Path P w0 base N c ex env' ds' st' m e1 d1 s1 ∧ st.next ≤ s1.next ∧ (∀ o, o < st.next → st.objs o = none → s1.objs o = none) ∧
   Ext base G w G1 w1 ∧ (∀ o, o < st.next → G1.used o → G.used o) ∧ Inv w0 base G1 (s1.add X) w1 ∧ RepFr G1 w1 N e1 d1 a1
  have hR0 : R n a w := ⟨env, ds, st, G, h, Nat.le_refl _, fun _ _ h => h, Ext.refl _ _ _, fun _ _ h => h, hI, hR⟩
  refine wp_loop (fun a1 w1 => ∃ m, R m a1 w1) (fun a1 w1 => leastOf fun m => R m a1 w1) ⟨n, hR0⟩ ?_
  intro a1 w1 hex
  have hm := (leastOf_spec hex).1
  generalize hmm : leastOf (fun m => R m a1 w1) = m at hm
  obtain ⟨e1, d1, s1, G1, hp, g1, g2, g3, g4, g5, g6⟩ := hm
  have hXd : ∀ o, X o ≠ none → s1.objs o = none := fun o ho => g2 o (hXs o ho) (hX o ho)
  cases hp with
  | last _ _ _ hd he =>
   refine wp_mono (hd.wp X G1 w1 a1 hXd g5 g6) ?_
   rintro e a2 w2 ⟨rfl, G2, q1, q2, q3, q4⟩
   have hpost : ex.toExit = ex.toExit ∧ ∃ G', Ext base G w G' w2 ∧ (∀ o, o < st.next → G'.used o → G.used o) ∧ Inv w0 base G' (st'.add X) w2 ∧ RepFr G' w2 N env' ds' a2 :=
    ⟨rfl, G2, g3.trans q1, fun o ho hu => g4 o ho (q2 o (Nat.lt_of_lt_of_le ho g1) hu), q3, q4⟩
   cases ex with
   | normal => exact absurd rfl he
   | exit id => exact hpost
   | ret => exact hpost
  | more m' _ e2 _ d2 _ s2 hd hp' =>
   refine wp_mono (hd.wp X G1 w1 a1 hXd g5 g6) ?_
   rintro e a2 w2 ⟨rfl, G2, q1, q2, q3, q4⟩
   have hR2 : R m' a2 w2 := ⟨e2, d2, s2, G2, hp', Nat.le_trans g1 hd.next, fun o ho hn => hd.keep o (Nat.lt_of_lt_of_le ho g1) (g2 o ho hn), g3.trans q1, fun o ho hu => g4 o ho (q2 o (Nat.lt_of_lt_of_le ho g1) hu), q3, q4⟩
   refine ⟨⟨m', hR2⟩, ?_⟩
   have hex2 : ∃ m, R m a2 w2 := ⟨m', hR2⟩
   have := (leastOf_spec hex2).2 m' hR2
   omega
theorem detC_cond {x : Operand} {c : Opd} {a b : Code} {t : Bool} {env env' : Env} {ds ds' : List ADef} {st st' : St} {ex : AEx} (hx : resO x = some c) (ht : c.ev env = .bool t) (h : DetC P w0 base N (if t then a else b) env ds st ex env' ds' st') :
  DetC P w0 base N (.cond x a b) env ds st ex env' ds' st' where
 next := h.next
 keep := h.keep
 wp := fun X G w act hX hI hR => by
  have := ze hR.env hx
  rw [ht] at this
  simp only [Rep] at this
  exact wp_cond this (h.wp X G w act hX hI hR)
theorem detC_block {id : Nat} {c : Code} {env env' : Env} {ds ds' : List ADef} {st st' : St} {ex ex' : AEx} (h : DetC P w0 base N c env ds st ex env' ds' st') (he : ex' = (match ex with | .exit i => if i = id then .normal else .exit i | ex => ex)) :
  DetC P w0 base N (.block id c) env ds st ex' env' ds' st' where
 next := h.next
 keep := h.keep
 wp := fun X G w act hX hI hR => by
  refine wp_block (wp_mono (h.wp X G w act hX hI hR) ?_)
  rintro e a2 w2 ⟨rfl, hq⟩
  subst he
  cases ex with
  | normal => exact ⟨rfl, hq⟩
  | ret => exact ⟨rfl, hq⟩
  | exit i =>
   simp only [AEx.toExit, Exit.inBlock]
   split
   ·exact ⟨rfl, hq⟩
   ·exact ⟨rfl, hq⟩
theorem detC_stay {c : Code} {env : Env} {ds : List ADef} {st : St} {ex : AEx} (h : ∀ (Q : Exit → Act → World → Prop) a w, Q ex.toExit a w → c.wp P Q a w) : DetC P w0 base N c env ds st ex env ds st where
 next := Nat.le_refl _
 keep := fun _ _ h => h
 wp := fun X G w a hX hI hR => h _ a w ⟨rfl, G, Ext.refl _ _ _, fun _ _ h => h, hI, hR⟩
theorem iter_path {c : Code} {B : Env → List ADef → St → CK → Prop} (hB : ∀ env ds st (Q : CK), B env ds st Q → ∃ ex env' ds' st', DetC P w0 base N c env ds st ex env' ds' st' ∧ Q ex env' ds' st') {Q : CK} :
  ∀ (n : Nat) (env : Env) (ds : List ADef) (st : St), iter B Q n env ds st → ∃ ex env' ds' st', DetC P w0 base N (.loop c) env ds st ex env' ds' st' ∧ Q ex env' ds' st' := by
 have key : ∀ (n : Nat) (env : Env) (ds : List ADef) (st : St), iter B Q n env ds st → ∃ ex env' ds' st' m, Path P w0 base N c ex env' ds' st' m env ds st ∧ Q ex env' ds' st' := by
  intro n
  induction n with
  | zero => intro env ds st h; exact h.elim
  | succ n ih =>
   intro env ds st h
   simp only [iter] at h
   obtain ⟨ex, e1, d1, s1, hd, hq⟩ := hB _ _ _ _ h
   cases ex with
   | normal =>
    obtain ⟨ex, env', ds', st', m, hp, hq⟩ := ih e1 d1 s1 hq
    exact ⟨ex, env', ds', st', m + 1, .more m _ _ _ _ _ _ hd hp, hq⟩
   | exit id => exact ⟨_, _, _, _, 0, .last _ _ _ hd (by simp), hq⟩
   | ret => exact ⟨_, _, _, _, 0, .last _ _ _ hd (by simp), hq⟩
 intro n env ds st h
 obtain ⟨ex, env', ds', st', m, hp, hq⟩ := key n env ds st h
 exact ⟨ex, env', ds', st', detC_path hp, hq⟩
theorem detC_reg {id : Nat} {ops : Array Oper} {ss : List SOper} {env env' : Env} {ds ds' : List ADef} {st st' : St} (hss : resList P N ops 0 ops.toList = some (ss.map SOper.plain)) (h : RunS P w0 base st.next ss env ds { st with next := st.next + ss.length } env' ds' st') :
  DetC P w0 base N (.region id ops false) env ds st .normal env' ds' st' := by
 have hk : ∀ {l : List SOper} {e e' : Env} {d d' : List ADef} {s s' : St}, RunS P w0 base st.next l e d s e' d' s' → st.next ≤ s.next → s.next ≤ s'.next ∧ ∀ o, o < st.next → s.objs o = none → s'.objs o = none := by
  intro l e e' d d' s s' hr
  induction hr with
  | nil => exact fun _ => ⟨Nat.le_refl _, fun _ _ h => h⟩
  | cons sp l env env1 env' ds ds1 ds' st st1 st' h1 h2 ih =>
   intro hn
   obtain ⟨q1, q2⟩ := step_next h1 hn
   obtain ⟨q3, q4⟩ := ih (by omega)
   exact ⟨by omega, fun o ho hx => q4 o ho (q2 o ho hx)⟩
 obtain ⟨k1, k2⟩ := hk h (by simp)
 refine ⟨by simp at k1; omega, fun o ho hn => k2 o ho hn, fun X G w a hX hI hR => ?_⟩
 exact wp_seqRegion hss h hX hI hR fun a' w' G' q1 q2 q3 q4 => ⟨rfl, G', q1, q2, q3, q4⟩
theorem detC_draw {id : Nat} {ops : Array Oper} {ss : List SOper} {ms ord : List Nat} {env : Env} {ds : List ADef} {st : St} (hm : P.follows .mixedOrders = true) (hss : resList P N ops 0 ops.toList = some ss) (hd : drawB ops ss ms ord = true) (hwf : noneAt st ss 0)
  {K : Env → St → Prop} (h : awpD P w0 base st.next ss (unB ms) ord env { st with next := st.next + ss.length } ⟨[], []⟩ K) :
  ∃ env' st', K env' st' ∧ DetC P w0 base N (.region id ops true) env ds st .normal env' ds st' := by
 obtain ⟨hlen, hres⟩ := resList_spec ops.toList 0 ss hss (fun j => by simp)
 have hres' : ∀ (i : Nat) (s : SOper), ss[i]? = some s → Resolves P N ops i i s := fun i s h => by have := hres i s h; rwa [Nat.zero_add] at this
 have hd' := hd
 simp only [drawB, Bool.and_eq_true, beq_iff_eq, List.all_eq_true, decide_eq_true_eq] at hd'
 obtain ⟨⟨⟨⟨⟨⟨d1, d2⟩, d3⟩, d4⟩, d5⟩, d6⟩, d7⟩ := hd'
 obtain ⟨env', st', hK, rds, _, hrun, _⟩ := awpD_run (ms := ms) (fun i s h hk => resolves_kd (hres' i s h) hk) (fun i s h k hk => by
   obtain ⟨o, ho, hop, _⟩ := (hres' i s h).ex
   exact resolves_newP hop hk) ord [] env { st with next := st.next + ss.length } ⟨[], []⟩ K h d5 (fun q hq => by cases hq) (fun q hq => .inr (List.contains_iff_mem.1 (d3 q (List.mem_range.2 (by omega))))) (by simpa using d4) (Nat.le_refl _)
   (fun q _ sq hsq hk => by have := noneAt_spec hwf q sq hsq hk; rwa [Nat.zero_add] at this) (fun q hq => by cases hq) (fun q o o' h1 => by cases h1) (fun q o h1 => by cases h1)
 refine ⟨env', st', hK, ?_, ?_, ?_⟩
 ·have hk : ∀ {l : List Nat} {e e' : Env} {s s' : St}, RunD P w0 base st.next ss (unB ms) rds l e s e' s' → st.next ≤ s.next → s.next ≤ s'.next := by
   intro l e e' s s' hr
   induction hr with
   | nil => exact fun _ => Nat.le_refl _
   | cons i l s v env env' st0 st1 st' h1 h2 h3 h4 ih => intro hn; have := (step_next (does_step (ds := ds) h2) hn).1; have := ih (by omega); omega
  have := hk hrun (by simp)
  simp at this; omega
 ·have hk : ∀ {l : List Nat} {e e' : Env} {s s' : St}, RunD P w0 base st.next ss (unB ms) rds l e s e' s' → st.next ≤ s.next → ∀ o, o < st.next → s.objs o = none → s'.objs o = none := by
   intro l e e' s s' hr
   induction hr with
   | nil => exact fun _ _ _ h => h
   | cons i l s v env env' st0 st1 st' h1 h2 h3 h4 ih =>
    intro hn o ho hx
    obtain ⟨q1, q2⟩ := step_next (does_step (ds := ds) h2) hn
    exact ih (by omega) o ho (q2 o ho hx)
  exact fun o ho hn => hk hrun (by simp) o ho hn
 ·intro X G w a hX hI hR
  exact wp_draw hm hss hd hrun hX hI hR fun a' w' G' q1 q2 q3 q4 => ⟨rfl, G', q1, q2, q3, q4⟩
end
end
end Go.Proofs.YthaekebedmoipaaGreatDoor.AM
