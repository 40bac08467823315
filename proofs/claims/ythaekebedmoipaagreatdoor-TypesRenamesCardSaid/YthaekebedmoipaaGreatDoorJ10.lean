/- Part 10 of the proof: N8 N9 N10 N11 N12 N13. -/
import Derived.Test.YthaekebedmoipaaGreatDoorJ9
import Derived.Test.YthaekebedmoipaaGreatDoorJ7
set_option linter.unusedVariables false
set_option linter.unusedSimpArgs false
set_option linter.unusedSectionVars false
set_option maxRecDepth 100000
namespace Go.Proofs.YthaekebedmoipaaGreatDoor.AM
open Go Go.RowKit
section
variable {w0 : World} {base : Nat}
theorem E2 (bs : List UInt8) : EC w0 base bs (exprM bs 2) 12 2 := d30 2 (by omega)
theorem E3 (bs : List UInt8) : EC w0 base bs (exprM bs 3) 39 3 := d30 3 (by omega)
theorem K2 (bs : List UInt8) : EKc 12 (exprM bs 2) := xw 2
theorem K3 (bs : List UInt8) : EKc 39 (exprM bs 3) := xw 3
theorem vf (k op t b : Int) (n : Str) (x y : Ex) : (Sm.mk k op t b n x y [] []).cells = [vi k, vi op, vi t, vi b, .str n] ++ (x.cells ++ (y.cells ++ [.sl [] 0 .no, .sl [] 0 .no])) := by simp [Sm.cells, Sm.cellsL]
theorem zCells : zE.cells = [vi 0, vi 0, vi 0, .str [], .int .i32 0, .sl [] 0 .no] := by simp [zE, Ex.cells, Ex.cellsL]
section
variable {bs : List UInt8} {st : St} {o : Nat} {vv : AV} {s : MS}
theorem d31 (h : Mk bs st o vv s 60) : Det Tryz.prog w0 base 31 [.ptr o 0] st (.agg (storeM bs s).1.cells) (st.put o (Mo bs vv (storeM bs s).2)) := by
 refine wq (zp Tryz.func31 r31) h.obj fun hwf hfit => uh Tryz.func31 r31 rfl ?_
 clear hfit
 have hlt := hwf _ _ h.obj
 have hn0 := zj hwf
 have hnn := zf hwf
 have hU := h.U hwf
 have hgs : ∀ y, ∀ h, ([.str [97], .str [97], .str [115], .str [102], .str [112], .str [98]] : List AV)[y]'h = (AV.str (([[97], [97], [115], [102], [112], [98]] : List Str)[y]?.getD [])) := fun y hy => get_str [[97], [97], [115], [102], [112], [98]] y hy
 have hgt : ∀ y, ∀ h, ([vi 1, vi 1, vi 1, vi 2, vi 1, vi 3] : List AV)[y]'h = (vi (([1, 1, 1, 2, 1, 3] : List Int)[y]?.getD 0)) := fun y hy => vx [1, 1, 1, 2, 1, 3] y hy
 have hgn : ∀ y, ∀ h, ([vi 8, vi 8, vi 8, vi 4, vi 4, vi 4] : List AV)[y]'h = (vi (([8, 8, 8, 4, 4, 4] : List Int)[y]?.getD 0)) := fun y hy => vx [8, 8, 8, 4, 4, 4] y hy
 unfold b31 storeM
 simp -dsimp -implicitDefEqProofs [hn0, hnn, zz, hlt, zy, zx, zw, zu, loadA, oblR, oblQ, oblE]
 refine zt (m26 (h.to hwf (by simp [hlt, zy, zw, zu, h.obj]) (fun q h1 h2 => by simp [h1, h2, zx, zy]) (by simp) (Kc.refl 0 s) (by omega))) ?_
 have kx := zi (bs := bs) s
 have hx := yj bs s
 generalize nextM bs s = Rx at *
 obtain ⟨x, sx⟩ := Rx
 simp only at kx hx ⊢
 have e6 : (x : Int).tmod 6 = ((x % 6 : Nat) : Int) := yz x 6
 have y6 : x % 6 < 6 := Nat.mod_lt _ (by omega)
 generalize x % 6 = y at *
 have hyi : (y : Int) < 6 := by omega
 have hT : ([1, 1, 1, 2, 1, 3] : List Int)[y]?.getD 0 = 1 ∨ ([1, 1, 1, 2, 1, 3] : List Int)[y]?.getD 0 = 2 ∨ ([1, 1, 1, 2, 1, 3] : List Int)[y]?.getD 0 = 3 := by
  have : ∀ y, y < 6 → ([1, 1, 1, 2, 1, 3] : List Int)[y]?.getD 0 = 1 ∨ ([1, 1, 1, 2, 1, 3] : List Int)[y]?.getD 0 = 2 ∨ ([1, 1, 1, 2, 1, 3] : List Int)[y]?.getD 0 = 3 := by decide
  exact this y y6
 have hN : ([8, 8, 8, 4, 4, 4] : List Int)[y]?.getD 0 = 4 ∨ ([8, 8, 8, 4, 4, 4] : List Int)[y]?.getD 0 = 8 := by
  have : ∀ y, y < 6 → ([8, 8, 8, 4, 4, 4] : List Int)[y]?.getD 0 = 4 ∨ ([8, 8, 8, 4, 4, 4] : List Int)[y]?.getD 0 = 8 := by decide
  exact this y y6
 have hgs := hgs y
 have hgt := hgt y
 have hgn := hgn y
 generalize ([1, 1, 1, 2, 1, 3] : List Int)[y]?.getD 0 = T at *
 generalize ([8, 8, 8, 4, 4, 4] : List Int)[y]?.getD 0 = N at *
 generalize ([[97], [97], [115], [102], [112], [98]] : List Str)[y]?.getD [] = nm at *
 simp -dsimp -implicitDefEqProofs [hn0, hnn, zz, hlt, zy, zx, zw, zu, loadA, oblR, oblQ, oblE, e6, hyi, y6, hgs, hgt, hgn]
 refine zt (d56 (D := 3) (E2 bs) (K2 bs) (h.to hwf (by simp [hlt, zy, zw, zu, h.obj]) (fun q h1 h2 => by simp [h1, h2, zx, zy]) (by simp) kx (by omega)) rfl N hN) ?_
 have k1 := placeM_kc (K2 bs) N sx
 generalize placeM (exprM bs 2) N sx = R1 at *
 obtain ⟨e1, s1⟩ := R1
 simp only at k1 ⊢
 have l1 := Ex.cells_len e1
 have x1 := fun n => Ex.erase_cells n e1
 have z1 := Ex.bare_cells e1
 have t1 := Ex.take6 e1
 rw [vf]
 generalize e1.cells = c1 at *
 simp -dsimp -implicitDefEqProofs [hn0, hnn, zz, hlt, zy, zx, zw, zu, loadA, oblR, oblQ, oblE, l1, t1, hgs, hgt]
 refine zt (E3 bs _ _ _ s1 T (h.to hwf (by simp [hlt, zy, zw, zu, h.obj]) (fun q h1 h2 => by simp [h1, h2, zx, zy]) (by simp) (kx.trans k1 (Nat.le_refl _)) (by omega)) hT) ?_
 generalize exprM bs 3 T s1 = R2 at *
 obtain ⟨e2, s2⟩ := R2
 simp only
 have l2 := Ex.cells_len e2
 have x2 := fun n => Ex.erase_cells n e2
 have z2 := Ex.bare_cells e2
 generalize e2.cells = c2 at *
 have tk1 : ∀ n, 6 ≤ n → c1.take n = c1 := fun n hn => List.take_of_length_le (by omega)
 have tk2 : ∀ n, 6 ≤ n → c2.take n = c2 := fun n hn => List.take_of_length_le (by omega)
 have dk1 : ∀ n, 6 ≤ n → c1.drop n = [] := fun n hn => List.drop_of_length_le (by omega)
 have dk2 : ∀ n, 6 ≤ n → c2.drop n = [] := fun n hn => List.drop_of_length_le (by omega)
 simp -dsimp -implicitDefEqProofs [hn0, hnn, zz, hlt, zy, zx, zw, zu, loadA, oblR, oblQ, oblE, l1, l2, t1, List.drop_append, List.take_append, tk1, tk2, dk1, dk2]
 refine hold (yq hwf hlt (fun p hp => by simp [hp, zx, zy]) (hU _) (by simp [eraseA, eraseL, ym, x1, x2, AV.bare, AV.bareL, zm, z1, z2]))
end
def Vw (vv : AV) : Prop := ∀ cs n p, vv = .sl cs n p → p = .full
def rowId : AV → Option Nat
 | .row q _ => some q
 | _ => none
def After (bs : List UInt8) (st : St) (o : Nat) (vv : AV) (st' : St) (s' : MS) (c : Nat) : Prop := ∃ vv', Mk bs st' o vv' s' c ∧ Vw vv' ∧ (rowId vv' = none → vv' = vv) ∧ Kp o (rowId vv) st st' (rowId vv')
theorem yf {st : St} (h : st.wf) (o : Nat) : (st.del o).wf := by
 intro p y hy
 simp only [del_objs] at hy
 split at hy
 ·cases hy
 ·exact h p y hy
theorem kp_own {st z : St} {o : Nat} {x : AObj} (t : Option Nat) (h : Own st o x z) : Kp o t st z t := ⟨h.next, fun p hp ho _ => h.old p hp ho, .inl rfl, h.wf⟩
theorem After.trans {bs : List UInt8} {st z st' : St} {o : Nat} {vv vz : AV} {s' : MS} {c : Nat} (hz : rowId vz = none → vz = vv) (hk : Kp o (rowId vv) st z (rowId vz)) (h : After bs z o vz st' s' c) : After bs st o vv st' s' c := by
 obtain ⟨vv', h1, h2, h4, h3⟩ := h
 exact ⟨vv', h1, h2, (fun e => by have e2 := h4 e; rw [e2] at e; rw [e2]; exact hz e), hk.trans h3⟩
theorem after_new {bs : List UInt8} {st S : St} {o q' n' : Nat} {vv : AV} {s s' : MS} {C c : Nat} (h : Mk bs st o vv s C) (ho : S.objs o = some (Mo bs (.row q' n') s')) (hq : S.objs q' = some (.row 45 2 (rowOf Pa.cells s'.vars))) (hn : n' = s'.vars.length)
  (hge : st.next ≤ q') (hlt : q' < S.next) (hS : S.wf) (hnext : st.next ≤ S.next) (hold : ∀ p, p < st.next → p ≠ o → some p ≠ rowId vv → S.objs p = st.objs p)
  (b1 : s'.vars.length + c ≤ 1000000) (b0 : ∀ p ∈ s'.vars, p.typ = 1 ∨ p.typ = 2 ∨ p.typ = 3) (b2 : s'.count + c ≤ 1000000) (b3 : (c : Int) - 1000000 ≤ s'.left ∧ s'.left ≤ 1000000) (b4 : s'.at_ + c < 4611686018427387904) : After bs st o vv S s' c :=
 ⟨.row q' n', ⟨ho, .inr ⟨q', [], by rw [hn], by simpa using hq⟩, b1, b0, b2, b3, b4, h.bs, fun _ => hlt⟩, (fun _ _ _ e => (by cases e)), (fun e => by cases e), ⟨hnext, hold, .inr ⟨q', rfl, hge⟩, hS⟩⟩
section
variable {bs : List UInt8} {st : St} {o : Nat} {vv : AV} {s : MS} {c : Nat}
theorem w52 (hwf : st.wf) (h : Mk bs st o vv s (40 + c)) (hw : Vw vv) : CallW Tryz.prog w0 base 52 [.ptr o 0] st (fun v st' => v = .agg (declareM bs s).1.cells ∧ After bs st o vv st' (declareM bs s).2 c) := by
 refine callW_res (za Tryz.func52 r52 rfl ?_)
 have hlt := hwf _ _ h.obj
 have hn0 := zj hwf
 have hnn := zf hwf
 have hU := h.U hwf
 unfold b52 declareM
 simp -dsimp -implicitDefEqProofs [hn0, hnn, zz, hlt, zy, zx, zw, zu, loadA, oblR, oblQ, oblE]
 refine zt (m26 (h.to hwf (by simp [hlt, zy, zw, zu, h.obj]) (fun q h1 h2 => by simp [h1, h2, zx, zy]) (by simp) (Kc.refl 0 s) (by omega))) ?_
 have kx := zi (bs := bs) s
 have hx := yj bs s
 generalize nextM bs s = Rx at *
 obtain ⟨x, sx⟩ := Rx
 simp only at kx hx ⊢
 have e3 : (x : Int).tmod 3 = ((x % 3 : Nat) : Int) := yz x 3
 have y3 : x % 3 < 3 := Nat.mod_lt _ (by omega)
 generalize x % 3 = y at *
 have wu : IntKind.i64.wrap (1 + (y : Int)) = 1 + (y : Int) := yy (by omega) (by omega)
 have ht : 1 + (y : Int) = 1 ∨ 1 + (y : Int) = 2 ∨ 1 + (y : Int) = 3 := by omega
 simp -dsimp -implicitDefEqProofs [hn0, hnn, zz, hlt, zy, zx, zw, zu, loadA, oblR, oblQ, oblE, e3, wu]
 generalize 1 + (y : Int) = T at *
 refine zt (E3 bs _ _ _ sx T (h.to hwf (by simp [hlt, zy, zw, zu, h.obj]) (fun q h1 h2 => by simp [h1, h2, zx, zy]) (by simp) kx (by omega)) ht) ?_
 have k1 := K3 bs T sx
 generalize exprM bs 3 T sx = R1 at *
 obtain ⟨e1, s1⟩ := R1
 simp only at k1 ⊢
 have l1 := Ex.cells_len e1
 have x1 := fun n => Ex.erase_cells n e1
 have z1 := Ex.bare_cells e1
 have t1 := Ex.take6 e1
 rw [vf, zCells]
 generalize e1.cells = c1 at *
 have kk : Kc 40 s s1 := kx.trans k1 (by omega)
 have hc1 : s1.count ≤ 1000000 := by rw [kk.count]; have := h.cnt; omega
 have wc : IntKind.i64.wrap ((s1.count : Int) + 1) = (s1.count : Int) + 1 := yy (by omega) (by omega)
 simp -dsimp -implicitDefEqProofs [hn0, hnn, zz, hlt, zy, zx, zw, zu, loadA, oblR, oblQ, oblE, l1, t1, Mo_def]
 refine zt (d84 s1.count hc1 _) ?_
 have hdl := digitsP_len s1.count
 generalize digitsP s1.count = dg at *
 have hdl2 : 1 + dg.length ≤ 9223372036854775807 := by omega
 simp -dsimp -implicitDefEqProofs [hn0, hnn, zz, hlt, zy, zx, zw, zu, loadA, oblR, oblQ, oblE, l1, t1, Mo_def, strA, hdl2, wc]
 have hvl : s1.vars = s.vars := kk.vars
 have tk1 : ∀ n, 6 ≤ n → c1.take n = c1 := fun n hn => List.take_of_length_le (by omega)
 have hl6 : s.vars.length ≤ 1000000 := by have := h.len; omega
 have hrl : (rowOf Pa.cells s.vars).length = s.vars.length * 2 := x5 Pa.cells_len s.vars
 have hb1 : (s.vars.length + 1) * 24 ≤ big := by unfold big; omega
 have hb2 : s.vars.length + 1 ≤ big := by unfold big; omega
 have happ : rowOf Pa.cells s.vars ++ [.str (118 :: dg), .int .i64 T] = rowOf Pa.cells (s.vars ++ [⟨118 :: dg, T⟩]) := by rw [rowOf_append]; rfl
 rcases h.vars with ⟨p, hp⟩ | ⟨q, cs, hp, hq⟩
 ·have := hw _ _ _ hp
  subst this
  subst hp
  simp -dsimp -implicitDefEqProofs [hn0, hnn, zz, hlt, zy, zx, zw, zu, loadA, oblR, oblQ, oblE, l1, t1, hrl, hb1, hb2, happ, tk1]
  refine hold ⟨by simp [AV.bare, AV.bareL, zm, z1, List.take_append, tk1, l1], after_new (q' := st.next + 35) (n' := s.vars.length + 1) h (by simp [hlt, zx, zy, Mo_def]) (by simp [hlt, zu, zw, hvl]) (by simp [hvl]) (by simp) (by simp) ?_ (by simp) (fun p hp hpo hpq => ?_) ?_ ?_ ?_ ?_ ?_⟩
  ·repeat first | exact zk hwf | (refine zb ?_ ?_; rotate_left; focus (first | (simp; done) | (simp; omega))) | refine yf ?_ _
  ·simp only [rowId] at hpq
   simp [hp, hpo, zx, zy]
   try exact fun e => absurd (by rw [e]) hpq
  ·simp [hvl]; have := h.len; omega
  ·intro p hp
   rcases List.mem_append.1 hp with hp | hp
   ·exact h.typ p (by rw [← hvl]; exact hp)
   ·simp at hp; rw [hp]; exact ht
  ·simp; have := h.cnt; have := kk.count; omega
  ·simp; have := h.lft; have := kk.left; omega
  ·simp; have := h.at_; have := kk.at_; omega
 ·subst hp
  have hqo : q ≠ o := fun e => by rw [e, h.obj] at hq; cases hq
  have hql := hwf _ _ hq
  have hoq : ¬ o = q := fun e => hqo e.symm
  simp -dsimp -implicitDefEqProofs [hn0, hnn, zz, hlt, zy, zx, zw, zu, loadA, oblR, oblQ, oblE, l1, t1, hrl, hb1, hb2, hqo, hoq, hql, hq, happ, tk1]
  refine hold ⟨by simp [AV.bare, AV.bareL, zm, z1, List.take_append, tk1, l1], after_new (q' := st.next + 35) (n' := s.vars.length + 1) h (by simp [hlt, zx, zy, Mo_def]) (by simp [hlt, zu, zw, hvl]) (by simp [hvl]) (by simp) (by simp) ?_ (by simp) (fun p hp hpo hpq => ?_) ?_ ?_ ?_ ?_ ?_⟩
  ·repeat first | exact zk hwf | (refine zb ?_ ?_; rotate_left; focus (first | (simp; done) | (simp; omega))) | refine yf ?_ _
  ·simp only [rowId] at hpq
   simp [hp, hpo, zx, zy]
   try exact fun e => absurd (by rw [e]) hpq
  ·simp [hvl]; have := h.len; omega
  ·intro p hp
   rcases List.mem_append.1 hp with hp | hp
   ·exact h.typ p (by rw [← hvl]; exact hp)
   ·simp at hp; rw [hp]; exact ht
  ·simp; have := h.cnt; have := kk.count; omega
  ·simp; have := h.lft; have := kk.left; omega
  ·simp; have := h.at_; have := kk.at_; omega
theorem Mk.less {c' : Nat} (h : Mk bs st o vv s c) (hc : c' ≤ c) : Mk bs st o vv s c' :=
 ⟨h.obj, h.vars, by have := h.len; omega, h.typ, by have := h.cnt; omega, by have := h.lft; omega, by have := h.at_; omega, h.bs, h.und⟩
theorem after_own {z : St} {s' : MS} {k C c : Nat} (hwf : st.wf) (h : Mk bs st o vv s C) (hw : Vw vv) (hO : Own st o (Mo bs vv s') z) (hk : Kc k s s') (hc : k + c ≤ C) : After bs st o vv z s' c :=
 ⟨vv, h.own hwf hO hk hc, hw, fun _ => rfl, kp_own _ hO⟩
theorem varAt_get (l : List Pa) (j : Nat) (h : j < l.length) : l[j]? = some (varAt l j) := by
 simp [varAt, h]
theorem After.boxed {S z : St} {x : AObj} {s' : MS} {q : Nat} (hO : Own st o x S) (hq1 : st.next ≤ q) (hq2 : q < S.next) (hq3 : some q ≠ rowId vv) (hA : After bs S o vv z s' c) :
  z.objs q = S.objs q ∧ ∀ n Y, After bs st o vv ((z.bump n).put q Y) s' c := by
 obtain ⟨vv', hm, hw, hsl, hk⟩ := hA
 have hlt := hO.lt
 have hqo : q ≠ o := by omega
 have hq4 : q < z.next := Nat.lt_of_lt_of_le hq2 hk.next
 have hq5 : some q ≠ rowId vv' := by
  rcases hk.tok with e | ⟨r, e, hr⟩
  ·rw [e]; exact hq3
  ·rw [e]; intro e'; cases e'; omega
 refine ⟨hk.same q hq2 hqo hq3, fun n Y => ⟨vv', ⟨?_, ?_, hm.len, hm.typ, hm.cnt, hm.lft, hm.at_, hm.bs, fun _ => ?_⟩, hw, hsl, ?_⟩⟩
 ·rw [yh, if_neg (Ne.symm hqo)]; exact hm.obj
 ·rcases hm.vars with ⟨p, e⟩ | ⟨r, cs, e, hr⟩
  ·exact .inl ⟨p, e⟩
  ·refine .inr ⟨r, cs, e, ?_⟩
   have : r ≠ q := by rintro rfl; exact hq5 (by rw [e]; rfl)
   rw [yh, if_neg this]; exact hr
 ·exact ws (fun p hp => Nat.lt_of_lt_of_le hp (Nat.le_add_right _ _)) _ (hm.und hk.wf)
 ·have h3 := (kp_own (rowId vv) hO).trans hk
  refine ⟨Nat.le_trans h3.next (Nat.le_add_right _ _), fun p hp hpo hpt => ?_, h3.tok, zb (zk hk.wf) (Nat.lt_of_lt_of_le hq4 (Nat.le_add_right _ _))⟩
  rw [yh, if_neg (by omega)]
  exact h3.same p hp hpo hpt
theorem row_ne {q p : Nat} (hu : vv.under (· < q)) (hp : q ≤ p) : some p ≠ rowId vv := by
 cases vv <;> simp only [rowId, ne_eq, reduceCtorEq, not_false_eq_true, Option.some.injEq]
 rintro rfl
 simp only [AV.under] at hu
 omega
theorem w53 (hwf : st.wf) (h : Mk bs st o vv s (40 + c)) (hw : Vw vv) (f : Nat) (hf : f ≤ 1000) : CallW Tryz.prog w0 base 53 [.ptr o 0, vi f] st (fun v st' => v = .agg (setM bs f s).1.cells ∧ After bs st o vv st' (setM bs f s).2 c) := by
 refine callW_res (za Tryz.func53 r53 rfl ?_)
 have hlt := hwf _ _ h.obj
 have hn0 := zj hwf
 have hnn := zf hwf
 have hU := h.U hwf
 have hu := h.und hwf
 have ho := h.obj
 rw [Mo_def] at ho
 obtain ⟨cv, hcell, hv⟩ := vars_read h.vars
 unfold b53 setM
 have hvq : (∃ p, vv = .sl cv s.vars.length p ∧ o < st.next ∧ o < st.next ∧ st.objs o = some (.cells 75 [.sl (bs.map vb) bs.length .no, vi s.at_, vv, vi s.count, vi s.left, .bool s.call, .bool s.loads])) ∨
   ∃ q, vv = .row q s.vars.length ∧ ¬ q = o ∧ ¬ q = st.next ∧ st.objs q = some (.row 45 2 cv) := by
  rcases hv with ⟨p, e⟩ | ⟨q, e, hq⟩
  ·exact .inl ⟨p, e, hlt, hlt, ho⟩
  ·exact .inr ⟨q, e, (fun e => by rw [e, ho] at hq; cases hq), (fun e => by have := hwf _ _ hq; omega), hq⟩
 rcases hvq with ⟨p, rfl, hqo, hqn, hq⟩ | ⟨q, rfl, hqo, hqn, hq⟩
 all_goals
  simp -dsimp -implicitDefEqProofs [hn0, hnn, zz, hlt, zy, zx, zw, zu, loadA, oblR, oblQ, oblE, ho]
  refine Br_iff (fun hb => ?_) (fun hb => ?_)
  ·have hle : s.vars.length ≤ f := by simpa using hb
   rw [if_pos hle]
   simp -dsimp -implicitDefEqProofs [hn0, hnn, zz, hlt, zy, zx, zw, zu, loadA, oblR, oblQ, oblE, ho]
   have hO := fun k Y => own_new (k := k + 1) (q := st.next) (xy hwf h.obj) Y (by simp) (by simp)
   refine yu (w52 (c := c) (hO 10 _).wf (h.own hwf (hO 10 _) (Kc.refl 0 s) (by omega)) hw) (by simp [AV.bareL, AV.bare]) fun v z hvz => ?_
   obtain ⟨rfl, hA⟩ := hvz
   obtain ⟨hbx, hA⟩ := hA.boxed (hO 10 _) (Nat.le_refl _) (by simp) (row_ne hu (Nat.le_refl _))
   rw [yh, if_pos rfl] at hbx
   have l1 := Sm.cells_len (declareM bs s).1
   have z1 := Sm.bare_cells (declareM bs s).1
   have t1 : (declareM bs s).1.cells.take 19 = (declareM bs s).1.cells := List.take_of_length_le (by omega)
   generalize (declareM bs s).1.cells = c1 at *
   simp -dsimp -implicitDefEqProofs [hn0, hnn, zz, hlt, zy, zx, zw, zu, loadA, oblR, oblQ, oblE, hbx, l1, t1]
   exact hold ⟨by simp [AV.bare, z1], hA 0 _⟩
  ·have hle : ¬ s.vars.length ≤ f := by simpa using hb
   rw [if_neg hle]
   simp -dsimp -implicitDefEqProofs [hn0, hnn, zz, hlt, zy, zx, zw, zu, loadA, oblR, oblQ, oblE, ho]
   refine zt (m26 (h.to hwf (by simp [hlt, zy, zw, zu, h.obj]) (fun q h1 h2 => by simp [h1, h2, zx, zy]) (by simp) (Kc.refl 0 s) (by omega))) ?_
   have kx := zi (bs := bs) s
   have hx := yj bs s
   generalize nextM bs s = Rx at *
   obtain ⟨x, sx⟩ := Rx
   simp only at kx hx ⊢
   have hL : s.vars.length ≤ 1000000 := by have := h.len; omega
   have hsub : IntKind.i64.wrap ((s.vars.length : Int) - (f : Int)) = ((s.vars.length - f : Nat) : Int) := by rw [yy (by omega) (by omega)]; omega
   have hpos : 0 < s.vars.length - f := by omega
   have hrem := yz x (s.vars.length - f)
   have hadd : IntKind.i64.wrap ((f : Int) + ((x % (s.vars.length - f) : Nat) : Int)) = ((f + x % (s.vars.length - f) : Nat) : Int) := by
    have := Nat.mod_lt x hpos
    rw [yy (by omega) (by omega)]; omega
   have hD0 : ¬ (s.vars.length - f) = 0 := by omega
   have hjl : f + x % (s.vars.length - f) < s.vars.length := by have := Nat.mod_lt x hpos; omega
   have hgj := varAt_get s.vars _ hjl
   obtain ⟨-, -, c3, c4⟩ := hcell _ _ hgj
   have hty := h.typ _ (List.mem_of_getElem? hgj)
   generalize varAt s.vars (f + x % (s.vars.length - f)) = pa at *
   generalize f + x % (s.vars.length - f) = j at *
   generalize x % (s.vars.length - f) = y at *
   generalize hDD : s.vars.length - f = D at *
   have hD0' : ¬ (D : Int) = 0 := by omega
   have hjl' : (j : Int) < s.vars.length := by omega
   simp -dsimp -implicitDefEqProofs [hn0, hnn, zz, hlt, zy, zx, zw, zu, loadA, oblR, oblQ, oblE, ho, Mo_def, hsub, hrem, hadd, hD0, hjl, c3, c4, hqo, hqn, hq]
   refine zt (E3 bs _ _ _ sx pa.typ (h.to hwf (by simp [hlt, zy, zw, zu, h.obj, Mo_def]) (fun q h1 h2 => by simp [h1, h2, zx, zy]) (by simp) kx (by omega)) hty) ?_
   have k1 := K3 bs pa.typ sx
   generalize exprM bs 3 pa.typ sx = R1 at *
   obtain ⟨e1, s1⟩ := R1
   simp only at k1 ⊢
   have l1 := Ex.cells_len e1
   have z1 := Ex.bare_cells e1
   rw [vf, zCells]
   generalize e1.cells = c1 at *
   have tk1 : ∀ n, 6 ≤ n → c1.take n = c1 := fun n hn => List.take_of_length_le (by omega)
   have dk1 : ∀ n, 6 ≤ n → c1.drop n = [] := fun n hn => List.drop_of_length_le (by omega)
   simp -dsimp -implicitDefEqProofs [hn0, hnn, zz, hlt, zy, zx, zw, zu, loadA, oblR, oblQ, oblE, l1, tk1, dk1, List.take_append, List.drop_append]
   refine hold ⟨by simp [AV.bare, AV.bareL, zm, z1], after_own hwf h hw ⟨?_, by simp, hlt, by simp [hlt, zy], fun p h1 h2 => by simp [h1, h2, zx, zy]⟩ (kx.trans k1 (Nat.le_refl _)) (by omega)⟩
   repeat first | exact zk hwf | (refine zb ?_ ?_; rotate_left; focus (first | (simp; done) | (simp; omega))) | refine yf ?_ _
end
end
section
variable {w0 : World} {base : Nat}
section
variable {bs : List UInt8} {st : St} {o : Nat} {vv : AV} {s : MS} {c : Nat}
theorem w55 (hwf : st.wf) (h : Mk bs st o vv s (45 + c)) (hw : Vw vv) (f : Nat) (hf : f ≤ 1000) : CallW Tryz.prog w0 base 55 [.ptr o 0, vi f] st (fun v st' => v = .agg (collectedM bs f s).1.cells ∧ After bs st o vv st' (collectedM bs f s).2 c) := by
 refine callW_res (za Tryz.func55 r55 rfl ?_)
 have hlt := hwf _ _ h.obj
 have hn0 := zj hwf
 have hnn := zf hwf
 have hU := h.U hwf
 have hu := h.und hwf
 have ho := h.obj
 rw [Mo_def] at ho
 obtain ⟨cv, hcell, hv⟩ := vars_read h.vars
 unfold b55 collectedM
 have hvq : (∃ p, vv = .sl cv s.vars.length p ∧ o < st.next ∧ o < st.next ∧ st.objs o = some (.cells 75 [.sl (bs.map vb) bs.length .no, vi s.at_, vv, vi s.count, vi s.left, .bool s.call, .bool s.loads])) ∨
   ∃ q, vv = .row q s.vars.length ∧ ¬ q = o ∧ ¬ q = st.next ∧ st.objs q = some (.row 45 2 cv) := by
  rcases hv with ⟨p, e⟩ | ⟨q, e, hq⟩
  ·exact .inl ⟨p, e, hlt, hlt, ho⟩
  ·exact .inr ⟨q, e, (fun e => by rw [e, ho] at hq; cases hq), (fun e => by have := hwf _ _ hq; omega), hq⟩
 rcases hvq with ⟨p, rfl, hqo, hqn, hq⟩ | ⟨q, rfl, hqo, hqn, hq⟩
 all_goals
  simp -dsimp -implicitDefEqProofs [hn0, hnn, zz, hlt, zy, zx, zw, zu, loadA, oblR, oblQ, oblE, ho]
  refine Br_iff (fun hb => ?_) (fun hb => ?_)
  ·have hle : s.vars.length ≤ f := by simpa using hb
   rw [if_pos hle]
   simp -dsimp -implicitDefEqProofs [hn0, hnn, zz, hlt, zy, zx, zw, zu, loadA, oblR, oblQ, oblE, ho]
   have hO := fun k Y => own_new (k := k + 1) (q := st.next) (xy hwf h.obj) Y (by simp) (by simp)
   refine yu (w52 (c := c) (hO 10 _).wf (h.own hwf (hO 10 _) (Kc.refl 0 s) (by omega)) hw) (by simp [AV.bareL, AV.bare]) fun v z hvz => ?_
   obtain ⟨rfl, hA⟩ := hvz
   obtain ⟨hbx, hA⟩ := hA.boxed (hO 10 _) (Nat.le_refl _) (by simp) (row_ne hu (Nat.le_refl _))
   rw [yh, if_pos rfl] at hbx
   have l1 := Sm.cells_len (declareM bs s).1
   have z1 := Sm.bare_cells (declareM bs s).1
   have t1 : (declareM bs s).1.cells.take 19 = (declareM bs s).1.cells := List.take_of_length_le (by omega)
   generalize (declareM bs s).1.cells = c1 at *
   simp -dsimp -implicitDefEqProofs [hn0, hnn, zz, hlt, zy, zx, zw, zu, loadA, oblR, oblQ, oblE, hbx, l1, t1]
   exact hold ⟨by simp [AV.bare, z1], hA 0 _⟩
  ·have hle : ¬ s.vars.length ≤ f := by simpa using hb
   rw [if_neg hle]
   simp -dsimp -implicitDefEqProofs [hn0, hnn, zz, hlt, zy, zx, zw, zu, loadA, oblR, oblQ, oblE, ho]
   refine zt (m26 (h.to hwf (by simp [hlt, zy, zw, zu, h.obj]) (fun q h1 h2 => by simp [h1, h2, zx, zy]) (by simp) (Kc.refl 0 s) (by omega))) ?_
   have kx := zi (bs := bs) s
   have hx := yj bs s
   generalize nextM bs s = Rx at *
   obtain ⟨x, sx⟩ := Rx
   simp only at kx hx ⊢
   have hL : s.vars.length ≤ 1000000 := by have := h.len; omega
   have hsub : IntKind.i64.wrap ((s.vars.length : Int) - (f : Int)) = ((s.vars.length - f : Nat) : Int) := by rw [yy (by omega) (by omega)]; omega
   have hpos : 0 < s.vars.length - f := by omega
   have hrem := yz x (s.vars.length - f)
   have hadd : IntKind.i64.wrap ((f : Int) + ((x % (s.vars.length - f) : Nat) : Int)) = ((f + x % (s.vars.length - f) : Nat) : Int) := by
    have := Nat.mod_lt x hpos
    rw [yy (by omega) (by omega)]; omega
   have hD0 : ¬ (s.vars.length - f) = 0 := by omega
   have hjl : f + x % (s.vars.length - f) < s.vars.length := by have := Nat.mod_lt x hpos; omega
   have hgj := varAt_get s.vars _ hjl
   obtain ⟨-, -, c3, c4⟩ := hcell _ _ hgj
   have hty := h.typ _ (List.mem_of_getElem? hgj)
   generalize varAt s.vars (f + x % (s.vars.length - f)) = pa at *
   generalize f + x % (s.vars.length - f) = j at *
   generalize x % (s.vars.length - f) = y at *
   generalize hDD : s.vars.length - f = D at *
   have hD0' : ¬ (D : Int) = 0 := by omega
   have hjl' : (j : Int) < s.vars.length := by omega
   simp -dsimp -implicitDefEqProofs [hn0, hnn, zz, hlt, zy, zx, zw, zu, loadA, oblR, oblQ, oblE, ho, Mo_def, hsub, hrem, hadd, hD0, hjl, c3, c4, hqo, hqn, hq]
   by_cases h3 : pa.typ = 3
   ·have b3 : (pa.typ == 3) = true := by simpa using h3
    rw [if_pos h3]
    simp -dsimp -implicitDefEqProofs [hn0, hnn, zz, hlt, zy, zx, zw, zu, loadA, oblR, oblQ, oblE, b3]
    refine zt (m26 (h.to hwf (by simp [hlt, zy, zw, zu, h.obj, Mo_def]) (fun q h1 h2 => by simp [h1, h2, zx, zy]) (by simp) kx (by omega))) ?_
    have ky := zi (bs := bs) sx
    have hy := yj bs sx
    generalize nextM bs sx = Ry at *
    obtain ⟨y, sy⟩ := Ry
    simp only at ky hy ⊢
    have kxy : Kc 2 s sy := kx.trans ky (by omega)
    have e2x : (y : Int).tmod 2 = ((y % 2 : Nat) : Int) := yz y 2
    have y2 : y % 2 < 2 := Nat.mod_lt _ (by omega)
    generalize y % 2 = u at *
    have wu : IntKind.i64.wrap (2 + (u : Int)) = 2 + (u : Int) := yy (by omega) (by omega)
    simp -dsimp -implicitDefEqProofs [hn0, hnn, zz, hlt, zy, zx, zw, zu, loadA, oblR, oblQ, oblE, b3, e2x, wu]
    refine zt (E3 bs _ _ _ sy 3 (h.to hwf (by simp [hlt, zy, zw, zu, h.obj, Mo_def]) (fun q h1 h2 => by simp [h1, h2, zx, zy]) (by simp) kxy (by omega)) (.inr (.inr rfl))) ?_
    have k1 := K3 bs 3 sy
    generalize exprM bs 3 3 sy = R1 at *
    obtain ⟨e1, s1⟩ := R1
    simp only at k1 ⊢
    have l1 := Ex.cells_len e1
    have z1 := Ex.bare_cells e1
    rw [vf, zCells]
    generalize e1.cells = c1 at *
    have tk1 : ∀ n, 6 ≤ n → c1.take n = c1 := fun n hn => List.take_of_length_le (by omega)
    have dk1 : ∀ n, 6 ≤ n → c1.drop n = [] := fun n hn => List.drop_of_length_le (by omega)
    simp -dsimp -implicitDefEqProofs [hn0, hnn, zz, hlt, zy, zx, zw, zu, loadA, oblR, oblQ, oblE, wu, l1, tk1, dk1, List.take_append, List.drop_append]
    refine hold ⟨by simp [AV.bare, AV.bareL, zm, z1], after_own hwf h hw ⟨?_, by simp, hlt, by simp [hlt, zy], fun p h1 h2 => by simp [h1, h2, zx, zy]⟩ (kxy.trans k1 (Nat.le_refl _)) (by omega)⟩
    repeat first | exact zk hwf | (refine zb ?_ ?_; rotate_left; focus (first | (simp; done) | (simp; omega))) | refine yf ?_ _
   have b3 : (pa.typ == 3) = false := by simpa using h3
   rw [if_neg h3]
   simp -dsimp -implicitDefEqProofs [hn0, hnn, zz, hlt, zy, zx, zw, zu, loadA, oblR, oblQ, oblE, b3]
   refine zt (m26 (h.to hwf (by simp [hlt, zy, zw, zu, h.obj, Mo_def]) (fun q h1 h2 => by simp [h1, h2, zx, zy]) (by simp) kx (by omega))) ?_
   have ky := zi (bs := bs) sx
   have hy := yj bs sx
   generalize nextM bs sx = Ry at *
   obtain ⟨y, sy⟩ := Ry
   simp only at ky hy ⊢
   have kxy : Kc 2 s sy := kx.trans ky (by omega)
   have e4x : (y : Int).tmod 4 = ((y % 4 : Nat) : Int) := yz y 4
   have y4 : y % 4 < 4 := Nat.mod_lt _ (by omega)
   generalize y % 4 = u at *
   have hui : (u : Int) < 4 := by omega
   have hg4 : ∀ h, ([vi 5, vi 6, vi 4, vi 1] : List AV)[u]'h = (vi (([5, 6, 4, 1] : List Int)[u]?.getD 0)) := fun hy => vx [5, 6, 4, 1] u hy
   generalize ([5, 6, 4, 1] : List Int)[u]?.getD 0 = op at *
   simp -dsimp -implicitDefEqProofs [hn0, hnn, zz, hlt, zy, zx, zw, zu, loadA, oblR, oblQ, oblE, b3, e4x, y4, hui, hg4]
   by_cases h1 : op = 1 ∧ pa.typ = 1
   ·have b1 : (op == 1) = true := by simpa using h1.1
    have b2 : (pa.typ == 1) = true := by simpa using h1.2
    rw [if_pos h1]
    simp -dsimp -implicitDefEqProofs [hn0, hnn, zz, hlt, zy, zx, zw, zu, loadA, oblR, oblQ, oblE, b1, b2]
    refine zt (E3 bs _ _ _ sy 3 (h.to hwf (by simp [hlt, zy, zw, zu, h.obj, Mo_def]) (fun q h1 h2 => by simp [h1, h2, zx, zy]) (by simp) kxy (by omega)) (.inr (.inr rfl))) ?_
    have k1 := K3 bs 3 sy
    generalize exprM bs 3 3 sy = R1 at *
    obtain ⟨e1, s1⟩ := R1
    simp only at k1 ⊢
    have l1 := Ex.cells_len e1
    have z1 := Ex.bare_cells e1
    rw [vf, zCells]
    generalize e1.cells = c1 at *
    have tk1 : ∀ n, 6 ≤ n → c1.take n = c1 := fun n hn => List.take_of_length_le (by omega)
    have dk1 : ∀ n, 6 ≤ n → c1.drop n = [] := fun n hn => List.drop_of_length_le (by omega)
    simp -dsimp -implicitDefEqProofs [hn0, hnn, zz, hlt, zy, zx, zw, zu, loadA, oblR, oblQ, oblE, l1, tk1, dk1, List.take_append, List.drop_append]
    refine hold ⟨by simp [AV.bare, AV.bareL, zm, z1], after_own hwf h hw ⟨?_, by simp, hlt, by simp [hlt, zy], fun p h1 h2 => by simp [h1, h2, zx, zy]⟩ (kxy.trans k1 (Nat.le_refl _)) (by omega)⟩
    repeat first | exact zk hwf | (refine zb ?_ ?_; rotate_left; focus (first | (simp; done) | (simp; omega))) | refine yf ?_ _
   rw [if_neg h1]
   by_cases ho1 : op = 1
   ·have b1 : (op == 1) = true := by simpa using ho1
    have b2 : (pa.typ == 1) = false := by
     have : ¬ pa.typ = 1 := fun e => h1 ⟨ho1, e⟩
     simpa using this
    by_cases h4 : op = 4
    ·have b4 : (op == 4) = true := by simpa using h4
     rw [if_pos h4]
     simp -dsimp -implicitDefEqProofs [hn0, hnn, zz, hlt, zy, zx, zw, zu, loadA, oblR, oblQ, oblE, b1, b2, b4]
     refine zt (E2 bs _ _ _ sy pa.typ (h.to hwf (by simp [hlt, zy, zw, zu, h.obj, Mo_def]) (fun q h1 h2 => by simp [h1, h2, zx, zy]) (by simp) kxy (by omega)) hty) ?_
     have k1 := K2 bs pa.typ sy
     generalize exprM bs 2 pa.typ sy = R1 at *
     obtain ⟨e1, s1⟩ := R1
     simp only at k1 ⊢
     have l1 := Ex.cells_len e1
     have z1 := Ex.bare_cells e1
     simp -dsimp -implicitDefEqProofs [hn0, hnn, zz, hlt, zy, zx, zw, zu, loadA, oblR, oblQ, oblE, b1, b2, b4, l1]
     refine zt (E2 bs _ _ _ s1 1 (h.to hwf (by simp [hlt, zy, zw, zu, h.obj, Mo_def]) (fun q h1 h2 => by simp [h1, h2, zx, zy]) (by simp) (kxy.trans k1 (Nat.le_refl _)) (by omega)) (.inl rfl)) ?_
     have k2 := K2 bs 1 s1
     generalize exprM bs 2 1 s1 = R2 at *
     obtain ⟨e2, s2⟩ := R2
     simp only at k2 ⊢
     have l2 := Ex.cells_len e2
     have z2 := Ex.bare_cells e2
     rw [vf]
     generalize e1.cells = c1 at *
     have tk1 : ∀ n, 6 ≤ n → c1.take n = c1 := fun n hn => List.take_of_length_le (by omega)
     have dk1 : ∀ n, 6 ≤ n → c1.drop n = [] := fun n hn => List.drop_of_length_le (by omega)
     generalize e2.cells = c2 at *
     have tk2 : ∀ n, 6 ≤ n → c2.take n = c2 := fun n hn => List.take_of_length_le (by omega)
     have dk2 : ∀ n, 6 ≤ n → c2.drop n = [] := fun n hn => List.drop_of_length_le (by omega)
     simp -dsimp -implicitDefEqProofs [hn0, hnn, zz, hlt, zy, zx, zw, zu, loadA, oblR, oblQ, oblE, l1, tk1, dk1, l2, tk2, dk2, List.take_append, List.drop_append]
     refine hold ⟨by simp [AV.bare, AV.bareL, zm, z1, z2], after_own hwf h hw ⟨?_, by simp, hlt, by simp [hlt, zy], fun p h1 h2 => by simp [h1, h2, zx, zy]⟩ (kxy.trans (k1.trans k2 (Nat.le_refl _)) (Nat.le_refl _)) (by omega)⟩
     repeat first | exact zk hwf | (refine zb ?_ ?_; rotate_left; focus (first | (simp; done) | (simp; omega))) | refine yf ?_ _
    ·have b4 : (op == 4) = false := by simpa using h4
     rw [if_neg h4]
     simp -dsimp -implicitDefEqProofs [hn0, hnn, zz, hlt, zy, zx, zw, zu, loadA, oblR, oblQ, oblE, b1, b2, b4]
     refine zt (m26 (h.to hwf (by simp [hlt, zy, zw, zu, h.obj, Mo_def]) (fun q h1 h2 => by simp [h1, h2, zx, zy]) (by simp) kxy (by omega))) ?_
     have kv := zi (bs := bs) sy
     have hv := yj bs sy
     generalize nextM bs sy = Rv at *
     obtain ⟨v, sv⟩ := Rv
     simp only at kv hv ⊢
     have kxyv : Kc 3 s sv := kxy.trans kv (by omega)
     have e2x : (v : Int).tmod 2 = ((v % 2 : Nat) : Int) := yz v 2
     have v2 : v % 2 < 2 := Nat.mod_lt _ (by omega)
     generalize v % 2 = w at *
     have hwi : (w : Int) < 2 := by omega
     have hg2 : ∀ h, ([vi 5, vi 6] : List AV)[w]'h = (vi (([5, 6] : List Int)[w]?.getD 0)) := fun hy => vx [5, 6] w hy
     generalize ([5, 6] : List Int)[w]?.getD 0 = op2 at *
     simp -dsimp -implicitDefEqProofs [hn0, hnn, zz, hlt, zy, zx, zw, zu, loadA, oblR, oblQ, oblE, b1, b2, b4, e2x, v2, hwi, hg2]
     refine zt (E3 bs _ _ _ sv pa.typ (h.to hwf (by simp [hlt, zy, zw, zu, h.obj, Mo_def]) (fun q h1 h2 => by simp [h1, h2, zx, zy]) (by simp) kxyv (by omega)) hty) ?_
     have k1 := K3 bs pa.typ sv
     generalize exprM bs 3 pa.typ sv = R1 at *
     obtain ⟨e1, s1⟩ := R1
     simp only at k1 ⊢
     have l1 := Ex.cells_len e1
     have z1 := Ex.bare_cells e1
     rw [vf, zCells]
     generalize e1.cells = c1 at *
     have tk1 : ∀ n, 6 ≤ n → c1.take n = c1 := fun n hn => List.take_of_length_le (by omega)
     have dk1 : ∀ n, 6 ≤ n → c1.drop n = [] := fun n hn => List.drop_of_length_le (by omega)
     simp -dsimp -implicitDefEqProofs [hn0, hnn, zz, hlt, zy, zx, zw, zu, loadA, oblR, oblQ, oblE, hg2, l1, tk1, dk1, List.take_append, List.drop_append]
     refine hold ⟨by simp [AV.bare, AV.bareL, zm, z1], after_own hwf h hw ⟨?_, by simp, hlt, by simp [hlt, zy], fun p h1 h2 => by simp [h1, h2, zx, zy]⟩ (kxyv.trans k1 (Nat.le_refl _)) (by omega)⟩
     repeat first | exact zk hwf | (refine zb ?_ ?_; rotate_left; focus (first | (simp; done) | (simp; omega))) | refine yf ?_ _
   ·have b1 : (op == 1) = false := by simpa using ho1
    have b2 : True := trivial
    by_cases h4 : op = 4
    ·have b4 : (op == 4) = true := by simpa using h4
     rw [if_pos h4]
     simp -dsimp -implicitDefEqProofs [hn0, hnn, zz, hlt, zy, zx, zw, zu, loadA, oblR, oblQ, oblE, b1, b2, b4]
     refine zt (E2 bs _ _ _ sy pa.typ (h.to hwf (by simp [hlt, zy, zw, zu, h.obj, Mo_def]) (fun q h1 h2 => by simp [h1, h2, zx, zy]) (by simp) kxy (by omega)) hty) ?_
     have k1 := K2 bs pa.typ sy
     generalize exprM bs 2 pa.typ sy = R1 at *
     obtain ⟨e1, s1⟩ := R1
     simp only at k1 ⊢
     have l1 := Ex.cells_len e1
     have z1 := Ex.bare_cells e1
     simp -dsimp -implicitDefEqProofs [hn0, hnn, zz, hlt, zy, zx, zw, zu, loadA, oblR, oblQ, oblE, b1, b2, b4, l1]
     refine zt (E2 bs _ _ _ s1 1 (h.to hwf (by simp [hlt, zy, zw, zu, h.obj, Mo_def]) (fun q h1 h2 => by simp [h1, h2, zx, zy]) (by simp) (kxy.trans k1 (Nat.le_refl _)) (by omega)) (.inl rfl)) ?_
     have k2 := K2 bs 1 s1
     generalize exprM bs 2 1 s1 = R2 at *
     obtain ⟨e2, s2⟩ := R2
     simp only at k2 ⊢
     have l2 := Ex.cells_len e2
     have z2 := Ex.bare_cells e2
     rw [vf]
     generalize e1.cells = c1 at *
     have tk1 : ∀ n, 6 ≤ n → c1.take n = c1 := fun n hn => List.take_of_length_le (by omega)
     have dk1 : ∀ n, 6 ≤ n → c1.drop n = [] := fun n hn => List.drop_of_length_le (by omega)
     generalize e2.cells = c2 at *
     have tk2 : ∀ n, 6 ≤ n → c2.take n = c2 := fun n hn => List.take_of_length_le (by omega)
     have dk2 : ∀ n, 6 ≤ n → c2.drop n = [] := fun n hn => List.drop_of_length_le (by omega)
     simp -dsimp -implicitDefEqProofs [hn0, hnn, zz, hlt, zy, zx, zw, zu, loadA, oblR, oblQ, oblE, l1, tk1, dk1, l2, tk2, dk2, List.take_append, List.drop_append]
     refine hold ⟨by simp [AV.bare, AV.bareL, zm, z1, z2], after_own hwf h hw ⟨?_, by simp, hlt, by simp [hlt, zy], fun p h1 h2 => by simp [h1, h2, zx, zy]⟩ (kxy.trans (k1.trans k2 (Nat.le_refl _)) (Nat.le_refl _)) (by omega)⟩
     repeat first | exact zk hwf | (refine zb ?_ ?_; rotate_left; focus (first | (simp; done) | (simp; omega))) | refine yf ?_ _
    ·have b4 : (op == 4) = false := by simpa using h4
     rw [if_neg h4]
     simp -dsimp -implicitDefEqProofs [hn0, hnn, zz, hlt, zy, zx, zw, zu, loadA, oblR, oblQ, oblE, b1, b2, b4]
     refine zt (m26 (h.to hwf (by simp [hlt, zy, zw, zu, h.obj, Mo_def]) (fun q h1 h2 => by simp [h1, h2, zx, zy]) (by simp) kxy (by omega))) ?_
     have kv := zi (bs := bs) sy
     have hv := yj bs sy
     generalize nextM bs sy = Rv at *
     obtain ⟨v, sv⟩ := Rv
     simp only at kv hv ⊢
     have kxyv : Kc 3 s sv := kxy.trans kv (by omega)
     have e2x : (v : Int).tmod 2 = ((v % 2 : Nat) : Int) := yz v 2
     have v2 : v % 2 < 2 := Nat.mod_lt _ (by omega)
     generalize v % 2 = w at *
     have hwi : (w : Int) < 2 := by omega
     have hg2 : ∀ h, ([vi 5, vi 6] : List AV)[w]'h = (vi (([5, 6] : List Int)[w]?.getD 0)) := fun hy => vx [5, 6] w hy
     generalize ([5, 6] : List Int)[w]?.getD 0 = op2 at *
     simp -dsimp -implicitDefEqProofs [hn0, hnn, zz, hlt, zy, zx, zw, zu, loadA, oblR, oblQ, oblE, b1, b2, b4, e2x, v2, hwi, hg2]
     refine zt (E3 bs _ _ _ sv pa.typ (h.to hwf (by simp [hlt, zy, zw, zu, h.obj, Mo_def]) (fun q h1 h2 => by simp [h1, h2, zx, zy]) (by simp) kxyv (by omega)) hty) ?_
     have k1 := K3 bs pa.typ sv
     generalize exprM bs 3 pa.typ sv = R1 at *
     obtain ⟨e1, s1⟩ := R1
     simp only at k1 ⊢
     have l1 := Ex.cells_len e1
     have z1 := Ex.bare_cells e1
     rw [vf, zCells]
     generalize e1.cells = c1 at *
     have tk1 : ∀ n, 6 ≤ n → c1.take n = c1 := fun n hn => List.take_of_length_le (by omega)
     have dk1 : ∀ n, 6 ≤ n → c1.drop n = [] := fun n hn => List.drop_of_length_le (by omega)
     simp -dsimp -implicitDefEqProofs [hn0, hnn, zz, hlt, zy, zx, zw, zu, loadA, oblR, oblQ, oblE, hg2, l1, tk1, dk1, List.take_append, List.drop_append]
     refine hold ⟨by simp [AV.bare, AV.bareL, zm, z1], after_own hwf h hw ⟨?_, by simp, hlt, by simp [hlt, zy], fun p h1 h2 => by simp [h1, h2, zx, zy]⟩ (kxyv.trans k1 (Nat.le_refl _)) (by omega)⟩
     repeat first | exact zk hwf | (refine zb ?_ ?_; rotate_left; focus (first | (simp; done) | (simp; omega))) | refine yf ?_ _
end
end
section
variable {w0 : World} {base : Nat}
def Pre (s s' : MS) : Prop := ∃ e, s'.vars = s.vars ++ e
theorem Pre.refl (s : MS) : Pre s s := ⟨[], by simp⟩
theorem Pre.trans {s s1 s2 : MS} (h : Pre s s1) (k : Pre s1 s2) : Pre s s2 := by
 obtain ⟨e, h⟩ := h
 obtain ⟨f, k⟩ := k
 exact ⟨e ++ f, by rw [k, h, List.append_assoc]⟩
theorem Kc.pre {c : Nat} {s s' : MS} (h : Kc c s s') : Pre s s' := ⟨[], by simp [h.vars]⟩
theorem stmtsM_pre {S : MS → Sm × MS} (h : ∀ s, Pre s (S s).2) : ∀ n s, Pre s (stmtsM S n s).2
 | 0, s => Pre.refl s
 | n + 1, s => by
  simp only [stmtsM]
  split
  ·exact (h s).trans (stmtsM_pre h n _)
  ·exact Pre.refl s
theorem blockM_vars {bs : List UInt8} {S : MS → Sm × MS} (h : ∀ s, Pre s (S s).2) (s : MS) : (blockM bs S s).2.vars = s.vars := by
 have h1 := stmtsM_pre h (1 + (nextM bs s).1 % 3) (nextM bs s).2
 obtain ⟨e, h1⟩ := h1
 have h2 : (nextM bs s).2.vars = s.vars := rfl
 simp only [blockM]
 rw [h1, h2, List.take_left']
 rfl
def StmtC (w0 : World) (base : Nat) (bs : List UInt8) (f : Nat) (pure : Bool) (S : Bool → Bool → MS → Sm × MS) (C : Nat) (d : Int) : Prop :=
 ∀ (st : St) (o : Nat) (vv : AV) (s : MS) (c : Nat) (top loop : Bool), st.wf → Mk bs st o vv s (C + c) → Vw vv →
  CallW Tryz.prog w0 base 29 [.ptr o 0, vi f, vi d, .bool top, .bool loop, .bool pure] st (fun v st' => v = .agg (S top loop s).1.cells ∧ After bs st o vv st' (S top loop s).2 c)
def BlockC (w0 : World) (base : Nat) (bs : List UInt8) (f : Nat) (pure : Bool) (B : Bool → MS → List Sm × MS) (C : Nat) (d : Int) : Prop :=
 ∀ (st : St) (o : Nat) (vv : AV) (s : MS) (c : Nat) (loop : Bool), st.wf → Mk bs st o vv s (C + c) → Vw vv →
  CallW Tryz.prog w0 base 54 [.ptr o 0, vi f, vi d, .bool loop, .bool pure] st (fun v st' => v = .sl (Sm.cellsL (B loop s).1) (B loop s).1.length .no ∧ After bs st o vv st' (B loop s).2 c)
def OutS (z : St) (o : Nat) (vv : AV) (lo n : Nat) (p : Perm) : Prop := (n = 0 ∧ p = .full) ∨ ∃ t, p = .tok t ∧ lo ≤ t ∧ t < z.next ∧ t ≠ o ∧ some t ≠ rowId vv ∧ z.objs t = some (.tip 54 19 n) ∧ n ≠ 0
theorem Sm.cellsL_append (a b : List Sm) : Sm.cellsL (a ++ b) = Sm.cellsL a ++ Sm.cellsL b := by
 rw [Sm.cellsL_row, Sm.cellsL_row, Sm.cellsL_row, rowOf_append]
theorem Sm.cellsL_len (a : List Sm) : (Sm.cellsL a).length = a.length * 19 := by rw [Sm.cellsL_row]; exact x5 Sm.cells_len a
theorem Mk.aside {bs : List UInt8} {st : St} {o q : Nat} {vv : AV} {s : MS} {c : Nat} (h : Mk bs st o vv s c) (hwf : st.wf) (hq : q ≠ o) (hr : some q ≠ rowId vv) (k : Nat) (Y : AObj) : Mk bs ((st.bump k).put q Y) o vv s c := by
 refine ⟨by rw [yh, if_neg (Ne.symm hq)]; exact h.obj, ?_, h.len, h.typ, h.cnt, h.lft, h.at_, h.bs, fun _ => ws (fun p hp => Nat.lt_of_lt_of_le hp (Nat.le_add_right _ _)) _ (h.und hwf)⟩
 rcases h.vars with ⟨p, e⟩ | ⟨r, cs, e, hr2⟩
 ·exact .inl ⟨p, e⟩
 ·refine .inr ⟨r, cs, e, ?_⟩
  have : r ≠ q := by rintro rfl; exact hr (by rw [e]; rfl)
  rw [yh, if_neg this]; exact hr2
theorem Kp.aside {o : Nat} {t t' : Option Nat} {st z : St} (h : Kp o t st z t') {q : Nat} (hq : st.next ≤ q) (k : Nat) (hq2 : q < z.next + k) (Y : AObj) : Kp o t st ((z.bump k).put q Y) t' :=
 ⟨Nat.le_trans h.next (Nat.le_add_right _ _), fun p hp hpo hpt => by rw [yh, if_neg (by omega)]; exact h.same p hp hpo hpt, h.tok, zb (zk h.wf) hq2⟩
theorem got_len {vv : AV} {n : Nat} {K : AV → Prop} {l : Lock K} (hv : (∃ cs p, vv = .sl cs n p) ∨ ∃ q, vv = .row q n) (hK : K (.int .i64 n)) : Got (PE.eval (fun _ => vv) (.lenL (.tmp 0))) K l := by
 rcases hv with ⟨cs, p, rfl⟩ | ⟨q, rfl⟩ <;> exact hK
theorem vars_len {st : St} {vv : AV} {l : List Pa} (h : VarsR st vv l) : (∃ cs p, vv = .sl cs l.length p) ∨ ∃ q, vv = .row q l.length := by
 rcases h with ⟨p, e⟩ | ⟨q, cs, e, _⟩
 ·exact .inl ⟨_, p, e⟩
 ·exact .inr ⟨q, e⟩
theorem w54 {bs : List UInt8} {f : Nat} {pure : Bool} {S : Bool → Bool → MS → Sm × MS} {C : Nat} {d : Int} (hC : 1 ≤ C) (hf : f ≤ 1000) (hS : StmtC w0 base bs f pure S C d) (hP : ∀ top loop s, Pre s (S top loop s).2) :
  BlockC w0 base bs f pure (fun loop s => blockM bs (S false loop) s) (1 + 3 * C) d := by
 intro st o vv s c loop hwf h hw
 refine callW_res (za Tryz.func54 r54 rfl ?_)
 have hlt := hwf _ _ h.obj
 have hn0 := zj hwf
 have hnn := zf hwf
 have hu := h.und hwf
 have ho := h.obj
 rw [Mo_def] at ho
 have hblk := blockM_vars (bs := bs) (hP false loop) s
 unfold b54
 simp -dsimp -implicitDefEqProofs [hn0, hnn, zz, hlt, ho, loadA]
 refine got_len (vars_len h.vars) ?_
 simp -dsimp -implicitDefEqProofs [hn0, hnn, zz, hlt, ho, loadA]
 refine zt (m26 (h.to hwf (by simp [h.obj]) (fun q h1 h2 => by simp) (by simp) (Kc.refl 0 s) (by omega))) ?_
 have kx := zi (bs := bs) s
 have hx := yj bs s
 have hbl : ∀ r : Nat × MS, nextM bs s = r → blockM bs (S false loop) s = ((stmtsM (S false loop) (1 + r.1 % 3) r.2).1, { (stmtsM (S false loop) (1 + r.1 % 3) r.2).2 with vars := (stmtsM (S false loop) (1 + r.1 % 3) r.2).2.vars.take s.vars.length }) := by
  intro r e
  subst e
  rfl
 generalize nextM bs s = R at *
 obtain ⟨x, sx⟩ := R
 simp only at kx hx ⊢
 have hbl := hbl _ rfl
 simp only at hbl
 have e3 : (x : Int).tmod 3 = ((x % 3 : Nat) : Int) := yz x 3
 have y3 : x % 3 < 3 := Nat.mod_lt _ (by omega)
 generalize x % 3 = y at *
 have wu : IntKind.i64.wrap (1 + (y : Int)) = 1 + (y : Int) := yy (by omega) (by omega)
 have hO := x8 (z8 (xy hwf h.obj) 13) (Mo bs vv sx)
 simp -dsimp -implicitDefEqProofs [e3, wu]
 refine loop_by (fun k e z => ∃ (out : List Sm) (p : Perm) (vj : AV) (sj : MS), e 13 = vi k ∧ e 12 = .sl (Sm.cellsL out) out.length p ∧ k ≤ 3 ∧ out.length + k ≤ 3 ∧ OutS z o vj st.next out.length p ∧
  Mk bs z o vj sj (k * C + c) ∧ Vw vj ∧ (rowId vj = none → vj = vv) ∧ Kp o (rowId vv) st z (rowId vj) ∧ stmtsM (S false loop) (1 + y) sx = (out ++ (stmtsM (S false loop) k sj).1, (stmtsM (S false loop) k sj).2)) (1 + y) ?_ (by decide) ?_
 ·refine ⟨[], .full, vv, sx, by simp, by simp [Sm.cellsL], by omega, by simp; omega, .inl ⟨rfl, rfl⟩, ?_, hw, fun _ => rfl, ?_, by simp⟩
  ·have := Nat.mul_le_mul_right C (show 1 + y ≤ 3 by omega)
   exact h.own hwf (x8 (z8 (xy hwf h.obj) 14) _) kx (by omega)
  ·exact kp_own _ (x8 (z8 (xy hwf h.obj) 14) (Mo bs vv sx))
 ·rintro k e z hfr ⟨out, p, vj, sj, e13, e12, hk3, hol, hout, hM, hwj, hsl, hK, hst⟩
  have e0 : e 0 = .ptr o 0 := by rw [hfr 0 rfl]; simp
  have e1 : e 1 = vi f := by rw [hfr 1 rfl]; simp
  have e2 : e 2 = vi d := by rw [hfr 2 rfl]; simp
  have e3 : e 3 = .bool loop := by rw [hfr 3 rfl]; simp
  have e4 : e 4 = .bool pure := by rw [hfr 4 rfl]; simp
  have e11 : e 11 = vi s.vars.length := by rw [hfr 11 rfl]; simp
  have hzo := hM.obj
  rw [Mo_def] at hzo
  have hzlt := hK.wf _ _ hM.obj
  unfold l54_0
  by_cases hgo : 0 < k ∧ 0 < sj.left
  ·obtain ⟨hk0, hl0⟩ := hgo
   obtain ⟨k, rfl⟩ : ∃ k', k = k' + 1 := ⟨k - 1, by omega⟩
   have hki : (0 : Int) < ((k : Int) + 1) := by omega
   simp -dsimp -implicitDefEqProofs [e0, e1, e2, e3, e4, e13, e12, hk0, hl0, hki, hzo, loadA]
   have hM1 : Mk bs z o vj sj (C + (k * C + c)) := hM.less (by rw [Nat.add_mul, Nat.one_mul]; omega)
   refine yu (hS _ o vj sj (k * C + c) false loop (zk hK.wf) (hM1.to hK.wf hM.obj (fun q _ _ => rfl) (by simp) (Kc.refl 0 sj) (Nat.le_of_eq (Nat.zero_add _))) hwj) (by simp [AV.bareL, AV.bare]) fun v z2 hv => ?_
   obtain ⟨rfl, v2, hM2, hw2, hsl2, hK2⟩ := hv
   have hst2 : stmtsM (S false loop) (1 + y) sx = ((out ++ [(S false loop sj).1]) ++ (stmtsM (S false loop) k (S false loop sj).2).1, (stmtsM (S false loop) k (S false loop sj).2).2) := by
    rw [hst]; simp only [stmtsM]; rw [if_pos hl0]; simp
   have l1 := Sm.cells_len (S false loop sj).1
   have b1 : Sm.cellsL (out ++ [(S false loop sj).1]) = Sm.cellsL out ++ (S false loop sj).1.cells := by rw [Sm.cellsL_append]; simp [Sm.cellsL]
   have ln := Sm.cellsL_len out
   generalize S false loop sj = R at *
   obtain ⟨sm, s2⟩ := R
   simp only at *
   generalize sm.cells = c1 at *
   have hwk : IntKind.i64.wrap ((k : Int) + 1 - 1) = (k : Int) := by rw [Int.add_sub_cancel]; exact vm (by omega)
   have hwk2 : IntKind.i64.wrap (k : Int) = (k : Int) := vm (by omega)
   simp -dsimp -implicitDefEqProofs [l1, ln]
   rw [if_pos ⟨by unfold big; omega, by unfold big; omega⟩]
   have hK3 : Kp o (rowId vv) st z2 (rowId v2) := (hK.trans (kp_own _ (z8 (xy hK.wf hM.obj) _))).trans hK2
   have hsl3 : rowId v2 = none → v2 = vv := fun e => by have e2 := hsl2 e; rw [e2] at e; rw [e2]; exact hsl e
   have hnx : z.next + 19 ≤ z2.next := hK2.next
   have hrow2 : ∀ q, q ≠ o → q < z.next + 19 → some q ≠ rowId vj → some q ≠ rowId v2 := by
    intro q h1 h2 h3 h4
    rcases hK2.tok with e' | ⟨r, e', hr⟩
    ·exact h3 (by rw [← e']; exact h4)
    ·rw [e'] at h4; cases h4; simp at hr; omega
   have hvj : vj.under (· < z.next) := hM.und hK.wf
   rcases hout with ⟨hn0', rfl⟩ | ⟨t, rfl, ht1, ht2, ht3, ht4, ht5, ht6⟩
   ·have hq : some (z.next + 17) ≠ rowId v2 := hrow2 _ (by omega) (by omega) (row_ne hvj (by omega))
    simp -dsimp -implicitDefEqProofs [e13, hwk, hwk2]
    refine hold ⟨k, by omega, out ++ [sm], .tok (z.next + 17), v2, s2, by simp, by simp [b1], by omega, by simp; omega, .inr ⟨z.next + 17, rfl, by have := hK.next; omega, by simp; omega, by omega, hq, by simp [hn0'], by simp⟩, ?_, hw2, hsl3, ?_, hst2⟩
    ·exact hM2.aside hK2.wf (by omega) hq _ _
    ·exact hK3.aside (by have := hK.next; omega) _ (by omega) _
   ·have hq : some t ≠ rowId v2 := hrow2 _ ht3 (by omega) ht4
    have ht7 : z2.objs t = some (.tip 54 19 out.length) := by rw [hK2.same t (by simp; omega) ht3 ht4]; exact ht5
    simp -dsimp -implicitDefEqProofs [e13, hwk, hwk2, ht7]
    refine hold ⟨k, by omega, out ++ [sm], .tok t, v2, s2, by simp, by simp [b1], by omega, by simp; omega, .inr ⟨t, rfl, ht1, by simp; omega, ht3, hq, by simp, by simp⟩, ?_, hw2, hsl3, ?_, hst2⟩
    ·exact hM2.aside hK2.wf ht3 hq _ _
    ·exact hK3.aside (by omega) _ (by omega) _
  ·have hemp : stmtsM (S false loop) k sj = ([], sj) := by
    cases k with
    | zero => rfl
    | succ k => simp only [stmtsM]; rw [if_neg (fun hh => hgo ⟨by omega, hh⟩)]
   rw [hemp] at hst
   simp only [List.append_nil] at hst
   rw [hst] at hbl
   have hpre := stmtsM_pre (hP false loop) (1 + y) sx
   rw [hst] at hpre
   obtain ⟨ext, hpre⟩ := hpre
   rw [kx.vars] at hpre
   simp only at hpre hbl
   have hll : s.vars.length ≤ sj.vars.length := by rw [hpre]; simp
   have hsL := h.len
   have hvcase : (∃ cvj, vj = .sl cvj s.vars.length .full ∧ cvj.length = s.vars.length * 2 ∧ sj.vars.take s.vars.length = sj.vars) ∨ ∃ q, vj = .row q sj.vars.length := by
    rcases hM.vars with ⟨p', e'⟩ | ⟨q, cs, e', _⟩
    ·have h1 := hwj _ _ _ e'
     subst h1
     have h2 := hsl (by rw [e']; rfl)
     have h3 : sj.vars.length = s.vars.length := by
      rcases h.vars with ⟨p2, e2⟩ | ⟨q, cs, e2, _⟩
      ·rw [← h2, e'] at e2
       simp only [AV.sl.injEq] at e2
       exact e2.2.1
      ·rw [← h2, e'] at e2; cases e2
     refine .inl ⟨rowOf Pa.cells sj.vars, by rw [e', h3], by rw [x5 Pa.cells_len, h3], by rw [← h3, List.take_length]⟩
    ·exact .inr ⟨q, e'⟩
   have htake : ({ sj with vars := sj.vars.take s.vars.length } : MS).vars.length = s.vars.length := by simp; omega
   have hfin : ∀ (k' : Nat) (vv' : AV), ((∃ cvj, vj = .sl cvj s.vars.length .full ∧ vv' = vj ∧ sj.vars.take s.vars.length = sj.vars) ∨ ∃ q, vj = .row q sj.vars.length ∧ vv' = .row q s.vars.length) →
     After bs st o vv ((z.bump k').put o (Mo bs vv' { sj with vars := sj.vars.take s.vars.length })) { sj with vars := sj.vars.take s.vars.length } c := by
    intro k' vv' hc
    have hM' := hM.less (c' := c) (by omega)
    have hrow : rowId vv' = rowId vj := by
     rcases hc with ⟨_, _, e', _⟩ | ⟨q, e1', e2'⟩
     ·rw [e']
     ·rw [e1', e2']; rfl
    refine ⟨vv', ⟨by simp, ?_, by rw [htake]; have := hM'.len; omega, fun p hp => hM'.typ p (List.mem_of_mem_take hp), hM'.cnt, hM'.lft, hM'.at_, hM'.bs, fun _ => ?_⟩, ?_, fun e' => ?_, ?_⟩
    ·rcases hc with ⟨cvj, e1', e2', e3'⟩ | ⟨q, e1', e2'⟩
     ·simp only [e3']
      rw [e2']
      rcases hM'.vars with ⟨p', e'⟩ | ⟨q, cs, e', _⟩
      ·exact .inl ⟨p', e'⟩
      ·rw [e1'] at e'; cases e'
     ·rcases hM'.vars with ⟨p', e'⟩ | ⟨q', cs, e', hq'⟩
      ·rw [e1'] at e'; cases e'
      ·rw [e1'] at e'
       simp only [AV.row.injEq] at e'
       obtain ⟨rfl, -⟩ := e'
       refine .inr ⟨q, rowOf Pa.cells (sj.vars.drop s.vars.length) ++ cs, by rw [e2']; simp; omega, ?_⟩
       have hqo : q ≠ o := by rintro rfl; rw [hM.obj] at hq'; cases hq'
       rw [yh, if_neg hqo, ← List.append_assoc, ← rowOf_append, List.take_append_drop]
       exact hq'
    ·have hu' := hM'.und hK.wf
     rcases hc with ⟨cvj, e1', e2', e3'⟩ | ⟨q, e1', e2'⟩
     ·rw [e2']; exact ws (fun p hp => Nat.lt_of_lt_of_le hp (Nat.le_add_right _ _)) _ hu'
     ·rw [e1'] at hu'; rw [e2']
      exact Nat.lt_of_lt_of_le hu' (Nat.le_add_right _ _)
    ·rcases hc with ⟨cvj, e1', e2', e3'⟩ | ⟨q, e1', e2'⟩
     ·rw [e2']; exact hwj
     ·rw [e2']; intro _ _ _ e'; cases e'
    ·rcases hc with ⟨cvj, e1', e2', e3'⟩ | ⟨q, e1', e2'⟩
     ·rw [e2'] at e' ⊢; exact hsl e'
     ·rw [e2'] at e'; cases e'
    ·rw [hrow]
     exact ⟨Nat.le_trans hK.next (Nat.le_add_right _ _), fun p hp hpo hpt => by rw [yh, if_neg hpo]; exact hK.same p hp hpo hpt, hK.tok, zb (zk hK.wf) (Nat.lt_of_lt_of_le hzlt (Nat.le_add_right _ _))⟩
   have hbe : (AV.sl (Sm.cellsL out) out.length p).bare = .sl (Sm.cellsL out) out.length .no := by simp [AV.bare, Sm.bare_cellsL]
   have hlp : ¬ ((s.vars.length : Int) < 0) := by omega
   rw [hbl]
   have hlC : (s.vars.length : Int).toNat = s.vars.length := by omega
   have hcond : (k = 0 ∧ ∃ b : Bool, b = true) ∨ (0 < k ∧ ¬ 0 < sj.left) := by
    rcases Nat.eq_zero_or_pos k with h0 | h0
    ·exact .inl ⟨h0, true, rfl⟩
    ·exact .inr ⟨h0, fun hh => hgo ⟨h0, hh⟩⟩
   clear hbl hst
   rcases hvcase with ⟨cvj, rfl, hcl, htk⟩ | ⟨q, rfl⟩
   ·have htkc : cvj.take (s.vars.length * 2) = cvj := List.take_of_length_le (by omega)
    rcases hcond with ⟨rfl, -⟩ | ⟨hk0, hl0⟩
    ·simp -dsimp -implicitDefEqProofs [e0, e13, e12, e11, hzo, hcl, hll, hlC, hlp, htkc, loadA]
     exact hold ⟨hbe, hfin _ _ (.inl ⟨cvj, rfl, rfl, htk⟩)⟩
    ·have hki : (0 : Int) < (k : Int) := by omega
     simp -dsimp -implicitDefEqProofs [e0, e13, e12, e11, hzo, hk0, hki, hl0, hcl, hll, hlC, hlp, htkc, loadA]
     exact hold ⟨hbe, hfin _ _ (.inl ⟨cvj, rfl, rfl, htk⟩)⟩
   ·rcases hcond with ⟨rfl, -⟩ | ⟨hk0, hl0⟩
    ·simp -dsimp -implicitDefEqProofs [e0, e13, e12, e11, hzo, hll, hlC, hlp, loadA]
     exact hold ⟨hbe, hfin _ _ (.inr ⟨q, rfl, rfl⟩)⟩
    ·have hki : (0 : Int) < (k : Int) := by omega
     simp -dsimp -implicitDefEqProofs [e0, e13, e12, e11, hzo, hk0, hki, hl0, hll, hlC, hlp, loadA]
     exact hold ⟨hbe, hfin _ _ (.inr ⟨q, rfl, rfl⟩)⟩
end
section
variable {w0 : World} {base : Nat}
def drawnM (bs : List UInt8) (f : Nat) (pure deep : Bool) (B : Bool → MS → List Sm × MS) (top loop : Bool) (k : Nat) (s : MS) : Sm × MS :=
  if k = 0 then declareM bs s else
  if k < 4 then setM bs f s else
  if k = 4 ∧ deep = true then
    (let e := exprM bs 3 3 s
     let b := B loop e.2
     let q := nextM bs b.2
     if q.1 % 2 = 0 then
       (let c := B loop q.2
        (.mk 5 0 0 0 [] e.1 zE b.1 c.1, c.2)) else (.mk 5 0 0 0 [] e.1 zE b.1 [], q.2)) else
  if k = 5 ∧ deep = true then
    (let e := exprM bs 3 3 s
     let q := nextM bs e.2
     let b := B true q.2
     (.mk 6 0 0 (1 + (q.1 % 4 : Nat)) [] e.1 zE b.1 [], b.2)) else plainM bs f top loop pure k s
theorem stmtM_zero (bs : List UInt8) (f : Nat) (pure top loop : Bool) (B : Bool → MS → List Sm × MS) (s : MS) :
  stmtM bs f pure 0 top loop s = drawnM bs f pure false B top loop ((nextM bs { s with left := s.left - 1 }).1 % 14) (nextM bs { s with left := s.left - 1 }).2 := by
 simp [stmtM, drawnM]
theorem stmtM_succ (bs : List UInt8) (f d : Nat) (pure top loop : Bool) (s : MS) :
  stmtM bs f pure (d + 1) top loop s = drawnM bs f pure true (fun l s => blockM bs (stmtM bs f pure d false l) s) top loop ((nextM bs { s with left := s.left - 1 }).1 % 14) (nextM bs { s with left := s.left - 1 }).2 := by
 simp [stmtM, drawnM]
section
variable {bs : List UInt8} {st z S : St} {o b : Nat} {vv : AV} {s s' : MS} {k C c : Nat}
theorem x9 (hK : Kp o (rowId vv) st z (rowId vv)) (h : Mk bs z o vv s C) (hw : Vw vv) (hb : st.next ≤ b) (hbr : some b ≠ rowId vv) (ho : S.objs o = some (Mo bs vv s')) (hp : ∀ p, p < z.next → p ≠ o → p ≠ b → S.objs p = z.objs p) (hn : z.next ≤ S.next) (hS : S.wf)
  (hk : Kc k s s') (hc : k + c ≤ C) : After bs st o vv S s' c := by
 refine ⟨vv, ⟨ho, ?_, by rw [hk.vars]; have := h.len; omega, by rw [hk.vars]; exact h.typ, by rw [hk.count]; have := h.cnt; omega, by rw [hk.left]; have := h.lft; omega, by have := hk.at_; have := h.at_; omega, h.bs,
  fun _ => ws (fun q hq => Nat.lt_of_lt_of_le hq hn) _ (h.und hK.wf)⟩, hw, fun _ => rfl, ⟨Nat.le_trans hK.next hn, fun p hp1 hp2 hp3 => ?_, .inl rfl, hS⟩⟩
 ·rw [hk.vars]
  rcases h.vars with ⟨p, e⟩ | ⟨q, cs, e, hq⟩
  ·exact .inl ⟨p, e⟩
  ·refine .inr ⟨q, cs, e, ?_⟩
   have h1 : q ≠ o := fun e1 => by rw [e1, h.obj] at hq; cases hq
   have h2 : q ≠ b := by rintro rfl; exact hbr (by rw [e]; rfl)
   rw [hp q (hK.wf _ _ hq) h1 h2]; exact hq
 ·have := hK.next
  rw [hp p (by omega) hp2 (by omega)]
  exact hK.same p hp1 hp2 hp3
theorem xl {z2 : St} (hK : Kp o (rowId vv) st z (rowId vv)) (hlt : o < z.next) (hb : st.next ≤ b) (hb2 : b < z.next) (hbo : b ≠ o) (hbr : some b ≠ rowId vv) (hA : After bs (z.bump k) o vv z2 s' c) :
  z2.objs b = z.objs b ∧ ∀ n Y, After bs st o vv ((z2.bump n).put b Y) s' c := by
 obtain ⟨v2, hM, hw, hsl, hk⟩ := hA
 have hnx : z.next + k ≤ z2.next := hk.next
 have hr : some b ≠ rowId v2 := by
  rcases hk.tok with e | ⟨r, e, hr⟩
  ·rw [e]; exact hbr
  ·rw [e]; intro e'; cases e'; simp at hr; omega
 refine ⟨hk.same b (by simp; omega) hbo hbr, fun n Y => ⟨v2, hM.aside hk.wf hbo hr n Y, hw, hsl, ?_⟩⟩
 have h3 : Kp o (rowId vv) st z2 (rowId v2) := hK.trans ⟨by have := hk.next; simp at this; omega, fun p hp => hk.same p (by simp; omega), by
  rcases hk.tok with e | ⟨r, e, hr⟩
  ·exact .inl e
  ·exact .inr ⟨r, e, by simp at hr; omega⟩, hk.wf⟩
 exact h3.aside hb n (by omega) Y
theorem Mk.dec (h : Mk bs st o vv s (1 + c)) (hwf : st.wf) (ho : z.objs o = some (Mo bs vv { s with left := s.left - 1 })) (hz : ∀ q, q < st.next → q ≠ o → z.objs q = st.objs q) (hn : st.next ≤ z.next) : Mk bs z o vv { s with left := s.left - 1 } c :=
 ⟨ho, h.vars.of h.obj fun q hq ⟨x, hx⟩ => hz q (hwf _ _ hx) hq, by have := h.len; simp only; omega, h.typ, by have := h.cnt; simp only; omega, by have := h.lft; simp only; omega, by have := h.at_; simp only; omega, h.bs, fun _ => ws (fun q hq => Nat.lt_of_lt_of_le hq hn) _ (h.und hwf)⟩
theorem ve (s : MS) : Kc 52 s (storeM bs s).2 := (zi (bs := bs) s).trans ((placeM_kc (K2 bs) _ _).trans (K3 bs _ _) (Nat.le_refl _)) (by omega)
end
section
variable {bs : List UInt8} {st z S : St} {o b : Nat} {vv : AV} {s s' : MS} {k C c c' : Nat} {t t' : Option Nat}
theorem Mk.toR (h : Mk bs z o vv s c) (hwf : z.wf) (ho : S.objs o = some (Mo bs vv s')) (hr : ∀ q, rowId vv = some q → q ≠ o → S.objs q = z.objs q) (hn : z.next ≤ S.next) (hk : Kc k s s') (hc : k + c' ≤ c) : Mk bs S o vv s' c' := by
 refine ⟨ho, ?_, by rw [hk.vars]; have := h.len; omega, by rw [hk.vars]; exact h.typ, by rw [hk.count]; have := h.cnt; omega, by rw [hk.left]; have := h.lft; omega, by have := hk.at_; have := h.at_; omega, h.bs, fun _ => ws (fun q hq => Nat.lt_of_lt_of_le hq hn) _ (h.und hwf)⟩
 rw [hk.vars]
 rcases h.vars with ⟨p, e⟩ | ⟨q, cs, e, hq⟩
 ·exact .inl ⟨p, e⟩
 ·refine .inr ⟨q, cs, e, ?_⟩
  rw [hr q (by rw [e]; rfl) (fun e1 => by rw [e1, h.obj] at hq; cases hq)]; exact hq
theorem Kp.over (h : Kp o t st z t') (hp : ∀ p, p < st.next → p ≠ o → S.objs p = z.objs p) (hn : z.next ≤ S.next) (hS : S.wf) : Kp o t st S t' :=
 ⟨Nat.le_trans h.next hn, fun p h1 h2 h3 => (hp p h1 h2).trans (h.same p h1 h2 h3), h.tok, hS⟩
theorem vu {z2 : St} {v2 : AV} (hk : Kp o (rowId vv) S z2 (rowId v2)) (hb : b < S.next) (hr : some b ≠ rowId vv) : ∀ q, rowId v2 = some q → q ≠ b := by
 intro q h1 h2
 subst h2
 rcases hk.tok with e | ⟨r, e, hr2⟩
 ·exact hr (by rw [← e, h1])
 ·rw [e] at h1; cases h1; omega
end
def zeroSm : List AV := [vi 0, vi 0, vi 0, vi 0, .str [], vi 0, vi 0, vi 0, .str [], .int .i32 0, .sl [] 0 .full, vi 0, vi 0, vi 0, .str [], .int .i32 0, .sl [] 0 .full, .sl [] 0 .full, .sl [] 0 .full]
theorem smCells2 (k op t b : Int) (n : Str) (x y : Ex) (body els : List Sm) : (Sm.mk k op t b n x y body els).cells = [vi k, vi op, vi t, vi b, .str n] ++ (x.cells ++ (y.cells ++ [.sl (Sm.cellsL body) body.length .no, .sl (Sm.cellsL els) els.length .no])) := by simp [Sm.cells]
def b29r : SCode := (.seq (.seq (.reg [m 27 13, pE 28 (.bin .int .eql (t 27) (i 0))]) (.cond (t 28) (.seq (.reg [m 29 0, oS 30 (.call 52 [(t 29)]), ⟨none, none, (.store 19 (t 12) (t 30))⟩]) .ret) .skip)) (.seq (.seq (.reg [m 31 13, pE 32 (.bin .int .lss (t 31) (i 4))]) (.cond (t 32) (.seq (.reg [m 33 0, m 34 1, oS 35 (.call 53 [(t 33), (t 34)]), ⟨none, none, (.store 19 (t 12) (t 35))⟩]) .ret) .skip)) (.seq (.seq (.reg [m 36 13, pE 37 (.bin .int .eql (t 36) (i 4)), m 38 37, pG 39 38 true (.mov (t 2)), pG 40 38 true (.bin .int .gtr (t 39) (i 0)), pE 41 (.pick (t 38) (t 40) (.lit (.bool false)))]) (.cond (t 41) (.seq (.reg [m 42 0, oS 43 (.call 30 [(t 42), (i 3), (i 3)]), pE 44 (.build [(.int .i64 0), (.int .i64 0), (.int .i64 0), (.int .i64 0), (.str []), (.int .i64 0), (.int .i64 0), (.int .i64 0), (.str []), (.int .i32 0), (.sl [] 0 .full), (.int .i64 0), (.int .i64 0), (.int .i64 0), (.str []), (.int .i32 0), (.sl [] 0 .full), (.sl [] 0 .full), (.sl [] 0 .full)] [(0, (1, (i 5))), (5, (6, (t 43)))]), oS 14 (.alloc 54 (.agg [(.int .i64 0), (.int .i64 0), (.int .i64 0), (.int .i64 0), (.str []), (.int .i64 0), (.int .i64 0), (.int .i64 0), (.str []), (.int .i32 0), (.sl [] 0 .full), (.int .i64 0), (.int .i64 0), (.int .i64 0), (.str []), (.int .i32 0), (.sl [] 0 .full), (.sl [] 0 .full), (.sl [] 0 .full)]) 3), ⟨none, none, (.store 19 (t 14) (t 44))⟩]) (.seq (.reg [m 45 0, m 46 1, m 47 2, pE 48 (.bin .int .sub (t 47) (i 1)), m 49 4, m 50 5, oS 51 (.call 54 [(t 45), (t 46), (t 48), (t 49), (t 50)]), pE 52 (.fldA 17 (t 14)), ⟨none, none, (.store 1 (t 52) (t 51))⟩]) (.seq (.seq (.reg [m 53 0, oS 54 (.call 26 [(t 53)]), pE 55 (.bin .int .rem (t 54) (i 2)), pE 56 (.bin .int .eql (t 55) (i 0))]) (.cond (t 56) (.frz [14] (.reg [m 57 0, m 58 1, m 59 2, pE 60 (.bin .int .sub (t 59) (i 1)), m 61 4, m 62 5, oS 63 (.call 54 [(t 57), (t 58), (t 60), (t 61), (t 62)]), pE 64 (.fldA 18 (t 14)), ⟨none, none, (.store 1 (t 64) (t 63))⟩])) .skip)) (.seq (.reg [oS 65 (.load 19 true (t 14)), ⟨none, none, (.store 19 (t 12) (t 65))⟩]) .ret)))) .skip)) (.seq (.seq (.reg [m 66 13, pE 67 (.bin .int .eql (t 66) (i 5)), m 68 67, pG 69 68 true (.mov (t 2)), pG 70 68 true (.bin .int .gtr (t 69) (i 0)), pE 71 (.pick (t 68) (t 70) (.lit (.bool false)))]) (.cond (t 71) (.seq (.reg [m 72 0, oS 73 (.call 30 [(t 72), (i 3), (i 3)]), m 74 0, oS 75 (.call 26 [(t 74)]), pE 76 (.bin .int .rem (t 75) (i 4)), pE 77 (.bin .int .add (i 1) (t 76)), pE 78 (.build [(.int .i64 0), (.int .i64 0), (.int .i64 0), (.int .i64 0), (.str []), (.int .i64 0), (.int .i64 0), (.int .i64 0), (.str []), (.int .i32 0), (.sl [] 0 .full), (.int .i64 0), (.int .i64 0), (.int .i64 0), (.str []), (.int .i32 0), (.sl [] 0 .full), (.sl [] 0 .full), (.sl [] 0 .full)] [(0, (1, (i 6))), (5, (6, (t 73))), (3, (1, (t 77)))]), oS 15 (.alloc 54 (.agg [(.int .i64 0), (.int .i64 0), (.int .i64 0), (.int .i64 0), (.str []), (.int .i64 0), (.int .i64 0), (.int .i64 0), (.str []), (.int .i32 0), (.sl [] 0 .full), (.int .i64 0), (.int .i64 0), (.int .i64 0), (.str []), (.int .i32 0), (.sl [] 0 .full), (.sl [] 0 .full), (.sl [] 0 .full)]) 7), ⟨none, none, (.store 19 (t 15) (t 78))⟩]) (.seq (.frz [15] (.reg [m 79 0, m 80 1, m 81 2, pE 82 (.bin .int .sub (t 81) (i 1)), m 83 5, oS 84 (.call 54 [(t 79), (t 80), (t 82), (.lit (.bool true)), (t 83)]), pE 85 (.fldA 17 (t 15)), ⟨none, none, (.store 1 (t 85) (t 84))⟩])) (.seq (.reg [oS 86 (.load 19 true (t 15)), ⟨none, none, (.store 19 (t 12) (t 86))⟩]) .ret))) .skip)) (.seq (.seq (.reg [m 87 13, pE 88 (.bin .int .eql (t 87) (i 6)), m 89 88, pG 90 89 true (.mov (t 4)), pE 91 (.pick (t 89) (t 90) (.lit (.bool false)))]) (.cond (t 91) (.seq (.reg [m 92 0, oS 93 (.call 26 [(t 92)]), pE 94 (.bin .int .rem (t 93) (i 2)), pE 95 (.bin .int .add (i 7) (t 94)), pE 96 (.build [(.int .i64 0), (.int .i64 0), (.int .i64 0), (.int .i64 0), (.str []), (.int .i64 0), (.int .i64 0), (.int .i64 0), (.str []), (.int .i32 0), (.sl [] 0 .full), (.int .i64 0), (.int .i64 0), (.int .i64 0), (.str []), (.int .i32 0), (.sl [] 0 .full), (.sl [] 0 .full), (.sl [] 0 .full)] [(0, (1, (t 95)))]), ⟨none, none, (.store 19 (t 12) (t 96))⟩]) .ret) .skip)) (.seq (.seq (.reg [m 97 5]) (.cond (t 97) (.seq (.reg [m 98 0, m 99 1, oS 100 (.call 53 [(t 98), (t 99)]), ⟨none, none, (.store 19 (t 12) (t 100))⟩]) .ret) .skip)) (.seq (.seq (.reg [m 101 13, pE 102 (.bin .int .eql (t 101) (i 7)), m 103 102, pG 104 103 true (.mov (t 3)), pE 105 (.pick (t 103) (t 104) (.lit (.bool false)))]) (.cond (t 105) (.seq (.reg [pE 106 (.build [(.int .i64 0), (.int .i64 0), (.int .i64 0), (.int .i64 0), (.str []), (.int .i64 0), (.int .i64 0), (.int .i64 0), (.str []), (.int .i32 0), (.sl [] 0 .full), (.int .i64 0), (.int .i64 0), (.int .i64 0), (.str []), (.int .i32 0), (.sl [] 0 .full), (.sl [] 0 .full), (.sl [] 0 .full)] [(0, (1, (i 10)))]), ⟨none, none, (.store 19 (t 12) (t 106))⟩]) .ret) .skip)) (.seq (.seq (.reg [m 107 13, pE 108 (.bin .int .eql (t 107) (i 8)), m 109 108, pG 110 109 true (.mov (t 3)), pE 111 (.pick (t 109) (t 110) (.lit (.bool false)))]) (.cond (t 111) (.seq (.reg [m 112 0, m 113 1, oS 114 (.call 55 [(t 112), (t 113)]), ⟨none, none, (.store 19 (t 12) (t 114))⟩]) .ret) .skip)) (.seq (.seq (.reg [m 115 13, pE 116 (.bin .int .eql (t 115) (i 9))]) (.cond (t 116) (.seq (.frz [16] (.reg [m 117 0, oS 118 (.call 56 [(t 117), (i 8), (i 3)]), oS 16 (.alloc 31 (.agg [(.int .i64 0), (.int .i64 0), (.int .i64 0), (.str []), (.int .i32 0), (.sl [] 0 .full)]) 2), ⟨none, none, (.store 6 (t 16) (t 118))⟩])) (.seq (.draw [0, 0, 2, 6, 15, 31, 0, 6, 0, 390, 902, 1926, 3974, 0, 9094, 32767, 65535] [0, 1, 2, 3, 4, 5, 6, 7, 8, 9, 10, 11, 12, 13, 14, 15, 16] [pE 119 (.lits 1 [(.lit (.str [97])), (.lit (.str [115]))]), m 120 0, oS 121 (.call 26 [(t 120)]), pE 122 (.bin .int .rem (t 121) (i 2)), pE 123 (.idxA 1 (t 119) (t 122)), oS 124 (.load 1 false (t 123)), oS 125 (.load 6 true (t 16)), oS 126 (.call 57 []), m 127 0, oS 128 (.call 26 [(t 127)]), pE 129 (.bin .int .rem (t 128) (i 6)), pE 130 (.idxA 1 (t 126) (t 129)), oS 131 (.load 1 false (t 130)), m 132 0, oS 133 (.call 30 [(t 132), (i 1), (i 3)]), pE 134 (.build [(.int .i64 0), (.int .i64 0), (.int .i64 0), (.int .i64 0), (.str []), (.int .i64 0), (.int .i64 0), (.int .i64 0), (.str []), (.int .i32 0), (.sl [] 0 .full), (.int .i64 0), (.int .i64 0), (.int .i64 0), (.str []), (.int .i32 0), (.sl [] 0 .full), (.sl [] 0 .full), (.sl [] 0 .full)] [(0, (1, (i 4))), (4, (1, (t 124))), (5, (6, (t 125))), (1, (1, (t 131))), (11, (6, (t 133)))]), ⟨none, none, (.store 19 (t 12) (t 134))⟩]) .ret)) .skip)) (.seq (.seq (.reg [m 135 13, pE 136 (.bin .int .eql (t 135) (i 10))]) (.cond (t 136) (.seq (.reg [m 137 0, oS 138 (.call 26 [(t 137)]), pE 139 (.bin .int .rem (t 138) (i 2)), pE 140 (.bin .int .add (i 1) (t 139)), pE 141 (.build [(.int .i64 0), (.int .i64 0), (.int .i64 0), (.int .i64 0), (.str []), (.int .i64 0), (.int .i64 0), (.int .i64 0), (.str []), (.int .i32 0), (.sl [] 0 .full), (.int .i64 0), (.int .i64 0), (.int .i64 0), (.str []), (.int .i32 0), (.sl [] 0 .full), (.sl [] 0 .full), (.sl [] 0 .full)] [(0, (1, (i 11))), (1, (1, (t 140)))]), ⟨none, none, (.store 19 (t 12) (t 141))⟩]) .ret) .skip)) (.seq (.reg [m 142 0, oS 143 (.call 31 [(t 142)]), ⟨none, none, (.store 19 (t 12) (t 143))⟩]) .ret)))))))))))
theorem m29 {bs : List UInt8} {f : Nat} {pure deep : Bool} {B : Bool → MS → List Sm × MS} {CB : Nat} {dd : Int} (hf : f ≤ 1000) (hd : (deep = true → 0 < dd) ∧ (deep = false → dd = 0)) (hB : deep = true → BlockC w0 base bs f pure B CB (IntKind.i64.wrap (dd - 1)))
  {st z : St} {o b : Nat} {vv : AV} {s : MS} {c k : Nat} {top loop : Bool} {e : Env} (hK : Kp o (rowId vv) st z (rowId vv)) (h : Mk bs z o vv s (64 + 2 * CB + c)) (hw : Vw vv) (hb : st.next ≤ b) (hlb : b < z.next) (hbo : b ≠ o) (hbr : some b ≠ rowId vv)
  (hbx : z.objs b = some (.cells 54 zeroSm)) (hk14 : k < 14) (e0 : e 0 = .ptr o 0) (e1 : e 1 = vi f) (e2 : e 2 = vi dd) (e3 : e 3 = .bool top) (e4 : e 4 = .bool loop) (e5 : e 5 = .bool pure) (e12 : e 12 = .ptr b 0) (e13 : e 13 = vi k) :
  awp Tryz.prog w0 base b29r e [] z (EndsK Tryz.prog w0 base [SRes.cell 12 19 true] fun v st' => v.bare = .agg (drawnM bs f pure deep B top loop k s).1.cells ∧ After bs st o vv st' (drawnM bs f pure deep B top loop k s).2 c) := by
 have hwf := hK.wf
 have hlt := hwf _ _ h.obj
 have hn0 := zj hwf
 have hnn := zf hwf
 have hob : ¬ o = b := fun e => hbo e.symm
 have ho := h.obj
 rw [Mo_def] at ho
 unfold zeroSm at hbx
 unfold b29r
 by_cases c0 : k = 0
 ·subst c0
  rw [show drawnM bs f pure deep B top loop 0 s = declareM bs s from by simp [drawnM, plainM]]
  simp -dsimp -implicitDefEqProofs [hn0, hnn, zz, hlt, hlb, hbo, hob, hbx, e0, e1, e2, e3, e4, e5, e12, e13, zy, zx, zw, zu, loadA, oblR, oblQ, oblE]
  refine yu (w52 (c := c) (zk hwf) (h.to hwf (by simp [hlt, zy, zx, zw, zu, h.obj, Mo_def]) (fun q h1 h2 => by simp [h1, h2, zx, zy]) (by simp) (Kc.refl 0 s) (by omega)) hw) (by simp [AV.bareL, AV.bare]) fun v z2 hv => ?_
  obtain ⟨rfl, hA⟩ := hv
  obtain ⟨hbx2, hA⟩ := xl hK hlt hb hlb hbo hbr hA
  rw [hbx] at hbx2
  have l1 := Sm.cells_len (declareM bs s).1
  have z1 := Sm.bare_cells (declareM bs s).1
  have t1 : (declareM bs s).1.cells.take 19 = (declareM bs s).1.cells := List.take_of_length_le (by omega)
  generalize (declareM bs s).1.cells = c1 at *
  simp -dsimp -implicitDefEqProofs [hn0, hnn, zz, hlt, hlb, hbo, hob, hbx, e0, e1, e2, e3, e4, e5, e12, e13, zy, zx, zw, zu, loadA, oblR, oblQ, oblE, hbx2, l1, t1]
  exact hold ⟨by simp [AV.bare, z1], hA 0 _⟩
 by_cases c4 : k < 4
 ·have b0 : ((k : Int) == 0) = false := by simp; omega
  have c4i : (k : Int) < 4 := by omega
  rw [show drawnM bs f pure deep B top loop k s = setM bs f s from by simp [drawnM, c0, c4]]
  simp -dsimp -implicitDefEqProofs [hn0, hnn, zz, hlt, hlb, hbo, hob, hbx, e0, e1, e2, e3, e4, e5, e12, e13, zy, zx, zw, zu, loadA, oblR, oblQ, oblE, b0, c4, c4i]
  refine yu (w53 (c := c) (zk hwf) (h.to hwf (by simp [hlt, zy, zx, zw, zu, h.obj, Mo_def]) (fun q h1 h2 => by simp [h1, h2, zx, zy]) (by simp) (Kc.refl 0 s) (by omega)) hw f hf) (by simp [AV.bareL, AV.bare]) fun v z2 hv => ?_
  obtain ⟨rfl, hA⟩ := hv
  obtain ⟨hbx2, hA⟩ := xl hK hlt hb hlb hbo hbr hA
  rw [hbx] at hbx2
  have l1 := Sm.cells_len (setM bs f s).1
  have z1 := Sm.bare_cells (setM bs f s).1
  have t1 : (setM bs f s).1.cells.take 19 = (setM bs f s).1.cells := List.take_of_length_le (by omega)
  generalize (setM bs f s).1.cells = c1 at *
  simp -dsimp -implicitDefEqProofs [hn0, hnn, zz, hlt, hlb, hbo, hob, hbx, e0, e1, e2, e3, e4, e5, e12, e13, zy, zx, zw, zu, loadA, oblR, oblQ, oblE, hbx2, l1, t1]
  exact hold ⟨by simp [AV.bare, z1], hA 0 _⟩
 have hk : k = 4 ∨ k = 5 ∨ k = 6 ∨ k = 7 ∨ k = 8 ∨ k = 9 ∨ k = 10 ∨ k = 11 ∨ k = 12 ∨ k = 13 := by omega
 clear c0 c4 hk14
 rcases hk with rfl | rfl | rfl | rfl | rfl | rfl | rfl | rfl | rfl | rfl
 ·cases deep
  ·have hd0 : dd = 0 := hd.2 rfl
   subst hd0
   cases pure
   ·rw [show drawnM bs f false false B top loop 4 s = storeM bs s from by simp [drawnM, plainM]]
    simp -dsimp -implicitDefEqProofs [hn0, hnn, zz, hlt, hlb, hbo, hob, hbx, e0, e1, e2, e3, e4, e5, e12, e13, zy, zx, zw, zu, loadA, oblR, oblQ, oblE]
    refine zt (d31 (h.to hwf (by simp [hlt, zy, zx, zw, zu, h.obj, Mo_def]) (fun q h1 h2 => by simp [h1, h2, zx, zy]) (by simp) (Kc.refl 0 s) (by omega))) ?_
    have ks := ve (bs := bs) s
    generalize storeM bs s = R1 at *
    obtain ⟨sm, s1⟩ := R1
    simp only at ks ⊢
    have l1 := Sm.cells_len sm
    have z1 := Sm.bare_cells sm
    have t1 : sm.cells.take 19 = sm.cells := List.take_of_length_le (by omega)
    generalize sm.cells = c1 at *
    simp -dsimp -implicitDefEqProofs [hn0, hnn, zz, hlt, hlb, hbo, hob, hbx, e0, e1, e2, e3, e4, e5, e12, e13, zy, zx, zw, zu, loadA, oblR, oblQ, oblE, l1, t1]
    refine hold ⟨by simp [AV.bare, AV.bareL, zm, z1], x9 hK h hw hb hbr (by simp [hlt, zy, hob, h.obj]) (fun p h1 h2 h3 => by simp [h1, h2, h3, zx, zy]) (by simp) ?_ ks (by omega)⟩
    repeat first | exact zk hwf | (refine zb ?_ ?_; rotate_left; focus (first | (simp; done) | (simp; omega))) | refine yf ?_ _
   ·rw [show drawnM bs f true false B top loop 4 s = setM bs f s from by simp [drawnM, plainM]]
    simp -dsimp -implicitDefEqProofs [hn0, hnn, zz, hlt, hlb, hbo, hob, hbx, e0, e1, e2, e3, e4, e5, e12, e13, zy, zx, zw, zu, loadA, oblR, oblQ, oblE]
    refine yu (w53 (c := c) (zk hwf) (h.to hwf (by simp [hlt, zy, zx, zw, zu, h.obj, Mo_def]) (fun q h1 h2 => by simp [h1, h2, zx, zy]) (by simp) (Kc.refl 0 s) (by omega)) hw f hf) (by simp [AV.bareL, AV.bare]) fun v z2 hv => ?_
    obtain ⟨rfl, hA⟩ := hv
    obtain ⟨hbx2, hA⟩ := xl hK hlt hb hlb hbo hbr hA
    rw [hbx] at hbx2
    have l1 := Sm.cells_len (setM bs f s).1
    have z1 := Sm.bare_cells (setM bs f s).1
    have t1 : (setM bs f s).1.cells.take 19 = (setM bs f s).1.cells := List.take_of_length_le (by omega)
    generalize (setM bs f s).1.cells = c1 at *
    simp -dsimp -implicitDefEqProofs [hn0, hnn, zz, hlt, hlb, hbo, hob, hbx, e0, e1, e2, e3, e4, e5, e12, e13, zy, zx, zw, zu, loadA, oblR, oblQ, oblE, hbx2, l1, t1]
    exact hold ⟨by simp [AV.bare, z1], hA 0 _⟩
  ·have hd0 : 0 < dd := hd.1 rfl
   have hBC := hB rfl
   have hsm : ∀ (b1 b2 : List Sm) (x : Ex), (Sm.mk 5 0 0 0 [] x zE b1 b2).cells = [vi 5, vi 0, vi 0, vi 0, .str []] ++ (x.cells ++ ([vi 0, vi 0, vi 0, .str [], .int .i32 0, .sl [] 0 .no] ++ [.sl (Sm.cellsL b1) b1.length .no, .sl (Sm.cellsL b2) b2.length .no])) := fun b1 b2 x => by rw [smCells2, zCells]
   rw [show drawnM bs f pure true B top loop 4 s = (if (nextM bs (B loop (exprM bs 3 3 s).2).2).1 % 2 = 0 then (.mk 5 0 0 0 [] (exprM bs 3 3 s).1 zE (B loop (exprM bs 3 3 s).2).1 (B loop (nextM bs (B loop (exprM bs 3 3 s).2).2).2).1, (B loop (nextM bs (B loop (exprM bs 3 3 s).2).2).2).2) else (.mk 5 0 0 0 [] (exprM bs 3 3 s).1 zE (B loop (exprM bs 3 3 s).2).1 [], (nextM bs (B loop (exprM bs 3 3 s).2).2).2)) from by simp [drawnM]]
   simp -dsimp -implicitDefEqProofs [hn0, hnn, zz, hlt, hlb, hbo, hob, hbx, e0, e1, e2, e3, e4, e5, e12, e13, zy, zx, zw, zu, loadA, oblR, oblQ, oblE, hd0]
   refine zt (E3 bs _ _ _ s 3 (h.to hwf (by simp [hlt, zy, zx, zw, zu, h.obj, Mo_def]) (fun q h1 h2 => by simp [h1, h2, zx, zy]) (by simp) (Kc.refl 0 s) (by omega)) (.inr (.inr rfl))) ?_
   have k1 := K3 bs 3 s
   generalize exprM bs 3 3 s = R1 at *
   obtain ⟨⟨xk, xo, xt, xn, xv, xa⟩, s1⟩ := R1
   simp only [Ex.cells] at k1 ⊢
   have bxa := Ex.bare_cellsL xa
   generalize hcxa : Ex.cellsL xa = cxa at *
   simp -dsimp -implicitDefEqProofs [hn0, hnn, zz, hlt, hlb, hbo, hob, hbx, e0, e1, e2, e3, e4, e5, e12, e13, zy, zx, zw, zu, loadA, oblR, oblQ, oblE, hd0]
   have hrx : some (z.next + 13) ≠ rowId vv := row_ne (h.und hwf) (by omega)
   have hS := fun (X Y : AObj) => Kp.over hK (S := ((z.bump 24).put o X).put (z.next + 13) Y) (fun p h1 h2 => by have h4 := hK.next; have h3 : p ≠ z.next + 13 := (by omega); simp [h2, h3]) (by simp) (by repeat first | exact zk hwf | (refine zb ?_ ?_; rotate_left; focus (first | (simp; done) | (simp; omega))) | refine yf ?_ _)
   refine yu (hBC _ o vv s1 (1 + CB + c) loop (by repeat first | exact zk hwf | (refine zb ?_ ?_; rotate_left; focus (first | (simp; done) | (simp; omega))) | refine yf ?_ _) (h.to hwf (by simp [hlt, zy, zx, zw, zu, h.obj, Mo_def]) (fun q h1 h2 => by simp [h1, h2, zx, zy]) (by simp) k1 (by omega)) hw) (by simp [AV.bareL, AV.bare]) fun v z2 hv => ?_
   obtain ⟨rfl, v2, hM2, hw2, hsl2, hK2⟩ := hv
   have hnx2 : z.next + 24 ≤ z2.next := hK2.next
   have hKz2 := (hS _ _).trans hK2
   have hbz2 : z2.objs b = some (.cells 54 [vi 0, vi 0, vi 0, vi 0, .str [], vi 0, vi 0, vi 0, .str [], .int .i32 0, .sl [] 0 .full, vi 0, vi 0, vi 0, .str [], .int .i32 0, .sl [] 0 .full, .sl [] 0 .full, .sl [] 0 .full]) := by
    rw [hK2.same b (by simp; omega) hbo hbr]; simp [hlb, zx, hbo, hbx]
   have hxz2 : z2.objs (z.next + 13) = some (.cells 54 [vi 5, vi 0, vi 0, vi 0, .str [], vi xk, vi xo, vi xt, .str xn, .int .i32 xv, .sl cxa xa.length .no, vi 0, vi 0, vi 0, .str [], .int .i32 0, .sl [] 0 .full, .sl [] 0 .full, .sl [] 0 .full]) := by
    rw [hK2.same _ (by simp) (by omega) hrx]; simp
   have hlt2 := hK2.wf _ _ hM2.obj
   have hwf2 := hK2.wf
   have hrb2 := vu hK2 (b := b) (by simp; omega) hbr
   have hrx2 := vu hK2 (b := z.next + 13) (by simp) hrx
   have hXo : z.next + 13 ≠ o := by omega
   have hXo' : ¬ o = z.next + 13 := by omega
   have hXb : z.next + 13 ≠ b := by omega
   have hXb' : ¬ b = z.next + 13 := by omega
   have hXl : z.next + 13 < z2.next := by omega
   have hXs : st.next ≤ z.next + 13 := by have := hK.next; omega
   clear hS
   generalize z.next + 13 = X at *
   generalize B loop s1 = Rb at *
   obtain ⟨bl, s2⟩ := Rb
   simp only at hM2 ⊢
   have bcb := Sm.bare_cellsL bl
   generalize hcb : Sm.cellsL bl = cb at *
   simp -dsimp -implicitDefEqProofs [hbz2, hxz2, hXo, hXo', hXb, hXb', hXl, hlt2, hbo, hob, e0, e1, e2, e3, e4, e5, e12, e13, loadA, oblR, oblQ, oblE, hd0]
   refine zt (m26 (hM2.toR hwf2 (by simp [hXo, hXo', hob, hM2.obj, Mo_def]) (fun q h1 h2 => by have h3 := hrx2 q h1; have h4 := hrb2 q h1; simp [h2, h3, h4]) (by simp) (Kc.refl 0 s2) (by omega))) ?_
   have kx := zi (bs := bs) s2
   have hx := yj bs s2
   generalize nextM bs s2 = Rx at *
   obtain ⟨x, sx⟩ := Rx
   simp only at kx hx ⊢
   have r2x : (x : Int).tmod 2 = ((x % 2 : Nat) : Int) := yz x 2
   generalize x % 2 = u at *
   by_cases hu0 : u = 0
   ·have bu : ((u : Int) == 0) = true := by simp; omega
    rw [if_pos hu0]
    simp -dsimp -implicitDefEqProofs [hbz2, hxz2, hXo, hXo', hXb, hXb', hXl, hlt2, hbo, hob, e0, e1, e2, e3, e4, e5, e12, e13, loadA, oblR, oblQ, oblE, r2x, bu]
    have hKS2 := fun (X1 X2 : AObj) (n : Nat) => Kp.over hKz2 (S := ((z2.bump n).put X X1).put o X2) (fun p h1 h2 => by have h3 : p ≠ X := (by omega); simp [h2, h3]) (by simp) (by repeat first | exact zk hwf2 | (refine zb ?_ ?_; rotate_left; focus (first | (simp; done) | (simp; omega))) | refine yf ?_ _)
    refine yu (hBC _ o v2 sx c loop (by repeat first | exact zk hwf2 | (refine zb ?_ ?_; rotate_left; focus (first | (simp; done) | (simp; omega))) | refine yf ?_ _) (hM2.toR hwf2 (by simp [hXo, hXo', hob, hM2.obj, Mo_def]) (fun q h1 h2 => by have h3 := hrx2 q h1; have h4 := hrb2 q h1; simp [h2, h3, h4]) (by simp) kx (by omega)) hw2) (by simp [AV.bareL, AV.bare]) fun v z3 hv => ?_
    obtain ⟨rfl, v3, hM3, hw3, hsl3, hK3⟩ := hv
    have hnx3 : z2.next + 13 ≤ z3.next := hK3.next
    have hKz3 := (hKS2 _ _ _).trans hK3
    have hbz3 : z3.objs b = some (.cells 54 [vi 0, vi 0, vi 0, vi 0, .str [], vi 0, vi 0, vi 0, .str [], .int .i32 0, .sl [] 0 .full, vi 0, vi 0, vi 0, .str [], .int .i32 0, .sl [] 0 .full, .sl [] 0 .full, .sl [] 0 .full]) := by
     rw [hK3.same b (by simp; omega) hbo (fun e => hrb2 b e.symm rfl)]; simp [hXb', hbo, hbz2]
    have hxz3 : z3.objs X = some (.cells 54 [vi 5, vi 0, vi 0, vi 0, .str [], vi xk, vi xo, vi xt, .str xn, .int .i32 xv, .sl cxa xa.length .no, vi 0, vi 0, vi 0, .str [], .int .i32 0, .sl [] 0 .full, .sl cb bl.length .no, .sl [] 0 .full]) := by
     rw [hK3.same X (by simp; omega) hXo (fun e => hrx2 X e.symm rfl)]; simp [hXo]
    have hlt3 := hK3.wf _ _ hM3.obj
    have hwf3 := hK3.wf
    have hrb3 := vu hK3 (b := b) (by simp; omega) (fun e => hrb2 b e.symm rfl)
    have hrx3 := vu hK3 (b := X) (by simp; omega) (fun e => hrx2 X e.symm rfl)
    have hXl3 : X < z3.next := by omega
    have hbl3 : b < z3.next := by omega
    clear hKS2
    generalize B loop sx = Rc at *
    obtain ⟨cl, s3⟩ := Rc
    simp only at hM3 ⊢
    have bcc := Sm.bare_cellsL cl
    generalize hcc : Sm.cellsL cl = cc at *
    simp -dsimp -implicitDefEqProofs [hbz3, hxz3, hXo, hXo', hXb, hXb', hXl3, hlt3, hbo, hob, e0, e1, e2, e3, e4, e5, e12, e13, loadA, oblR, oblQ, oblE, r2x, bu]
    refine hold ⟨by simp [hsm, Ex.cells, hcxa, hcb, hcc, Sm.cellsL, AV.bare, AV.bareL, bxa, bcb, bcc], ⟨v3, hM3.toR hwf3 (by simp [hXo, hXo', hob, hM3.obj]) (fun q h1 h2 => by have h3 := hrx3 q h1; have h4 := hrb3 q h1; simp [h2, h3, h4]) (by simp) (Kc.refl 0 s3) (by omega), hw3, fun e => ?_, Kp.over hKz3 (fun p h1 h2 => by have h3 : p ≠ X := (by omega); have h4 : p ≠ b := (by omega); simp [h2, h3, h4]) (by simp) (by repeat first | exact zk hwf3 | (refine zb ?_ ?_; rotate_left; focus (first | (simp; done) | (simp; omega))) | refine yf ?_ _)⟩⟩
    have e2 := hsl3 e
    rw [e2] at e
    rw [e2]; exact hsl2 e
   ·have bu : ((u : Int) == 0) = false := by simp; omega
    rw [if_neg hu0]
    simp -dsimp -implicitDefEqProofs [hbz2, hxz2, hXo, hXo', hXb, hXb', hXl, hlt2, hbo, hob, e0, e1, e2, e3, e4, e5, e12, e13, loadA, oblR, oblQ, oblE, r2x, bu]
    refine hold ⟨by simp [hsm, Ex.cells, hcxa, hcb, Sm.cellsL, AV.bare, AV.bareL, bxa, bcb], ⟨v2, (hM2.toR hwf2 (by simp [hXo, hXo', hob, hM2.obj, Mo_def]) (fun q h1 h2 => by have h3 := hrx2 q h1; have h4 := hrb2 q h1; simp [h2, h3, h4]) (by simp) kx (by omega)), hw2, hsl2, Kp.over hKz2 (fun p h1 h2 => by have h3 : p ≠ X := (by omega); have h4 : p ≠ b := (by omega); simp [h2, h3, h4]) (by simp) (by repeat first | exact zk hwf2 | (refine zb ?_ ?_; rotate_left; focus (first | (simp; done) | (simp; omega))) | refine yf ?_ _)⟩⟩
 ·cases deep
  ·have hd0 : dd = 0 := hd.2 rfl
   subst hd0
   cases pure
   ·rw [show drawnM bs f false false B top loop 5 s = storeM bs s from by simp [drawnM, plainM]]
    simp -dsimp -implicitDefEqProofs [hn0, hnn, zz, hlt, hlb, hbo, hob, hbx, e0, e1, e2, e3, e4, e5, e12, e13, zy, zx, zw, zu, loadA, oblR, oblQ, oblE]
    refine zt (d31 (h.to hwf (by simp [hlt, zy, zx, zw, zu, h.obj, Mo_def]) (fun q h1 h2 => by simp [h1, h2, zx, zy]) (by simp) (Kc.refl 0 s) (by omega))) ?_
    have ks := ve (bs := bs) s
    generalize storeM bs s = R1 at *
    obtain ⟨sm, s1⟩ := R1
    simp only at ks ⊢
    have l1 := Sm.cells_len sm
    have z1 := Sm.bare_cells sm
    have t1 : sm.cells.take 19 = sm.cells := List.take_of_length_le (by omega)
    generalize sm.cells = c1 at *
    simp -dsimp -implicitDefEqProofs [hn0, hnn, zz, hlt, hlb, hbo, hob, hbx, e0, e1, e2, e3, e4, e5, e12, e13, zy, zx, zw, zu, loadA, oblR, oblQ, oblE, l1, t1]
    refine hold ⟨by simp [AV.bare, AV.bareL, zm, z1], x9 hK h hw hb hbr (by simp [hlt, zy, hob, h.obj]) (fun p h1 h2 h3 => by simp [h1, h2, h3, zx, zy]) (by simp) ?_ ks (by omega)⟩
    repeat first | exact zk hwf | (refine zb ?_ ?_; rotate_left; focus (first | (simp; done) | (simp; omega))) | refine yf ?_ _
   ·rw [show drawnM bs f true false B top loop 5 s = setM bs f s from by simp [drawnM, plainM]]
    simp -dsimp -implicitDefEqProofs [hn0, hnn, zz, hlt, hlb, hbo, hob, hbx, e0, e1, e2, e3, e4, e5, e12, e13, zy, zx, zw, zu, loadA, oblR, oblQ, oblE]
    refine yu (w53 (c := c) (zk hwf) (h.to hwf (by simp [hlt, zy, zx, zw, zu, h.obj, Mo_def]) (fun q h1 h2 => by simp [h1, h2, zx, zy]) (by simp) (Kc.refl 0 s) (by omega)) hw f hf) (by simp [AV.bareL, AV.bare]) fun v z2 hv => ?_
    obtain ⟨rfl, hA⟩ := hv
    obtain ⟨hbx2, hA⟩ := xl hK hlt hb hlb hbo hbr hA
    rw [hbx] at hbx2
    have l1 := Sm.cells_len (setM bs f s).1
    have z1 := Sm.bare_cells (setM bs f s).1
    have t1 : (setM bs f s).1.cells.take 19 = (setM bs f s).1.cells := List.take_of_length_le (by omega)
    generalize (setM bs f s).1.cells = c1 at *
    simp -dsimp -implicitDefEqProofs [hn0, hnn, zz, hlt, hlb, hbo, hob, hbx, e0, e1, e2, e3, e4, e5, e12, e13, zy, zx, zw, zu, loadA, oblR, oblQ, oblE, hbx2, l1, t1]
    exact hold ⟨by simp [AV.bare, z1], hA 0 _⟩
  ·have hd0 : 0 < dd := hd.1 rfl
   have hBC := hB rfl
   have hsm : ∀ (y : Int) (b1 : List Sm) (x : Ex), (Sm.mk 6 0 0 y [] x zE b1 []).cells = [vi 6, vi 0, vi 0, vi y, .str []] ++ (x.cells ++ ([vi 0, vi 0, vi 0, .str [], .int .i32 0, .sl [] 0 .no] ++ [.sl (Sm.cellsL b1) b1.length .no, .sl [] 0 .no])) := fun y b1 x => by rw [smCells2, zCells]; simp [Sm.cellsL]
   rw [show drawnM bs f pure true B top loop 5 s = (.mk 6 0 0 (1 + ((nextM bs (exprM bs 3 3 s).2).1 % 4 : Nat)) [] (exprM bs 3 3 s).1 zE (B true (nextM bs (exprM bs 3 3 s).2).2).1 [], (B true (nextM bs (exprM bs 3 3 s).2).2).2) from by simp [drawnM]]
   simp -dsimp -implicitDefEqProofs [hn0, hnn, zz, hlt, hlb, hbo, hob, hbx, e0, e1, e2, e3, e4, e5, e12, e13, zy, zx, zw, zu, loadA, oblR, oblQ, oblE, hd0]
   refine zt (E3 bs _ _ _ s 3 (h.to hwf (by simp [hlt, zy, zx, zw, zu, h.obj, Mo_def]) (fun q h1 h2 => by simp [h1, h2, zx, zy]) (by simp) (Kc.refl 0 s) (by omega)) (.inr (.inr rfl))) ?_
   have k1 := K3 bs 3 s
   generalize exprM bs 3 3 s = R1 at *
   obtain ⟨⟨xk, xo, xt, xn, xv, xa⟩, s1⟩ := R1
   simp only [Ex.cells] at k1 ⊢
   have bxa := Ex.bare_cellsL xa
   generalize hcxa : Ex.cellsL xa = cxa at *
   simp -dsimp -implicitDefEqProofs [hn0, hnn, zz, hlt, hlb, hbo, hob, hbx, e0, e1, e2, e3, e4, e5, e12, e13, zy, zx, zw, zu, loadA, oblR, oblQ, oblE, hd0]
   refine zt (m26 (h.to hwf (by simp [hlt, zy, zx, zw, zu, h.obj, Mo_def]) (fun q h1 h2 => by simp [h1, h2, zx, zy]) (by simp) k1 (by omega))) ?_
   have kx := zi (bs := bs) s1
   have hx := yj bs s1
   generalize nextM bs s1 = Rx at *
   obtain ⟨x, sx⟩ := Rx
   simp only at kx hx ⊢
   have kk : Kc 40 s sx := k1.trans kx (by omega)
   have r4x : (x : Int).tmod 4 = ((x % 4 : Nat) : Int) := yz x 4
   have y4 : x % 4 < 4 := Nat.mod_lt _ (by omega)
   generalize x % 4 = u at *
   have wu : IntKind.i64.wrap (1 + (u : Int)) = 1 + (u : Int) := yy (by omega) (by omega)
   simp -dsimp -implicitDefEqProofs [hn0, hnn, zz, hlt, hlb, hbo, hob, hbx, e0, e1, e2, e3, e4, e5, e12, e13, zy, zx, zw, zu, loadA, oblR, oblQ, oblE, hd0, r4x, wu]
   have hrx : some (z.next + 23) ≠ rowId vv := row_ne (h.und hwf) (by omega)
   have hS := fun (X Y : AObj) => Kp.over hK (S := ((z.bump 33).put o X).put (z.next + 23) Y) (fun p h1 h2 => by have h4 := hK.next; have h3 : p ≠ z.next + 23 := (by omega); simp [h2, h3]) (by simp) (by repeat first | exact zk hwf | (refine zb ?_ ?_; rotate_left; focus (first | (simp; done) | (simp; omega))) | refine yf ?_ _)
   refine yu (hBC _ o vv sx (1 + CB + c) true (by repeat first | exact zk hwf | (refine zb ?_ ?_; rotate_left; focus (first | (simp; done) | (simp; omega))) | refine yf ?_ _) (h.to hwf (by simp [hlt, zy, zx, zw, zu, h.obj, Mo_def]) (fun q h1 h2 => by simp [h1, h2, zx, zy]) (by simp) kk (by omega)) hw) (by simp [AV.bareL, AV.bare]) fun v z2 hv => ?_
   obtain ⟨rfl, v2, hM2, hw2, hsl2, hK2⟩ := hv
   have hnx2 : z.next + 33 ≤ z2.next := hK2.next
   have hKz2 := (hS _ _).trans hK2
   have hbz2 : z2.objs b = some (.cells 54 [vi 0, vi 0, vi 0, vi 0, .str [], vi 0, vi 0, vi 0, .str [], .int .i32 0, .sl [] 0 .full, vi 0, vi 0, vi 0, .str [], .int .i32 0, .sl [] 0 .full, .sl [] 0 .full, .sl [] 0 .full]) := by
    rw [hK2.same b (by simp; omega) hbo hbr]; simp [hlb, zx, hbo, hbx]
   have hxz2 : z2.objs (z.next + 23) = some (.cells 54 [vi 6, vi 0, vi 0, vi (1 + (u : Int)), .str [], vi xk, vi xo, vi xt, .str xn, .int .i32 xv, .sl cxa xa.length .no, vi 0, vi 0, vi 0, .str [], .int .i32 0, .sl [] 0 .full, .sl [] 0 .full, .sl [] 0 .full]) := by
    rw [hK2.same _ (by simp) (by omega) hrx]; simp
   have hlt2 := hK2.wf _ _ hM2.obj
   have hwf2 := hK2.wf
   have hrb2 := vu hK2 (b := b) (by simp; omega) hbr
   have hrx2 := vu hK2 (b := z.next + 23) (by simp) hrx
   have hXo : z.next + 23 ≠ o := by omega
   have hXo' : ¬ o = z.next + 23 := by omega
   have hXb : z.next + 23 ≠ b := by omega
   have hXb' : ¬ b = z.next + 23 := by omega
   have hXl : z.next + 23 < z2.next := by omega
   have hXs : st.next ≤ z.next + 23 := by have := hK.next; omega
   clear hS
   generalize z.next + 23 = X at *
   generalize B true sx = Rb at *
   obtain ⟨bl, s2⟩ := Rb
   simp only at hM2 ⊢
   have bcb := Sm.bare_cellsL bl
   generalize hcb : Sm.cellsL bl = cb at *
   simp -dsimp -implicitDefEqProofs [hbz2, hxz2, hXo, hXo', hXb, hXb', hXl, hlt2, hbo, hob, e0, e1, e2, e3, e4, e5, e12, e13, loadA, oblR, oblQ, oblE, hd0]
   refine hold ⟨by simp [hsm, Ex.cells, hcxa, hcb, Sm.cellsL, AV.bare, AV.bareL, bxa, bcb], ⟨v2, (hM2.toR hwf2 (by simp [hXo, hXo', hob, hM2.obj, Mo_def]) (fun q h1 h2 => by have h3 := hrx2 q h1; have h4 := hrb2 q h1; simp [h2, h3, h4]) (by simp) (Kc.refl 0 s2) (by omega)), hw2, hsl2, Kp.over hKz2 (fun p h1 h2 => by have h3 : p ≠ X := (by omega); have h4 : p ≠ b := (by omega); simp [h2, h3, h4]) (by simp) (by repeat first | exact zk hwf2 | (refine zb ?_ ?_; rotate_left; focus (first | (simp; done) | (simp; omega))) | refine yf ?_ _)⟩⟩
 ·cases loop
  ·cases pure
   ·rw [show drawnM bs f false deep B top false 6 s = storeM bs s from by simp [drawnM, plainM]]
    simp -dsimp -implicitDefEqProofs [hn0, hnn, zz, hlt, hlb, hbo, hob, hbx, e0, e1, e2, e3, e4, e5, e12, e13, zy, zx, zw, zu, loadA, oblR, oblQ, oblE]
    refine zt (d31 (h.to hwf (by simp [hlt, zy, zx, zw, zu, h.obj, Mo_def]) (fun q h1 h2 => by simp [h1, h2, zx, zy]) (by simp) (Kc.refl 0 s) (by omega))) ?_
    have ks := ve (bs := bs) s
    generalize storeM bs s = R1 at *
    obtain ⟨sm, s1⟩ := R1
    simp only at ks ⊢
    have l1 := Sm.cells_len sm
    have z1 := Sm.bare_cells sm
    have t1 : sm.cells.take 19 = sm.cells := List.take_of_length_le (by omega)
    generalize sm.cells = c1 at *
    simp -dsimp -implicitDefEqProofs [hn0, hnn, zz, hlt, hlb, hbo, hob, hbx, e0, e1, e2, e3, e4, e5, e12, e13, zy, zx, zw, zu, loadA, oblR, oblQ, oblE, l1, t1]
    refine hold ⟨by simp [AV.bare, AV.bareL, zm, z1], x9 hK h hw hb hbr (by simp [hlt, zy, hob, h.obj]) (fun p h1 h2 h3 => by simp [h1, h2, h3, zx, zy]) (by simp) ?_ ks (by omega)⟩
    repeat first | exact zk hwf | (refine zb ?_ ?_; rotate_left; focus (first | (simp; done) | (simp; omega))) | refine yf ?_ _
   ·rw [show drawnM bs f true deep B top false 6 s = setM bs f s from by simp [drawnM, plainM]]
    simp -dsimp -implicitDefEqProofs [hn0, hnn, zz, hlt, hlb, hbo, hob, hbx, e0, e1, e2, e3, e4, e5, e12, e13, zy, zx, zw, zu, loadA, oblR, oblQ, oblE]
    refine yu (w53 (c := c) (zk hwf) (h.to hwf (by simp [hlt, zy, zx, zw, zu, h.obj, Mo_def]) (fun q h1 h2 => by simp [h1, h2, zx, zy]) (by simp) (Kc.refl 0 s) (by omega)) hw f hf) (by simp [AV.bareL, AV.bare]) fun v z2 hv => ?_
    obtain ⟨rfl, hA⟩ := hv
    obtain ⟨hbx2, hA⟩ := xl hK hlt hb hlb hbo hbr hA
    rw [hbx] at hbx2
    have l1 := Sm.cells_len (setM bs f s).1
    have z1 := Sm.bare_cells (setM bs f s).1
    have t1 : (setM bs f s).1.cells.take 19 = (setM bs f s).1.cells := List.take_of_length_le (by omega)
    generalize (setM bs f s).1.cells = c1 at *
    simp -dsimp -implicitDefEqProofs [hn0, hnn, zz, hlt, hlb, hbo, hob, hbx, e0, e1, e2, e3, e4, e5, e12, e13, zy, zx, zw, zu, loadA, oblR, oblQ, oblE, hbx2, l1, t1]
    exact hold ⟨by simp [AV.bare, z1], hA 0 _⟩
  ·rw [show drawnM bs f pure deep B top true 6 s = (.mk (7 + ((nextM bs s).1 % 2 : Nat)) 0 0 0 [] zE zE [] [], (nextM bs s).2) from by simp [drawnM, plainM]]
   simp -dsimp -implicitDefEqProofs [hn0, hnn, zz, hlt, hlb, hbo, hob, hbx, e0, e1, e2, e3, e4, e5, e12, e13, zy, zx, zw, zu, loadA, oblR, oblQ, oblE]
   refine zt (m26 (h.to hwf (by simp [hlt, zy, zx, zw, zu, h.obj, Mo_def]) (fun q h1 h2 => by simp [h1, h2, zx, zy]) (by simp) (Kc.refl 0 s) (by omega))) ?_
   have kx := zi (bs := bs) s
   have hx := yj bs s
   generalize nextM bs s = Rx at *
   obtain ⟨x, sx⟩ := Rx
   simp only at kx hx ⊢
   have e2x : (x : Int).tmod 2 = ((x % 2 : Nat) : Int) := yz x 2
   have y2 : x % 2 < 2 := Nat.mod_lt _ (by omega)
   generalize x % 2 = u at *
   have wu : IntKind.i64.wrap (7 + (u : Int)) = 7 + (u : Int) := yy (by omega) (by omega)
   rw [vf, zCells]
   simp -dsimp -implicitDefEqProofs [hn0, hnn, zz, hlt, hlb, hbo, hob, hbx, e0, e1, e2, e3, e4, e5, e12, e13, zy, zx, zw, zu, loadA, oblR, oblQ, oblE, e2x, wu]
   refine hold ⟨by simp [AV.bare, AV.bareL, zm], x9 hK h hw hb hbr (by simp [hlt, zy, hob, h.obj]) (fun p h1 h2 h3 => by simp [h1, h2, h3, zx, zy]) (by simp) ?_ kx (by omega)⟩
   repeat first | exact zk hwf | (refine zb ?_ ?_; rotate_left; focus (first | (simp; done) | (simp; omega))) | refine yf ?_ _
 ·cases pure
  ·cases top
   ·rw [show drawnM bs f false deep B false loop 7 s = storeM bs s from by simp [drawnM, plainM]]
    simp -dsimp -implicitDefEqProofs [hn0, hnn, zz, hlt, hlb, hbo, hob, hbx, e0, e1, e2, e3, e4, e5, e12, e13, zy, zx, zw, zu, loadA, oblR, oblQ, oblE]
    refine zt (d31 (h.to hwf (by simp [hlt, zy, zx, zw, zu, h.obj, Mo_def]) (fun q h1 h2 => by simp [h1, h2, zx, zy]) (by simp) (Kc.refl 0 s) (by omega))) ?_
    have ks := ve (bs := bs) s
    generalize storeM bs s = R1 at *
    obtain ⟨sm, s1⟩ := R1
    simp only at ks ⊢
    have l1 := Sm.cells_len sm
    have z1 := Sm.bare_cells sm
    have t1 : sm.cells.take 19 = sm.cells := List.take_of_length_le (by omega)
    generalize sm.cells = c1 at *
    simp -dsimp -implicitDefEqProofs [hn0, hnn, zz, hlt, hlb, hbo, hob, hbx, e0, e1, e2, e3, e4, e5, e12, e13, zy, zx, zw, zu, loadA, oblR, oblQ, oblE, l1, t1]
    refine hold ⟨by simp [AV.bare, AV.bareL, zm, z1], x9 hK h hw hb hbr (by simp [hlt, zy, hob, h.obj]) (fun p h1 h2 h3 => by simp [h1, h2, h3, zx, zy]) (by simp) ?_ ks (by omega)⟩
    repeat first | exact zk hwf | (refine zb ?_ ?_; rotate_left; focus (first | (simp; done) | (simp; omega))) | refine yf ?_ _
   ·rw [show drawnM bs f false deep B true loop 7 s = (.mk 10 0 0 0 [] zE zE [] [], s) from by simp [drawnM, plainM]]
    rw [vf, zCells]
    simp -dsimp -implicitDefEqProofs [hn0, hnn, zz, hlt, hlb, hbo, hob, hbx, e0, e1, e2, e3, e4, e5, e12, e13, zy, zx, zw, zu, loadA, oblR, oblQ, oblE]
    refine hold ⟨by simp [AV.bare, AV.bareL, zm], x9 hK h hw hb hbr (by simp [hlt, zy, hob, h.obj]) (fun p h1 h2 h3 => by simp [h1, h2, h3, zx, zy]) (by simp) ?_ (Kc.refl 0 s) (by omega)⟩
    repeat first | exact zk hwf | (refine zb ?_ ?_; rotate_left; focus (first | (simp; done) | (simp; omega))) | refine yf ?_ _
  ·rw [show drawnM bs f true deep B top loop 7 s = setM bs f s from by simp [drawnM, plainM]]
   simp -dsimp -implicitDefEqProofs [hn0, hnn, zz, hlt, hlb, hbo, hob, hbx, e0, e1, e2, e3, e4, e5, e12, e13, zy, zx, zw, zu, loadA, oblR, oblQ, oblE]
   refine yu (w53 (c := c) (zk hwf) (h.to hwf (by simp [hlt, zy, zx, zw, zu, h.obj, Mo_def]) (fun q h1 h2 => by simp [h1, h2, zx, zy]) (by simp) (Kc.refl 0 s) (by omega)) hw f hf) (by simp [AV.bareL, AV.bare]) fun v z2 hv => ?_
   obtain ⟨rfl, hA⟩ := hv
   obtain ⟨hbx2, hA⟩ := xl hK hlt hb hlb hbo hbr hA
   rw [hbx] at hbx2
   have l1 := Sm.cells_len (setM bs f s).1
   have z1 := Sm.bare_cells (setM bs f s).1
   have t1 : (setM bs f s).1.cells.take 19 = (setM bs f s).1.cells := List.take_of_length_le (by omega)
   generalize (setM bs f s).1.cells = c1 at *
   simp -dsimp -implicitDefEqProofs [hn0, hnn, zz, hlt, hlb, hbo, hob, hbx, e0, e1, e2, e3, e4, e5, e12, e13, zy, zx, zw, zu, loadA, oblR, oblQ, oblE, hbx2, l1, t1]
   exact hold ⟨by simp [AV.bare, z1], hA 0 _⟩
 ·cases pure
  ·cases top
   ·rw [show drawnM bs f false deep B false loop 8 s = storeM bs s from by simp [drawnM, plainM]]
    simp -dsimp -implicitDefEqProofs [hn0, hnn, zz, hlt, hlb, hbo, hob, hbx, e0, e1, e2, e3, e4, e5, e12, e13, zy, zx, zw, zu, loadA, oblR, oblQ, oblE]
    refine zt (d31 (h.to hwf (by simp [hlt, zy, zx, zw, zu, h.obj, Mo_def]) (fun q h1 h2 => by simp [h1, h2, zx, zy]) (by simp) (Kc.refl 0 s) (by omega))) ?_
    have ks := ve (bs := bs) s
    generalize storeM bs s = R1 at *
    obtain ⟨sm, s1⟩ := R1
    simp only at ks ⊢
    have l1 := Sm.cells_len sm
    have z1 := Sm.bare_cells sm
    have t1 : sm.cells.take 19 = sm.cells := List.take_of_length_le (by omega)
    generalize sm.cells = c1 at *
    simp -dsimp -implicitDefEqProofs [hn0, hnn, zz, hlt, hlb, hbo, hob, hbx, e0, e1, e2, e3, e4, e5, e12, e13, zy, zx, zw, zu, loadA, oblR, oblQ, oblE, l1, t1]
    refine hold ⟨by simp [AV.bare, AV.bareL, zm, z1], x9 hK h hw hb hbr (by simp [hlt, zy, hob, h.obj]) (fun p h1 h2 h3 => by simp [h1, h2, h3, zx, zy]) (by simp) ?_ ks (by omega)⟩
    repeat first | exact zk hwf | (refine zb ?_ ?_; rotate_left; focus (first | (simp; done) | (simp; omega))) | refine yf ?_ _
   ·rw [show drawnM bs f false deep B true loop 8 s = collectedM bs f s from by simp [drawnM, plainM]]
    simp -dsimp -implicitDefEqProofs [hn0, hnn, zz, hlt, hlb, hbo, hob, hbx, e0, e1, e2, e3, e4, e5, e12, e13, zy, zx, zw, zu, loadA, oblR, oblQ, oblE]
    refine yu (w55 (c := c) (zk hwf) (h.to hwf (by simp [hlt, zy, zx, zw, zu, h.obj, Mo_def]) (fun q h1 h2 => by simp [h1, h2, zx, zy]) (by simp) (Kc.refl 0 s) (by omega)) hw f hf) (by simp [AV.bareL, AV.bare]) fun v z2 hv => ?_
    obtain ⟨rfl, hA⟩ := hv
    obtain ⟨hbx2, hA⟩ := xl hK hlt hb hlb hbo hbr hA
    rw [hbx] at hbx2
    have l1 := Sm.cells_len (collectedM bs f s).1
    have z1 := Sm.bare_cells (collectedM bs f s).1
    have t1 : (collectedM bs f s).1.cells.take 19 = (collectedM bs f s).1.cells := List.take_of_length_le (by omega)
    generalize (collectedM bs f s).1.cells = c1 at *
    simp -dsimp -implicitDefEqProofs [hn0, hnn, zz, hlt, hlb, hbo, hob, hbx, e0, e1, e2, e3, e4, e5, e12, e13, zy, zx, zw, zu, loadA, oblR, oblQ, oblE, hbx2, l1, t1]
    exact hold ⟨by simp [AV.bare, z1], hA 0 _⟩
  ·rw [show drawnM bs f true deep B top loop 8 s = setM bs f s from by simp [drawnM, plainM]]
   simp -dsimp -implicitDefEqProofs [hn0, hnn, zz, hlt, hlb, hbo, hob, hbx, e0, e1, e2, e3, e4, e5, e12, e13, zy, zx, zw, zu, loadA, oblR, oblQ, oblE]
   refine yu (w53 (c := c) (zk hwf) (h.to hwf (by simp [hlt, zy, zx, zw, zu, h.obj, Mo_def]) (fun q h1 h2 => by simp [h1, h2, zx, zy]) (by simp) (Kc.refl 0 s) (by omega)) hw f hf) (by simp [AV.bareL, AV.bare]) fun v z2 hv => ?_
   obtain ⟨rfl, hA⟩ := hv
   obtain ⟨hbx2, hA⟩ := xl hK hlt hb hlb hbo hbr hA
   rw [hbx] at hbx2
   have l1 := Sm.cells_len (setM bs f s).1
   have z1 := Sm.bare_cells (setM bs f s).1
   have t1 : (setM bs f s).1.cells.take 19 = (setM bs f s).1.cells := List.take_of_length_le (by omega)
   generalize (setM bs f s).1.cells = c1 at *
   simp -dsimp -implicitDefEqProofs [hn0, hnn, zz, hlt, hlb, hbo, hob, hbx, e0, e1, e2, e3, e4, e5, e12, e13, zy, zx, zw, zu, loadA, oblR, oblQ, oblE, hbx2, l1, t1]
   exact hold ⟨by simp [AV.bare, z1], hA 0 _⟩
 ·cases pure
  ·rw [show drawnM bs f false deep B top loop 9 s = atomM bs s from by simp [drawnM, plainM]]
   unfold atomM
   simp -dsimp -implicitDefEqProofs [hn0, hnn, zz, hlt, hlb, hbo, hob, hbx, e0, e1, e2, e3, e4, e5, e12, e13, zy, zx, zw, zu, loadA, oblR, oblQ, oblE]
   refine zt (d56 (D := 3) (E2 bs) (K2 bs) (h.to hwf (by simp [hlt, zy, zx, zw, zu, h.obj, Mo_def]) (fun q h1 h2 => by simp [h1, h2, zx, zy]) (by simp) (Kc.refl 0 s) (by omega)) rfl 8 (.inr rfl)) ?_
   have k1 := placeM_kc (K2 bs) 8 s
   generalize placeM (exprM bs 2) 8 s = R1 at *
   obtain ⟨e1x, s1⟩ := R1
   simp only at k1 ⊢
   have l1 := Ex.cells_len e1x
   have z1 := Ex.bare_cells e1x
   have t1 := Ex.take6 e1x
   rw [vf]
   generalize e1x.cells = c1 at *
   have tk1 : ∀ n, 6 ≤ n → c1.take n = c1 := fun n hn => List.take_of_length_le (by omega)
   have dk1 : ∀ n, 6 ≤ n → c1.drop n = [] := fun n hn => List.drop_of_length_le (by omega)
   simp -dsimp -implicitDefEqProofs [hn0, hnn, zz, hlt, hlb, hbo, hob, hbx, e0, e1, e2, e3, e4, e5, e12, e13, zy, zx, zw, zu, loadA, oblR, oblQ, oblE, l1, t1]
   refine zt (m26 (h.to hwf (by simp [hlt, zy, zx, zw, zu, h.obj, Mo_def]) (fun q h1 h2 => by simp [h1, h2, zx, zy]) (by simp) k1 (by omega))) ?_
   have kx := zi (bs := bs) s1
   have hx := yj bs s1
   generalize nextM bs s1 = Rx at *
   obtain ⟨x, sx⟩ := Rx
   simp only at kx hx ⊢
   have kk : Kc 13 s sx := k1.trans kx (by omega)
   have e2x : (x : Int).tmod 2 = ((x % 2 : Nat) : Int) := yz x 2
   have y2 : x % 2 < 2 := Nat.mod_lt _ (by omega)
   generalize x % 2 = u at *
   have hui : (u : Int) < 2 := by omega
   have hgs : ∀ h, ([.str [97], .str [115]] : List AV)[u]'h = (AV.str (([[97], [115]] : List Str)[u]?.getD [])) := fun hy => get_str [[97], [115]] u hy
   generalize ([[97], [115]] : List Str)[u]?.getD [] = nm at *
   simp -dsimp -implicitDefEqProofs [hn0, hnn, zz, hlt, hlb, hbo, hob, hbx, e0, e1, e2, e3, e4, e5, e12, e13, zy, zx, zw, zu, loadA, oblR, oblQ, oblE, e2x, y2, hui, hgs, l1, t1]
   refine zt (d57 _) ?_
   simp -dsimp -implicitDefEqProofs [hn0, hnn, zz, hlt, hlb, hbo, hob, hbx, e0, e1, e2, e3, e4, e5, e12, e13, zy, zx, zw, zu, loadA, oblR, oblQ, oblE, e2x, y2, hui, hgs, l1, t1]
   refine zt (m26 (h.to hwf (by simp [hlt, zy, zx, zw, zu, h.obj, Mo_def]) (fun q h1 h2 => by simp [h1, h2, zx, zy]) (by simp) kk (by omega))) ?_
   have ky := zi (bs := bs) sx
   have hx2 := yj bs sx
   generalize nextM bs sx = Rx2 at *
   obtain ⟨x2, sy⟩ := Rx2
   simp only at ky hx2 ⊢
   have kk2 : Kc 14 s sy := kk.trans ky (by omega)
   have e6x : (x2 : Int).tmod 6 = ((x2 % 6 : Nat) : Int) := yz x2 6
   have y6 : x2 % 6 < 6 := Nat.mod_lt _ (by omega)
   generalize x2 % 6 = w at *
   have hwi : (w : Int) < 6 := by omega
   have hgo : ∀ h, ([vi 10, vi 22, vi 23, vi 17, vi 18, vi 19] : List AV)[w]'h = (vi (([10, 22, 23, 17, 18, 19] : List Int)[w]?.getD 0)) := fun hy => vx [10, 22, 23, 17, 18, 19] w hy
   generalize ([10, 22, 23, 17, 18, 19] : List Int)[w]?.getD 0 = op at *
   simp -dsimp -implicitDefEqProofs [hn0, hnn, zz, hlt, hlb, hbo, hob, hbx, e0, e1, e2, e3, e4, e5, e12, e13, zy, zx, zw, zu, loadA, oblR, oblQ, oblE, e6x, y6, hwi, hgo, hgs, l1, t1]
   refine zt (E3 bs _ _ _ sy 1 (h.to hwf (by simp [hlt, zy, zx, zw, zu, h.obj, Mo_def]) (fun q h1 h2 => by simp [h1, h2, zx, zy]) (by simp) kk2 (by omega)) (.inl rfl)) ?_
   have k2 := K3 bs 1 sy
   generalize exprM bs 3 1 sy = R2 at *
   obtain ⟨e2x, s2⟩ := R2
   simp only at k2 ⊢
   have l2 := Ex.cells_len e2x
   have z2 := Ex.bare_cells e2x
   generalize e2x.cells = c2 at *
   have tk2 : ∀ n, 6 ≤ n → c2.take n = c2 := fun n hn => List.take_of_length_le (by omega)
   have dk2 : ∀ n, 6 ≤ n → c2.drop n = [] := fun n hn => List.drop_of_length_le (by omega)
   simp -dsimp -implicitDefEqProofs [hn0, hnn, zz, hlt, hlb, hbo, hob, hbx, e0, e1, e2, e3, e4, e5, e12, e13, zy, zx, zw, zu, loadA, oblR, oblQ, oblE, hgs, hgo, l1, tk1, dk1, l2, tk2, dk2, List.take_append, List.drop_append]
   refine hold ⟨by simp [AV.bare, AV.bareL, zm, z1, z2], x9 hK h hw hb hbr (by simp [hlt, zy, hob, h.obj]) (fun p h1 h2 h3 => by simp [h1, h2, h3, zx, zy]) (by simp) ?_ (kk2.trans k2 (Nat.le_refl _)) (by omega)⟩
   repeat first | exact zk hwf | (refine zb ?_ ?_; rotate_left; focus (first | (simp; done) | (simp; omega))) | refine yf ?_ _
  ·rw [show drawnM bs f true deep B top loop 9 s = setM bs f s from by simp [drawnM, plainM]]
   simp -dsimp -implicitDefEqProofs [hn0, hnn, zz, hlt, hlb, hbo, hob, hbx, e0, e1, e2, e3, e4, e5, e12, e13, zy, zx, zw, zu, loadA, oblR, oblQ, oblE]
   refine yu (w53 (c := c) (zk hwf) (h.to hwf (by simp [hlt, zy, zx, zw, zu, h.obj, Mo_def]) (fun q h1 h2 => by simp [h1, h2, zx, zy]) (by simp) (Kc.refl 0 s) (by omega)) hw f hf) (by simp [AV.bareL, AV.bare]) fun v z2 hv => ?_
   obtain ⟨rfl, hA⟩ := hv
   obtain ⟨hbx2, hA⟩ := xl hK hlt hb hlb hbo hbr hA
   rw [hbx] at hbx2
   have l1 := Sm.cells_len (setM bs f s).1
   have z1 := Sm.bare_cells (setM bs f s).1
   have t1 : (setM bs f s).1.cells.take 19 = (setM bs f s).1.cells := List.take_of_length_le (by omega)
   generalize (setM bs f s).1.cells = c1 at *
   simp -dsimp -implicitDefEqProofs [hn0, hnn, zz, hlt, hlb, hbo, hob, hbx, e0, e1, e2, e3, e4, e5, e12, e13, zy, zx, zw, zu, loadA, oblR, oblQ, oblE, hbx2, l1, t1]
   exact hold ⟨by simp [AV.bare, z1], hA 0 _⟩
 ·cases pure
  ·rw [show drawnM bs f false deep B top loop 10 s = (.mk 11 (1 + ((nextM bs s).1 % 2 : Nat)) 0 0 [] zE zE [] [], (nextM bs s).2) from by simp [drawnM, plainM]]
   simp -dsimp -implicitDefEqProofs [hn0, hnn, zz, hlt, hlb, hbo, hob, hbx, e0, e1, e2, e3, e4, e5, e12, e13, zy, zx, zw, zu, loadA, oblR, oblQ, oblE]
   refine zt (m26 (h.to hwf (by simp [hlt, zy, zx, zw, zu, h.obj, Mo_def]) (fun q h1 h2 => by simp [h1, h2, zx, zy]) (by simp) (Kc.refl 0 s) (by omega))) ?_
   have kx := zi (bs := bs) s
   have hx := yj bs s
   generalize nextM bs s = Rx at *
   obtain ⟨x, sx⟩ := Rx
   simp only at kx hx ⊢
   have e2x : (x : Int).tmod 2 = ((x % 2 : Nat) : Int) := yz x 2
   have y2 : x % 2 < 2 := Nat.mod_lt _ (by omega)
   generalize x % 2 = u at *
   have wu : IntKind.i64.wrap (1 + (u : Int)) = 1 + (u : Int) := yy (by omega) (by omega)
   rw [vf, zCells]
   simp -dsimp -implicitDefEqProofs [hn0, hnn, zz, hlt, hlb, hbo, hob, hbx, e0, e1, e2, e3, e4, e5, e12, e13, zy, zx, zw, zu, loadA, oblR, oblQ, oblE, e2x, wu]
   refine hold ⟨by simp [AV.bare, AV.bareL, zm], x9 hK h hw hb hbr (by simp [hlt, zy, hob, h.obj]) (fun p h1 h2 h3 => by simp [h1, h2, h3, zx, zy]) (by simp) ?_ kx (by omega)⟩
   repeat first | exact zk hwf | (refine zb ?_ ?_; rotate_left; focus (first | (simp; done) | (simp; omega))) | refine yf ?_ _
  ·rw [show drawnM bs f true deep B top loop 10 s = setM bs f s from by simp [drawnM, plainM]]
   simp -dsimp -implicitDefEqProofs [hn0, hnn, zz, hlt, hlb, hbo, hob, hbx, e0, e1, e2, e3, e4, e5, e12, e13, zy, zx, zw, zu, loadA, oblR, oblQ, oblE]
   refine yu (w53 (c := c) (zk hwf) (h.to hwf (by simp [hlt, zy, zx, zw, zu, h.obj, Mo_def]) (fun q h1 h2 => by simp [h1, h2, zx, zy]) (by simp) (Kc.refl 0 s) (by omega)) hw f hf) (by simp [AV.bareL, AV.bare]) fun v z2 hv => ?_
   obtain ⟨rfl, hA⟩ := hv
   obtain ⟨hbx2, hA⟩ := xl hK hlt hb hlb hbo hbr hA
   rw [hbx] at hbx2
   have l1 := Sm.cells_len (setM bs f s).1
   have z1 := Sm.bare_cells (setM bs f s).1
   have t1 : (setM bs f s).1.cells.take 19 = (setM bs f s).1.cells := List.take_of_length_le (by omega)
   generalize (setM bs f s).1.cells = c1 at *
   simp -dsimp -implicitDefEqProofs [hn0, hnn, zz, hlt, hlb, hbo, hob, hbx, e0, e1, e2, e3, e4, e5, e12, e13, zy, zx, zw, zu, loadA, oblR, oblQ, oblE, hbx2, l1, t1]
   exact hold ⟨by simp [AV.bare, z1], hA 0 _⟩
 ·cases pure
  ·rw [show drawnM bs f false deep B top loop 11 s = storeM bs s from by simp [drawnM, plainM]]
   simp -dsimp -implicitDefEqProofs [hn0, hnn, zz, hlt, hlb, hbo, hob, hbx, e0, e1, e2, e3, e4, e5, e12, e13, zy, zx, zw, zu, loadA, oblR, oblQ, oblE]
   refine zt (d31 (h.to hwf (by simp [hlt, zy, zx, zw, zu, h.obj, Mo_def]) (fun q h1 h2 => by simp [h1, h2, zx, zy]) (by simp) (Kc.refl 0 s) (by omega))) ?_
   have ks := ve (bs := bs) s
   generalize storeM bs s = R1 at *
   obtain ⟨sm, s1⟩ := R1
   simp only at ks ⊢
   have l1 := Sm.cells_len sm
   have z1 := Sm.bare_cells sm
   have t1 : sm.cells.take 19 = sm.cells := List.take_of_length_le (by omega)
   generalize sm.cells = c1 at *
   simp -dsimp -implicitDefEqProofs [hn0, hnn, zz, hlt, hlb, hbo, hob, hbx, e0, e1, e2, e3, e4, e5, e12, e13, zy, zx, zw, zu, loadA, oblR, oblQ, oblE, l1, t1]
   refine hold ⟨by simp [AV.bare, AV.bareL, zm, z1], x9 hK h hw hb hbr (by simp [hlt, zy, hob, h.obj]) (fun p h1 h2 h3 => by simp [h1, h2, h3, zx, zy]) (by simp) ?_ ks (by omega)⟩
   repeat first | exact zk hwf | (refine zb ?_ ?_; rotate_left; focus (first | (simp; done) | (simp; omega))) | refine yf ?_ _
  ·rw [show drawnM bs f true deep B top loop 11 s = setM bs f s from by simp [drawnM, plainM]]
   simp -dsimp -implicitDefEqProofs [hn0, hnn, zz, hlt, hlb, hbo, hob, hbx, e0, e1, e2, e3, e4, e5, e12, e13, zy, zx, zw, zu, loadA, oblR, oblQ, oblE]
   refine yu (w53 (c := c) (zk hwf) (h.to hwf (by simp [hlt, zy, zx, zw, zu, h.obj, Mo_def]) (fun q h1 h2 => by simp [h1, h2, zx, zy]) (by simp) (Kc.refl 0 s) (by omega)) hw f hf) (by simp [AV.bareL, AV.bare]) fun v z2 hv => ?_
   obtain ⟨rfl, hA⟩ := hv
   obtain ⟨hbx2, hA⟩ := xl hK hlt hb hlb hbo hbr hA
   rw [hbx] at hbx2
   have l1 := Sm.cells_len (setM bs f s).1
   have z1 := Sm.bare_cells (setM bs f s).1
   have t1 : (setM bs f s).1.cells.take 19 = (setM bs f s).1.cells := List.take_of_length_le (by omega)
   generalize (setM bs f s).1.cells = c1 at *
   simp -dsimp -implicitDefEqProofs [hn0, hnn, zz, hlt, hlb, hbo, hob, hbx, e0, e1, e2, e3, e4, e5, e12, e13, zy, zx, zw, zu, loadA, oblR, oblQ, oblE, hbx2, l1, t1]
   exact hold ⟨by simp [AV.bare, z1], hA 0 _⟩
 ·cases pure
  ·rw [show drawnM bs f false deep B top loop 12 s = storeM bs s from by simp [drawnM, plainM]]
   simp -dsimp -implicitDefEqProofs [hn0, hnn, zz, hlt, hlb, hbo, hob, hbx, e0, e1, e2, e3, e4, e5, e12, e13, zy, zx, zw, zu, loadA, oblR, oblQ, oblE]
   refine zt (d31 (h.to hwf (by simp [hlt, zy, zx, zw, zu, h.obj, Mo_def]) (fun q h1 h2 => by simp [h1, h2, zx, zy]) (by simp) (Kc.refl 0 s) (by omega))) ?_
   have ks := ve (bs := bs) s
   generalize storeM bs s = R1 at *
   obtain ⟨sm, s1⟩ := R1
   simp only at ks ⊢
   have l1 := Sm.cells_len sm
   have z1 := Sm.bare_cells sm
   have t1 : sm.cells.take 19 = sm.cells := List.take_of_length_le (by omega)
   generalize sm.cells = c1 at *
   simp -dsimp -implicitDefEqProofs [hn0, hnn, zz, hlt, hlb, hbo, hob, hbx, e0, e1, e2, e3, e4, e5, e12, e13, zy, zx, zw, zu, loadA, oblR, oblQ, oblE, l1, t1]
   refine hold ⟨by simp [AV.bare, AV.bareL, zm, z1], x9 hK h hw hb hbr (by simp [hlt, zy, hob, h.obj]) (fun p h1 h2 h3 => by simp [h1, h2, h3, zx, zy]) (by simp) ?_ ks (by omega)⟩
   repeat first | exact zk hwf | (refine zb ?_ ?_; rotate_left; focus (first | (simp; done) | (simp; omega))) | refine yf ?_ _
  ·rw [show drawnM bs f true deep B top loop 12 s = setM bs f s from by simp [drawnM, plainM]]
   simp -dsimp -implicitDefEqProofs [hn0, hnn, zz, hlt, hlb, hbo, hob, hbx, e0, e1, e2, e3, e4, e5, e12, e13, zy, zx, zw, zu, loadA, oblR, oblQ, oblE]
   refine yu (w53 (c := c) (zk hwf) (h.to hwf (by simp [hlt, zy, zx, zw, zu, h.obj, Mo_def]) (fun q h1 h2 => by simp [h1, h2, zx, zy]) (by simp) (Kc.refl 0 s) (by omega)) hw f hf) (by simp [AV.bareL, AV.bare]) fun v z2 hv => ?_
   obtain ⟨rfl, hA⟩ := hv
   obtain ⟨hbx2, hA⟩ := xl hK hlt hb hlb hbo hbr hA
   rw [hbx] at hbx2
   have l1 := Sm.cells_len (setM bs f s).1
   have z1 := Sm.bare_cells (setM bs f s).1
   have t1 : (setM bs f s).1.cells.take 19 = (setM bs f s).1.cells := List.take_of_length_le (by omega)
   generalize (setM bs f s).1.cells = c1 at *
   simp -dsimp -implicitDefEqProofs [hn0, hnn, zz, hlt, hlb, hbo, hob, hbx, e0, e1, e2, e3, e4, e5, e12, e13, zy, zx, zw, zu, loadA, oblR, oblQ, oblE, hbx2, l1, t1]
   exact hold ⟨by simp [AV.bare, z1], hA 0 _⟩
 ·cases pure
  ·rw [show drawnM bs f false deep B top loop 13 s = storeM bs s from by simp [drawnM, plainM]]
   simp -dsimp -implicitDefEqProofs [hn0, hnn, zz, hlt, hlb, hbo, hob, hbx, e0, e1, e2, e3, e4, e5, e12, e13, zy, zx, zw, zu, loadA, oblR, oblQ, oblE]
   refine zt (d31 (h.to hwf (by simp [hlt, zy, zx, zw, zu, h.obj, Mo_def]) (fun q h1 h2 => by simp [h1, h2, zx, zy]) (by simp) (Kc.refl 0 s) (by omega))) ?_
   have ks := ve (bs := bs) s
   generalize storeM bs s = R1 at *
   obtain ⟨sm, s1⟩ := R1
   simp only at ks ⊢
   have l1 := Sm.cells_len sm
   have z1 := Sm.bare_cells sm
   have t1 : sm.cells.take 19 = sm.cells := List.take_of_length_le (by omega)
   generalize sm.cells = c1 at *
   simp -dsimp -implicitDefEqProofs [hn0, hnn, zz, hlt, hlb, hbo, hob, hbx, e0, e1, e2, e3, e4, e5, e12, e13, zy, zx, zw, zu, loadA, oblR, oblQ, oblE, l1, t1]
   refine hold ⟨by simp [AV.bare, AV.bareL, zm, z1], x9 hK h hw hb hbr (by simp [hlt, zy, hob, h.obj]) (fun p h1 h2 h3 => by simp [h1, h2, h3, zx, zy]) (by simp) ?_ ks (by omega)⟩
   repeat first | exact zk hwf | (refine zb ?_ ?_; rotate_left; focus (first | (simp; done) | (simp; omega))) | refine yf ?_ _
  ·rw [show drawnM bs f true deep B top loop 13 s = setM bs f s from by simp [drawnM, plainM]]
   simp -dsimp -implicitDefEqProofs [hn0, hnn, zz, hlt, hlb, hbo, hob, hbx, e0, e1, e2, e3, e4, e5, e12, e13, zy, zx, zw, zu, loadA, oblR, oblQ, oblE]
   refine yu (w53 (c := c) (zk hwf) (h.to hwf (by simp [hlt, zy, zx, zw, zu, h.obj, Mo_def]) (fun q h1 h2 => by simp [h1, h2, zx, zy]) (by simp) (Kc.refl 0 s) (by omega)) hw f hf) (by simp [AV.bareL, AV.bare]) fun v z2 hv => ?_
   obtain ⟨rfl, hA⟩ := hv
   obtain ⟨hbx2, hA⟩ := xl hK hlt hb hlb hbo hbr hA
   rw [hbx] at hbx2
   have l1 := Sm.cells_len (setM bs f s).1
   have z1 := Sm.bare_cells (setM bs f s).1
   have t1 : (setM bs f s).1.cells.take 19 = (setM bs f s).1.cells := List.take_of_length_le (by omega)
   generalize (setM bs f s).1.cells = c1 at *
   simp -dsimp -implicitDefEqProofs [hn0, hnn, zz, hlt, hlb, hbo, hob, hbx, e0, e1, e2, e3, e4, e5, e12, e13, zy, zx, zw, zu, loadA, oblR, oblQ, oblE, hbx2, l1, t1]
   exact hold ⟨by simp [AV.bare, z1], hA 0 _⟩
end
section
variable {w0 : World} {base : Nat}
def b29a : SCode := (.reg [oS 12 (.alloc 54 (.agg [(.int .i64 0), (.int .i64 0), (.int .i64 0), (.int .i64 0), (.str []), (.int .i64 0), (.int .i64 0), (.int .i64 0), (.str []), (.int .i32 0), (.sl [] 0 .full), (.int .i64 0), (.int .i64 0), (.int .i64 0), (.str []), (.int .i32 0), (.sl [] 0 .full), (.sl [] 0 .full), (.sl [] 0 .full)]) 0)])
def b29b : SCode := (.reg [m 17 0, pE 18 (.nilck (t 17)), pE 19 (.fldA 4 (t 18)), oS 20 (.load 1 false (t 19)), pE 21 (.bin .int .sub (t 20) (i 1)), pE 22 (.nilck (t 17)), pE 23 (.fldA 4 (t 22)), ⟨none, none, (.store 1 (t 23) (t 21))⟩])
def b29c : SCode := (.reg [m 24 0, oS 25 (.call 26 [(t 24)]), pE 26 (.bin .int .rem (t 25) (i 14)), m 13 26])
theorem b29_eq : b29 = .seq b29a (.seq b29b (.seq b29c b29r)) := rfl
theorem w29 {bs : List UInt8} {f : Nat} {pure deep : Bool} {B : Bool → MS → List Sm × MS} {CB : Nat} {dd : Int} (hf : f ≤ 1000) (hd : (deep = true → 0 < dd) ∧ (deep = false → dd = 0)) (hB : deep = true → BlockC w0 base bs f pure B CB (IntKind.i64.wrap (dd - 1))) :
  StmtC w0 base bs f pure (fun top loop s => drawnM bs f pure deep B top loop ((nextM bs { s with left := s.left - 1 }).1 % 14) (nextM bs { s with left := s.left - 1 }).2) (66 + 2 * CB) dd := by
 intro st o vv s c top loop hwf h hw
 show CallW Tryz.prog w0 base 29 _ st (fun v st' => v = .agg (drawnM bs f pure deep B top loop ((nextM bs { s with left := s.left - 1 }).1 % 14) (nextM bs { s with left := s.left - 1 }).2).1.cells ∧ After bs st o vv st' (drawnM bs f pure deep B top loop ((nextM bs { s with left := s.left - 1 }).1 % 14) (nextM bs { s with left := s.left - 1 }).2).2 c)
 refine callW_res (za Tryz.func29 r29 rfl ?_)
 have hlt := hwf _ _ h.obj
 have hn0 := zj hwf
 have hnn := zf hwf
 have hu := h.und hwf
 have ho := h.obj
 rw [Mo_def] at ho
 have hl := h.lft
 have wl : IntKind.i64.wrap (s.left - 1) = s.left - 1 := yy (by omega) (by omega)
 rw [b29_eq]
 generalize hR : b29r = R
 unfold b29a b29b b29c
 have hM1 : ∀ (k : Nat) (X : AObj), Mk bs (((st.bump (k + 1)).put st.next X).put o (Mo bs vv { s with left := s.left - 1 })) o vv { s with left := s.left - 1 } (1 + (64 + 2 * CB + c)) := fun k X =>
  (h.less (c' := 1 + (1 + (64 + 2 * CB + c))) (by omega)).dec hwf (by simp) (fun q h1 h2 => by simp [h1, h2, zy]) (by simp)
 have hwf1 : ∀ (k : Nat) (X : AObj), (((st.bump (k + 1)).put st.next X).put o (Mo bs vv { s with left := s.left - 1 })).wf := fun k X => zb (zb (zk hwf) (by simp)) (by simp; omega)
 simp -dsimp -implicitDefEqProofs [hn0, hnn, zz, hlt, zy, zx, zw, zu, loadA, ho, wl]
 refine zt (m26 ((hM1 12 _).less (c' := 1) (by omega))) ?_
 have kx := zi (bs := bs) { s with left := s.left - 1 }
 have hx := yj bs { s with left := s.left - 1 }
 have hM2 := fun (k : Nat) (X : AObj) (hk : 12 ≤ k) => (hM1 12 X).to (z := ((st.bump (k + 1)).put st.next X).put o (Mo bs vv (nextM bs { s with left := s.left - 1 }).2)) (c' := 64 + 2 * CB + c) (hwf1 12 X) (by simp) (fun q h1 h2 => by simp [h2]) (by simp; omega) kx (by omega)
 have hwf2 : ∀ (k : Nat) (X : AObj), (((st.bump (k + 1)).put st.next X).put o (Mo bs vv (nextM bs { s with left := s.left - 1 }).2)).wf := fun k X => zb (zb (zk hwf) (by simp)) (by simp; omega)
 clear hM1 hwf1
 generalize nextM bs { s with left := s.left - 1 } = Rx at *
 obtain ⟨x, sx⟩ := Rx
 simp only at hM2 hwf2 hx ⊢
 have r14 : (x : Int).tmod 14 = ((x % 14 : Nat) : Int) := yz x 14
 have y14 : x % 14 < 14 := Nat.mod_lt _ (by omega)
 generalize x % 14 = k at *
 simp -dsimp -implicitDefEqProofs [hn0, hnn, zz, hlt, zy, zx, zw, zu, loadA, ho, wl, r14]
 subst hR
 have hne : ¬ st.next = o := by omega
 exact m29 hf hd hB (b := st.next) ⟨by simp, fun p h1 h2 h3 => by simp [h1, h2, zy], .inl rfl, hwf2 12 _⟩ (hM2 12 _ (by omega)) hw (Nat.le_refl _) (by simp) (by omega) (row_ne hu (Nat.le_refl _)) (by simp [hne]; rfl) y14 (by simp) (by simp) (by simp) (by simp) (by simp) (by simp) (by simp) (by simp)
section
variable {bs : List UInt8} {f : Nat}
theorem declareM_pre (s : MS) : Pre s (declareM bs s).2 := by
 have h := ((zi (bs := bs) s).trans (K3 bs (1 + ((nextM bs s).1 % 3 : Nat)) (nextM bs s).2) (Nat.le_refl _)).vars
 simp only [declareM]
 exact ⟨_, congrArg (· ++ [(⟨118 :: digitsP (exprM bs 3 (1 + ((nextM bs s).1 % 3 : Nat)) (nextM bs s).2).2.count, 1 + ((nextM bs s).1 % 3 : Nat)⟩ : Pa)]) h⟩
theorem setM_pre (s : MS) : Pre s (setM bs f s).2 := by
 unfold setM
 split
 ·exact declareM_pre s
 ·exact ((zi (bs := bs) s).trans (K3 bs _ _) (Nat.le_refl _)).pre
theorem collectedM_pre (s : MS) : Pre s (collectedM bs f s).2 := by
 unfold collectedM
 split
 ·exact declareM_pre s
 ·simp only
  split
  ·exact ((zi (bs := bs) s).trans ((zi (bs := bs) _).trans (K3 bs _ _) (Nat.le_refl _)) (Nat.le_refl _)).pre
  split
  ·exact ((zi (bs := bs) s).trans ((zi (bs := bs) _).trans (K3 bs _ _) (Nat.le_refl _)) (Nat.le_refl _)).pre
  split
  ·exact ((zi (bs := bs) s).trans ((zi (bs := bs) _).trans ((K2 bs _ _).trans (K2 bs _ _) (Nat.le_refl _)) (Nat.le_refl _)) (Nat.le_refl _)).pre
  ·exact ((zi (bs := bs) s).trans ((zi (bs := bs) _).trans ((zi (bs := bs) _).trans (K3 bs _ _) (Nat.le_refl _)) (Nat.le_refl _)) (Nat.le_refl _)).pre
theorem atomM_kc (s : MS) : Kc 53 s (atomM bs s).2 := (placeM_kc (K2 bs) 8 s).trans ((zi (bs := bs) _).trans ((zi (bs := bs) _).trans (K3 bs _ _) (Nat.le_refl _)) (Nat.le_refl _)) (by omega)
theorem plainM_pre (top loop pure : Bool) (k : Nat) (s : MS) : Pre s (plainM bs f top loop pure k s).2 := by
 unfold plainM
 repeat' split
 ·exact (zi (bs := bs) s).pre
 ·exact setM_pre s
 ·exact Pre.refl s
 ·exact collectedM_pre s
 ·exact (atomM_kc s).pre
 ·exact (zi (bs := bs) s).pre
 ·exact (ve s).pre
theorem drawnM_pre {pure deep : Bool} {B : Bool → MS → List Sm × MS} (hB : ∀ l s, (B l s).2.vars = s.vars) (top loop : Bool) (k : Nat) (s : MS) : Pre s (drawnM bs f pure deep B top loop k s).2 := by
 have hB' : ∀ l s, Pre s (B l s).2 := fun l s => ⟨[], by simp [hB]⟩
 unfold drawnM
 split
 ·exact declareM_pre s
 split
 ·exact setM_pre s
 split
 ·simp only
  split
  ·exact (K3 bs 3 s).pre.trans ((hB' _ _).trans ((zi (bs := bs) _).pre.trans (hB' _ _)))
  ·exact (K3 bs 3 s).pre.trans ((hB' _ _).trans (zi (bs := bs) _).pre)
 split
 ·exact (K3 bs 3 s).pre.trans ((zi (bs := bs) _).pre.trans (hB' _ _))
 ·exact plainM_pre _ _ _ _ s
theorem stmtM_pre (pure : Bool) : ∀ (d : Nat) (top loop : Bool) (s : MS), Pre s (stmtM bs f pure d top loop s).2
 | 0, top, loop, s => by
  rw [stmtM_zero (B := fun _ s => ([], s))]
  exact (show Pre s (nextM bs { s with left := s.left - 1 }).2 from ⟨[], by simp [nextM]⟩).trans (drawnM_pre (fun _ _ => rfl) _ _ _ _)
 | d + 1, top, loop, s => by
  rw [stmtM_succ]
  exact (show Pre s (nextM bs { s with left := s.left - 1 }).2 from ⟨[], by simp [nextM]⟩).trans (drawnM_pre (fun l s => blockM_vars (fun s => stmtM_pre pure d false l s) s) _ _ _ _)
end
def cS : Nat → Nat
 | 0 => 66
 | d + 1 => 66 + 2 * (1 + 3 * cS d)
theorem cS_pos : ∀ d, 1 ≤ cS d
 | 0 => by simp [cS]
 | d + 1 => by simp [cS]; omega
theorem stmt_all (bs : List UInt8) (f : Nat) (hf : f ≤ 1000) (pure : Bool) : ∀ d : Nat, d ≤ 1000 → StmtC w0 base bs f pure (stmtM bs f pure d) (cS d) d
  | 0, _ => by
    have h := w29 (w0 := w0) (base := base) (bs := bs) (f := f) (pure := pure) (deep := false) (B := fun _ s => ([], s)) (CB := 0) (dd := 0) hf (by simp) (by simp)
    have e : (stmtM bs f pure 0) = fun top loop s => drawnM bs f pure false (fun _ s => ([], s)) top loop ((nextM bs { s with left := s.left - 1 }).1 % 14) (nextM bs { s with left := s.left - 1 }).2 := by
      funext top loop s; exact stmtM_zero _ _ _ _ _ _ _
    rw [e]; exact h
  | d + 1, hd => by
    have hb := w54 (w0 := w0) (base := base) (cS_pos d) hf (stmt_all bs f hf pure d (by omega)) (fun top loop s => stmtM_pre pure d top loop s)
    have h := w29 (w0 := w0) (base := base) (bs := bs) (f := f) (pure := pure) (deep := true) (B := fun l s => blockM bs (stmtM bs f pure d false l) s) (CB := 1 + 3 * cS d) (dd := ((d + 1 : Nat) : Int)) hf ⟨fun _ => by omega, fun h => by cases h⟩
      (fun _ => by have e : IntKind.i64.wrap (((d + 1 : Nat) : Int) - 1) = (d : Int) := by
                     rw [yy (by omega) (by omega)]; omega
                   rw [e]; exact hb)
    have e : (stmtM bs f pure (d + 1)) = fun top loop s => drawnM bs f pure true (fun l s => blockM bs (stmtM bs f pure d false l) s) top loop ((nextM bs { s with left := s.left - 1 }).1 % 14) (nextM bs { s with left := s.left - 1 }).2 := by
      funext top loop s; exact stmtM_succ _ _ _ _ _ _ _
    rw [e]; exact h
end
section
variable {w0 : World} {base : Nat}
theorem d27 (st : St) : Det Tryz.prog w0 base 27 [] st (.sl (rowOf Ar.cells arrsM) 5 .no) st := by
 refine zh (zp Tryz.func27 r27) fun hwf hfit => uh Tryz.func27 r27 rfl ?_
 unfold b27
 simp -dsimp -implicitDefEqProofs
 exact hold (finB_pure hwf (fun p hp => by simp) (by simp [eraseA, eraseL, AV.bare, AV.bareL, rowOf, arrsM, Ar.cells]))
def AfterF (bs : List UInt8) (st : St) (o : Nat) (st' : St) (s' : MS) (c : Nat) : Prop := ∃ vv', Mk bs st' o vv' s' c ∧ Vw vv' ∧ Kp o none st st' (rowId vv')
def hParsV : AV := .sl [.str [120], vi 1, .str [121], vi 1] 2 .full
theorem mk_lit {bs : List UInt8} {z : St} {o : Nat} {l : List Pa} {s : MS} {c : Nat} {vl : AV} (hl : vl = .sl (rowOf Pa.cells l) l.length .full) (ho : z.objs o = some (Mo bs vl s)) (hs : s.vars = l) (hll : l.length + c ≤ 1000000) (ht : ∀ p ∈ l, p.typ = 1 ∨ p.typ = 2 ∨ p.typ = 3)
  (h1 : s.count + c ≤ 1000000) (h2 : (c : Int) - 1000000 ≤ s.left ∧ s.left ≤ 1000000) (h3 : s.at_ + c < 4611686018427387904) (h4 : bs.length ≤ big) : Mk bs z o vl s c := by
 subst hl
 refine ⟨ho, .inl ⟨.full, by rw [hs]⟩, by rw [hs]; exact hll, by rw [hs]; exact ht, h1, h2, h3, h4, fun _ => ?_⟩
 have key : ∀ l : List Pa, AV.underL (· < z.next) (rowOf Pa.cells l) := by
  intro l
  induction l with
  | nil => exact trivial
  | cons x l ih => exact ⟨trivial, trivial, ih⟩
 exact ⟨key l, fun t ht => by cases ht⟩
theorem Fu.cells_eq (n : Str) (ps : List Pa) (t : Int) (b : List Sm) (r : Ex) : (Fu.mk n ps t b r).cells = [.str n, .sl (rowOf Pa.cells ps) ps.length .no, .int .i64 t, .sl (Sm.cellsL b) b.length .no] ++ r.cells := rfl
theorem w28 {bs : List UInt8} {st : St} {o : Nat} {vv : AV} {s : MS} {c : Nat} (hwf : st.wf) (h : Mk bs st o vv s c) (hcb : 1432 + c ≤ 900000) (hat : s.at_ + 1432 + c < 4611686018427387904) (hcnt : s.count + 1432 + c ≤ 1000000) (hv : rowId vv = none) :
  CallW Tryz.prog w0 base 28 [.ptr o 0] st (fun v st' => v = .agg (funM bs s).1.cells ∧ AfterF bs st o st' (funM bs s).2 c) := by
 refine callW_res (za Tryz.func28 r28 rfl ?_)
 have hlt := hwf _ _ h.obj
 have hn0 := zj hwf
 have hnn := zf hwf
 have ho := h.obj
 rw [Mo_def] at ho
 have hob : ¬ o = st.next := by omega
 have hbo : ¬ st.next = o := by omega
 have hXo : ¬ st.next + 17 = o := by omega
 have hoX : ¬ o = st.next + 17 := by omega
 have hXb : ¬ st.next = st.next + 17 := by omega
 have hbX : ¬ st.next + 17 = st.next := by omega
 have hM0 : ∀ z : St, z.objs o = some (Mo bs hParsV { s with vars := hPars, left := 4 }) → Mk bs z o hParsV { s with vars := hPars, left := 4 } (1432 + c) := fun z hz =>
  mk_lit rfl hz rfl (by simp [hPars]; omega) (by simp [hPars]) (by simp only; omega) (by simp only; omega) (by simp only; omega) h.bs
 unfold b28
 simp -dsimp -implicitDefEqProofs [hn0, hnn, zz, hlt, zy, zx, zw, zu, loadA, ho]
 refine zt (m26 ((hM0 _ (by simp [Mo_def, hParsV, zx, hlt])).less (c' := 1) (by omega))) ?_
 have kx := zi (bs := bs) { s with vars := hPars, left := 4 }
 have hx := yj bs { s with vars := hPars, left := 4 }
 have hfm : funM bs s = (⟨[104], hPars, 1, (stmtsM (stmtM bs 2 true 1 false false) ((nextM bs { s with vars := hPars, left := 4 }).1 % 4) (nextM bs { s with vars := hPars, left := 4 }).2).1, (exprM bs 3 1 (stmtsM (stmtM bs 2 true 1 false false) ((nextM bs { s with vars := hPars, left := 4 }).1 % 4) (nextM bs { s with vars := hPars, left := 4 }).2).2).1⟩,
   (exprM bs 3 1 (stmtsM (stmtM bs 2 true 1 false false) ((nextM bs { s with vars := hPars, left := 4 }).1 % 4) (nextM bs { s with vars := hPars, left := 4 }).2).2).2) := rfl
 rw [hfm]
 clear hfm
 have hM1 := fun (z : St) (hz : z.objs o = some (Mo bs hParsV (nextM bs { s with vars := hPars, left := 4 }).2)) => mk_lit (c := 1431 + c) rfl hz (l := hPars) kx.vars (by simp [hPars]; omega) (by simp [hPars]) (by rw [kx.count]; simp only; omega) (by rw [kx.left]; simp only; omega) (by have := kx.at_; simp only at this; omega) h.bs
 generalize nextM bs { s with vars := hPars, left := 4 } = Rx at *
 obtain ⟨x, sx⟩ := Rx
 simp only at hx hM1 ⊢
 have r4 : (x : Int).tmod 4 = ((x % 4 : Nat) : Int) := yz x 4
 have y4 : x % 4 < 4 := Nat.mod_lt _ (by omega)
 generalize x % 4 = y at *
 simp -dsimp -implicitDefEqProofs [hn0, hnn, zz, hlt, zy, zx, zw, zu, loadA, ho, r4]
 have hC := stmt_all (w0 := w0) (base := base) bs 2 (by omega) true 1 (by omega)
 generalize hSM : stmtM bs 2 true 1 = SM at *
 refine loop_by (fun k e z => ∃ (out : List Sm) (p : Perm) (vj : AV) (sj : MS), e 4 = vi k ∧ z.objs (st.next + 17) = some (.cells 69 [.str [104], hParsV, vi 1, .sl (Sm.cellsL out) out.length p, vi 0, vi 0, vi 0, .str [], .int .i32 0, .sl [] 0 .full]) ∧ z.objs st.next = some (.cells 69 [.str [], .sl [] 0 .full, vi 0, .sl [] 0 .full, vi 0, vi 0, vi 0, .str [], .int .i32 0, .sl [] 0 .full]) ∧ k ≤ 3 ∧ out.length + k ≤ 3 ∧ OutS z o vj st.next out.length p ∧
  Mk bs z o vj sj (k * 464 + (39 + c)) ∧ Vw vj ∧ Kp o none st z (rowId vj) ∧ some (st.next + 17) ≠ rowId vj ∧ some st.next ≠ rowId vj ∧ st.next + 18 ≤ z.next ∧ stmtsM (SM false false) y sx = (out ++ (stmtsM (SM false false) k sj).1, (stmtsM (SM false false) k sj).2)) y ?_ (by decide) ?_
 ·refine ⟨[], .full, hParsV, sx, by simp, by simp [Sm.cellsL, hParsV, hXo], by simp [hbo, hXb], by omega, by simp; omega, .inl ⟨rfl, rfl⟩, (hM1 _ (by simp [hob, zx, hlt])).less ?_, fun _ _ _ e => by cases e; rfl, ⟨by simp, fun p h1 h2 _ => by simp [h1, h2, zx, zy], .inl rfl, (by repeat first | exact zk hwf | (refine zb ?_ ?_; rotate_left; focus (first | (simp; done) | omega | (simp; omega))) | refine yf ?_ _)⟩, by simp [rowId, hParsV], by simp [rowId, hParsV], by simp, by simp⟩
  have := Nat.mul_le_mul_right 464 (show y ≤ 3 by omega)
  omega
 ·rintro k e z hfr ⟨out, p, vj, sj, e4, hxz, hbz, hk3, hol, hout, hM, hwj, hK, hrx, hrb, hnz, hst⟩
  have e0 : e 0 = .ptr o 0 := by rw [hfr 0 rfl]; simp
  have e2 : e 2 = .ptr st.next 0 := by rw [hfr 2 rfl]; simp
  have e3 : e 3 = .ptr (st.next + 17) 0 := by rw [hfr 3 rfl]; simp
  have hzo := hM.obj
  rw [Mo_def] at hzo
  have hzlt := hK.wf _ _ hM.obj
  unfold l28_0
  by_cases hgo : 0 < k ∧ 0 < sj.left
  ·obtain ⟨hk0, hl0⟩ := hgo
   obtain ⟨k, rfl⟩ : ∃ k', k = k' + 1 := ⟨k - 1, by omega⟩
   have hki : (0 : Int) < ((k : Int) + 1) := by omega
   have hM1' : Mk bs z o vj sj (464 + (k * 464 + (39 + c))) := hM.less (by rw [Nat.add_mul, Nat.one_mul]; omega)
   simp -dsimp -implicitDefEqProofs [e0, e2, e3, e4, hk0, hl0, hki, hzo, hxz, loadA]
   refine yu (hC _ o vj sj (k * 464 + (39 + c)) false false (zk hK.wf) (hM1'.to hK.wf hM.obj (fun q _ _ => rfl) (by simp) (Kc.refl 0 sj) (Nat.le_of_eq (Nat.zero_add _))) hwj) (by simp [AV.bareL, AV.bare]) fun v z2 hv => ?_
   obtain ⟨rfl, v2, hM2, hw2, hsl2, hK2⟩ := hv
   have hst2 : stmtsM (SM false false) y sx = ((out ++ [(SM false false sj).1]) ++ (stmtsM (SM false false) k (SM false false sj).2).1, (stmtsM (SM false false) k (SM false false sj).2).2) := by
    rw [hst]; simp only [stmtsM]; rw [if_pos hl0]; simp
   have l1 := Sm.cells_len (SM false false sj).1
   have b1 : Sm.cellsL (out ++ [(SM false false sj).1]) = Sm.cellsL out ++ (SM false false sj).1.cells := by rw [Sm.cellsL_append]; simp [Sm.cellsL]
   have ln := Sm.cellsL_len out
   generalize SM false false sj = R at *
   obtain ⟨sm, s2⟩ := R
   simp only at *
   generalize sm.cells = c1 at *
   have hwk : IntKind.i64.wrap ((k : Int) + 1 - 1) = (k : Int) := by rw [Int.add_sub_cancel]; exact vm (by omega)
   have hwk2 : IntKind.i64.wrap (k : Int) = (k : Int) := vm (by omega)
   have hnx := hK2.next
   simp only [bump_next] at hnx
   have hxz2 : z2.objs (st.next + 17) = some (.cells 69 [.str [104], hParsV, vi 1, .sl (Sm.cellsL out) out.length p, vi 0, vi 0, vi 0, .str [], .int .i32 0, .sl [] 0 .full]) := by rw [hK2.same _ (by simp; omega) hXo hrx]; exact hxz
   have hbz2 : z2.objs st.next = z.objs st.next := hK2.same _ (by simp; omega) hbo hrb
   rw [hbz] at hbz2
   simp -dsimp -implicitDefEqProofs [l1, ln, hxz, hxz2]
   rw [if_pos ⟨by unfold big; omega, by unfold big; omega⟩]
   have hvj : vj.under (· < z.next) := hM.und hK.wf
   have hrx2 := vu hK2 (b := st.next + 17) (by simp; omega) hrx
   have hrb2 := vu hK2 (b := st.next) (by simp; omega) hrb
   have hKz2 : Kp o none st z2 (rowId v2) := (hK.trans (kp_own _ (z8 (xy hK.wf hM.obj) _))).trans hK2
   rcases hout with ⟨hn0', rfl⟩ | ⟨t, rfl, ht1, ht2, ht3, ht4, ht5, ht6⟩
   ·have hqt : some (z.next + 14) ≠ rowId vj := row_ne hvj (by omega)
    have htX : ¬ z.next + 14 = st.next + 17 := by omega
    have hXt : ¬ st.next + 17 = z.next + 14 := by omega
    have hbt : ¬ st.next = z.next + 14 := by omega
    have hot : ¬ o = z.next + 14 := by omega
    have h3a : ¬ z.next = st.next + 3 := by omega
    have h3b : ¬ st.next + 3 = z.next := by omega
    simp -dsimp -implicitDefEqProofs [e2, e3, e4, hwk, hwk2, hxz, hxz2, hXt, htX, h3a, h3b, oblR, oblQ, oblE, loadA]
    have hrt : ∀ q, rowId v2 = some q → q ≠ z.next + 14 := vu hK2 (b := z.next + 14) (by simp <;> omega) hqt
    refine hold ⟨k, by omega, out ++ [sm], .tok (z.next + 14), v2, s2, by simp, by simp [b1], by simp [hXb, hbt, hbz2], by omega, by simp; omega, .inr ⟨z.next + 14, rfl, by have := hK.next; omega, by simp; omega, by omega, fun e' => hrt _ e'.symm rfl, by simp [htX, h3a, hn0'], by simp⟩, hM2.toR hK2.wf (by simp [hoX, hot, hM2.obj]) (fun q h1 h2 => by have h3 := hrt q h1; have h4 := hrx2 q h1; simp [h3, h4]) (by simp) (Kc.refl 0 s2) (by omega), hw2, Kp.over hKz2 (fun p h1 h2 => by have h3 : p ≠ z.next + 14 := (by omega); have h4 : p ≠ st.next + 17 := (by omega); simp [h3, h4]) (by simp) (by repeat first | exact hK2.wf | (refine zb ?_ ?_; rotate_left; focus (first | (simp; done) | omega | (simp; omega))) | refine yf ?_ _ | refine zk ?_), fun e' => hrx2 _ e'.symm rfl, fun e' => hrb2 _ e'.symm rfl, by simp; omega, hst2⟩
   ·have hqt := ht4
    have htX : ¬ t = st.next + 17 := fun e' => by rw [e', hxz] at ht5; cases ht5
    have hXt : ¬ st.next + 17 = t := fun e' => htX e'.symm
    have hbt : ¬ st.next = t := fun e' => by rw [← e', hbz] at ht5; cases ht5
    have hot : ¬ o = t := fun e' => ht3 e'.symm
    have ht7 : z2.objs t = some (.tip 54 19 out.length) := by rw [hK2.same t (by simp; omega) ht3 ht4]; exact ht5
    simp -dsimp -implicitDefEqProofs [e2, e3, e4, hwk, hwk2, hxz, hxz2, hXt, htX, ht7, oblR, oblQ, oblE, loadA]
    have hrt : ∀ q, rowId v2 = some q → q ≠ t := vu hK2 (b := t) (by simp <;> omega) hqt
    refine hold ⟨k, by omega, out ++ [sm], .tok (t), v2, s2, by simp, by simp [b1], by simp [hXb, hbt, hbz2], by omega, by simp; omega, .inr ⟨t, rfl, by have := hK.next; omega, by simp; omega, by omega, fun e' => hrt _ e'.symm rfl, by simp [htX], by simp⟩, hM2.toR hK2.wf (by simp [hoX, hot, hM2.obj]) (fun q h1 h2 => by have h3 := hrt q h1; have h4 := hrx2 q h1; simp [h3, h4]) (by simp) (Kc.refl 0 s2) (by omega), hw2, Kp.over hKz2 (fun p h1 h2 => by have h3 : p ≠ t := (by omega); have h4 : p ≠ st.next + 17 := (by omega); simp [h3, h4]) (by simp) (by repeat first | exact hK2.wf | (refine zb ?_ ?_; rotate_left; focus (first | (simp; done) | omega | (simp; omega))) | refine yf ?_ _ | refine zk ?_), fun e' => hrx2 _ e'.symm rfl, fun e' => hrb2 _ e'.symm rfl, by simp; omega, hst2⟩
  ·have hemp : stmtsM (SM false false) k sj = ([], sj) := by
    cases k with
    | zero => rfl
    | succ k => simp only [stmtsM]; rw [if_neg (fun hh => hgo ⟨by omega, hh⟩)]
   rw [hemp] at hst
   simp only [List.append_nil] at hst
   rw [hst]
   have hM' := hM.less (c' := 39 + c) (by omega)
   have hqb : ∀ q, rowId vj = some q → q ≠ st.next := fun q h1 h2 => hrb (by rw [h1, h2])
   have hqX : ∀ q, rowId vj = some q → q ≠ st.next + 17 := fun q h1 h2 => hrx (by rw [h1, h2])
   rcases Nat.eq_zero_or_pos k with rfl | hk0
   ·simp -dsimp -implicitDefEqProofs [e0, e2, e3, e4, hxz, hbz, hzo, loadA]
    refine zt (E3 bs _ _ _ sj 1 (hM'.toR hK.wf (by simp [hM.obj]) (fun q h1 h2 => by simp) (by simp) (Kc.refl 0 sj) (by omega)) (.inl rfl)) ?_
    have k1 := K3 bs 1 sj
    generalize exprM bs 3 1 sj = R1 at *
    obtain ⟨⟨xk, xo, xt, xn, xv, xa⟩, s1⟩ := R1
    simp only [Ex.cells] at k1 ⊢
    have bxa := Ex.bare_cellsL xa
    generalize hcxa : Ex.cellsL xa = cxa at *
    simp -dsimp -implicitDefEqProofs [e0, e2, e3, hXo, hoX, hbo, hob, hXb, hbX, hxz, hbz, loadA]
    refine hold ⟨by simp [Fu.cells_eq, Ex.cells, hcxa, AV.bare, AV.bareL, bxa, Sm.bare_cellsL, hParsV, rowOf, hPars, Pa.cells], ⟨vj, hM'.toR hK.wf (by simp [hoX, hob]) (fun q h1 h2 => by have h3 := hqb q h1; have h4 := hqX q h1; simp [h2, h3, h4]) (by simp) k1 (by omega), hwj, Kp.over hK (fun p h1 h2 => by have h3 : p ≠ st.next := (by omega); have h4 : p ≠ st.next + 17 := (by omega); simp [h2, h3, h4]) (by simp) (by repeat first | exact hK.wf | (refine zb ?_ ?_; rotate_left; focus (first | (simp; done) | omega | (simp; omega))) | refine yf ?_ _ | refine zk ?_)⟩⟩
   ·have hl0 : ¬ 0 < sj.left := fun hh => hgo ⟨hk0, hh⟩
    have hki : (0 : Int) < (k : Int) := by omega
    simp -dsimp -implicitDefEqProofs [e0, e2, e3, e4, hk0, hki, hl0, hxz, hbz, hzo, loadA]
    refine zt (E3 bs _ _ _ sj 1 (hM'.toR hK.wf (by simp [hM.obj]) (fun q h1 h2 => by simp) (by simp) (Kc.refl 0 sj) (by omega)) (.inl rfl)) ?_
    have k1 := K3 bs 1 sj
    generalize exprM bs 3 1 sj = R1 at *
    obtain ⟨⟨xk, xo, xt, xn, xv, xa⟩, s1⟩ := R1
    simp only [Ex.cells] at k1 ⊢
    have bxa := Ex.bare_cellsL xa
    generalize hcxa : Ex.cellsL xa = cxa at *
    simp -dsimp -implicitDefEqProofs [e0, e2, e3, hXo, hoX, hbo, hob, hXb, hbX, hxz, hbz, loadA]
    refine hold ⟨by simp [Fu.cells_eq, Ex.cells, hcxa, AV.bare, AV.bareL, bxa, Sm.bare_cellsL, hParsV, rowOf, hPars, Pa.cells], ⟨vj, hM'.toR hK.wf (by simp [hoX, hob]) (fun q h1 h2 => by have h3 := hqb q h1; have h4 := hqX q h1; simp [h2, h3, h4]) (by simp) k1 (by omega), hwj, Kp.over hK (fun p h1 h2 => by have h3 : p ≠ st.next := (by omega); have h4 : p ≠ st.next + 17 := (by omega); simp [h2, h3, h4]) (by simp) (by repeat first | exact hK.wf | (refine zb ?_ ?_; rotate_left; focus (first | (simp; done) | omega | (simp; omega))) | refine yf ?_ _ | refine zk ?_)⟩⟩
end
end Go.Proofs.YthaekebedmoipaaGreatDoor.AM
