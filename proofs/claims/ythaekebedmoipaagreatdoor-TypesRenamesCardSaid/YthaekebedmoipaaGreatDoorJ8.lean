/- Part 8 of the proof: G8 G9 G10 G11 G12 G13 G14 G15 G16 G17 G18 G19 G20 X1 A33. -/
import Derived.Test.YthaekebedmoipaaGreatDoorJ7
import Derived.Test.YthaekebedmoipaaGreatDoorCards
import Derived.Test.YthaekebedmoipaaGreatDoorTie
import Derived.WalkKit
import Derived.ProofKit
import Derived.OpenShut
import Derived.Carry
import Derived.Deep.DeepHandedRow
import Derived.Lib.LaidTab
import Derived.Stop.LaidErr
set_option linter.unusedVariables false
set_option linter.unusedSimpArgs false
set_option linter.unusedSectionVars false
set_option maxRecDepth 100000
namespace Go.Proofs.YthaekebedmoipaaGreatDoor.AM
open Go Go.RowKit
section
variable {w0 : World} {base : Nat}
theorem d167 {st : St} {o mo : Nat} {k : Ke} {sc : Scope} {inF : Bool} {lp : Int} (hin : InR k sc) (h : Sees st o mo k sc inF lp) (s : Sm) (har : s.x.ar) (har' : s.y.ar) :
   Det Tryz.prog w0 base 167 [.ptr o 0, .agg s.cells] st (vi (targetT k sc s.name s.x s.y).2) st := by
  refine zh (zp Tryz.func167 r167) fun hwf hfit => z6 Tryz.func167 r167 rfl ?_
  clear hfit
  have hn0 := zj hwf
  have hn := zf hwf
  have hc : ∀ q, Sees q o mo k sc inF lp → Det Tryz.prog w0 base 204 [.ptr o 0, .agg s.cells] q _ q := fun q hs => d204 hin hs s har har'
  have bs := Sm.bare_cells s
  generalize targetT k sc s.name s.x s.y = R1 at *
  obtain ⟨⟨an, asp, at_, al⟩, f⟩ := R1
  obtain ⟨kd, op, ty, bd, nm, x, y, body, els⟩ := s
  obtain ⟨xk, xo, xt, xn, xv, xa⟩ := x
  obtain ⟨yk, yo, yt, yn, yv, ya⟩ := y
  simp only [Sm.cells, Ex.cells, List.cons_append, List.nil_append, Ar.cells] at *
  unfold b167
  simp -dsimp -implicitDefEqProofs [hn0, hn, zz]
  refine zo (hc _ (h.bump _)) (by simpa [AV.bareL, AV.bare] using bs) ?_
  simp -dsimp -implicitDefEqProofs [hn0, hn, zz]
  exact zn hwf (by simp [eraseA])
def atomT (k : Ke) (sc : Scope) (op : Int) (nm : Str) (x y : Ex) : Int :=
 if (targetT k sc nm x y).2 ≠ 0 then (targetT k sc nm x y).2 else
 if (binTypeP op (targetT k sc nm x y).1.typ (targetT k sc nm x y).1.typ).2 ≠ 0 ∨ (targetT k sc nm x y).1.space = 3 then 31 else 0
theorem d168 {st : St} {o mo : Nat} {k : Ke} {sc : Scope} {inF : Bool} {lp : Int} (hin : InR k sc) (h : Sees st o mo k sc inF lp) (s : Sm) (har : s.x.ar) (har' : s.y.ar) :
   Det Tryz.prog w0 base 168 [.ptr o 0, .agg s.cells] st (vi (atomT k sc s.op s.name s.x s.y)) st := by
  refine zh (zp Tryz.func168 r168) fun hwf hfit => z6 Tryz.func168 r168 rfl ?_
  clear hfit
  have hn0 := zj hwf
  have hn := zf hwf
  have hc : ∀ q, Sees q o mo k sc inF lp → Det Tryz.prog w0 base 204 [.ptr o 0, .agg s.cells] q _ q := fun q hs => d204 hin hs s har har'
  have bs := Sm.bare_cells s
  unfold atomT
  generalize targetT k sc s.name s.x s.y = R1 at *
  obtain ⟨⟨an, asp, at_, al⟩, f⟩ := R1
  obtain ⟨kd, op, ty, bd, nm, x, y, body, els⟩ := s
  obtain ⟨xk, xo, xt, xn, xv, xa⟩ := x
  obtain ⟨yk, yo, yt, yn, yv, ya⟩ := y
  simp only [Sm.cells, Ex.cells, List.cons_append, List.nil_append, Ar.cells, Sm.op] at *
  unfold b168
  simp -dsimp -implicitDefEqProofs [hn0, hn, zz]
  refine zo (hc _ (h.bump _)) (by simpa [AV.bareL, AV.bare] using bs) ?_
  simp -dsimp -implicitDefEqProofs [hn0, hn, zz]
  refine Br_iff (fun hb => ?_) (fun hb => ?_)
  · have hf : f ≠ 0 := by simpa using hb
    simp -dsimp -implicitDefEqProofs [hn0, hn, zz]
    exact zn hwf (by simp [eraseA, hf])
  · have hf : f = 0 := by simpa using hb
    subst hf
    simp -dsimp -implicitDefEqProofs [hn0, hn, zz]
    refine zt (d24 _ _ _ _) ?_
    generalize binTypeP op at_ at_ = R2
    obtain ⟨u, g⟩ := R2
    by_cases hg : g = 0
    · subst hg
      simp -dsimp -implicitDefEqProofs [hn0, hn, zz]
      refine Br_iff (fun hb => ?_) (fun hb => ?_)
      · have ha : asp = 3 := by simpa using hb
        simp -dsimp -implicitDefEqProofs [hn0, hn, zz]
        exact zn hwf (by simp [eraseA, ha])
      · have ha : ¬ asp = 3 := by simpa using hb
        simp -dsimp -implicitDefEqProofs [hn0, hn, zz]
        exact zn hwf (by simp [eraseA, ha])
    · have hb : (g != 0) = true := by simpa using hg
      simp -dsimp -implicitDefEqProofs [hn0, hn, zz, hb]
      exact zn hwf (by simp [eraseA, hg])
def fitsT (op t vt : Int) : Bool := if op = 1 then t == 3 && vt == 1 else if op = 2 ∨ op = 3 then t == vt && t == 3 else if op = 5 ∨ op = 6 then t == vt && t != 3 else t == vt
def collectT (k : Ke) (sc : Scope) (op : Int) (nm : Str) (x y : Ex) : Int := match findP sc nm [3] with
 | none => 30
 | some v => if (if (exprT k sc x).2 = 0 ∧ op = 4 then asT k sc y 1 else (exprT k sc x).2) ≠ 0 then (if (exprT k sc x).2 = 0 ∧ op = 4 then asT k sc y 1 else (exprT k sc x).2)
  else if fitsT op (exprT k sc x).1 v.typ then 0 else 31
def b169r : SCode := (.seq (.seq (.reg [m 38 8, pE 39 (.bin .int .neq (t 38) (i 0))]) (.cond (t 39) (.seq (.reg [m 40 8, m 4 40]) .ret) .skip)) (.seq (.reg [m 41 7, pE 42 (.fldA 1 (t 5)), oS 43 (.load 1 false (t 42)), pE 44 (.bin .int .eql (t 41) (t 43)), m 9 44]) (.seq (.seq (.reg [pE 45 (.fldA 1 (t 3)), oS 46 (.load 1 false (t 45))]) (.block 0 (.seq (.reg [pE 48 (.bin .int .eql (t 46) (i 1)), m 47 48]) (.cond (t 47) (.reg [m 49 7, pE 50 (.bin .int .eql (t 49) (i 3)), m 51 50, pG 52 51 true (.fldA 1 (t 5)), oG 53 51 true (.load 1 false (t 52)), pG 54 51 true (.bin .int .eql (t 53) (i 1)), pE 55 (.pick (t 51) (t 54) (.lit (.bool false))), m 9 55]) (.seq (.seq (.reg [pE 57 (.bin .int .eql (t 46) (i 2)), m 56 57]) (.cond (t 56) .skip (.reg [pE 58 (.bin .int .eql (t 46) (i 3)), m 56 58]))) (.cond (t 56) (.reg [m 59 9, m 60 59, pG 61 60 true (.mov (t 7)), pG 62 60 true (.bin .int .eql (t 61) (i 3)), pE 63 (.pick (t 60) (t 62) (.lit (.bool false))), m 9 63]) (.seq (.seq (.reg [pE 65 (.bin .int .eql (t 46) (i 5)), m 64 65]) (.cond (t 64) .skip (.reg [pE 66 (.bin .int .eql (t 46) (i 6)), m 64 66]))) (.cond (t 64) (.reg [m 67 9, m 68 67, pG 69 68 true (.mov (t 7)), pG 70 68 true (.bin .int .neq (t 69) (i 3)), pE 71 (.pick (t 68) (t 70) (.lit (.bool false))), m 9 71]) .skip)))))))) (.seq (.seq (.reg [m 72 9, pE 73 (.un .not (t 72))]) (.cond (t 73) (.seq (.reg [pE 4 (.mov (i 31))]) .ret) .skip)) (.seq (.reg [pE 4 (.mov (i 0))]) .ret)))))
theorem d169 {st : St} {o mo : Nat} {k : Ke} {sc : Scope} {inF : Bool} {lp : Int} (hin : InR k sc) (h : Sees st o mo k sc inF lp) (s : Sm) (har : s.x.ar) (har' : s.y.ar) :
   Det Tryz.prog w0 base 169 [.ptr o 0, .agg s.cells] st (vi (collectT k sc s.op s.name s.x s.y)) st := by
  refine zh (zp Tryz.func169 r169) fun hwf hfit => z6 Tryz.func169 r169 rfl ?_
  clear hfit
  have hn0 := zj hwf
  have hn := zf hwf
  obtain ⟨kd, op, ty, bd, nm, x, y, body, els⟩ := s
  have hc : ∀ q, Sees q o mo k sc inF lp → Det Tryz.prog w0 base 46 [.ptr o 0, .agg x.cells] q (tup (exprT k sc x)) q := fun q hs => d46 hin x har q hs
  have hd : ∀ s t, Sees s o mo k sc inF lp → Det Tryz.prog w0 base 92 [.ptr o 0, .agg y.cells, vi t] s (vi (asT k sc y t)) s := fun s t hs => d92 hin hs y har' t
  have bx := Ex.bare_cells x
  have bY := Ex.bare_cells y
  unfold collectT
  simp only [Sm.x, Sm.name, Sm.y, Sm.op]
  obtain ⟨xk, xo, xt, xn, xv, xa⟩ := x
  obtain ⟨yk, yo, yt, yn, yv, ya⟩ := y
  simp only [Sm.cells, Ex.cells, List.cons_append, List.nil_append] at *
  generalize exprT k sc (Ex.mk xk xo xt xn xv xa) = R1 at *
  generalize asT k sc (Ex.mk yk yo yt yn yv ya) = R2 at *
  obtain ⟨t, f⟩ := R1
  unfold b169
  simp -dsimp -implicitDefEqProofs [hn0, hn, zz]
  refine zo (d76 (h.bump _) nm [3]) (by simp [AV.bareL, AV.bare]) ?_
  rcases hf : findP sc nm [3] with _ | ⟨vk, vt, va⟩
  · simp -dsimp -implicitDefEqProofs [hn0, hn, zz, foundAV]
    exact zn hwf (by simp [eraseA])
  · have main : ∀ (e : Env) (n : Nat) (g : Int) (X : AV), e 8 = vi g → e 7 = vi t → e 3 = .iptr [vi kd, vi op, vi ty, vi bd, .str nm, vi xk, vi xo, vi xt, .str xn, .int .i32 xv, .sl (Ex.cellsL xa) xa.length .no, vi yk, vi yo, vi yt, .str yn, .int .i32 yv, .sl (Ex.cellsL ya) ya.length .no, .sl (Sm.cellsL body) body.length .no, .sl (Sm.cellsL els) els.length .no] 0 → e 5 = .iptr [vi vk, vi vt, vi va] 0 → vi (if g = 0 then if fitsT op t vt = true then 0 else 31 else g) = X →
        awp Tryz.prog w0 base b169r e [] (st.bump n) (Ends Tryz.prog w0 base [.tmp 4] st X st) := by
      intro e n g X e8 e7 e3 e5 hX
      unfold b169r
      simp -dsimp -implicitDefEqProofs [e8, e7, e3, e5]
      refine Br_iff (fun hb => ?_) (fun hb => ?_)
      · have hg : g ≠ 0 := by simpa using hb
        simp -dsimp -implicitDefEqProofs [e8, e7, e3, e5]
        exact zn hwf (by rw [← hX, if_neg hg]; simp [eraseA])
      · have hg : g = 0 := by simpa using hb
        subst hg
        have ho : op = 1 ∨ (op = 2 ∨ op = 3) ∨ (op = 5 ∨ op = 6) ∨ ((op == 1) = false ∧ (op == 2) = false ∧ (op == 3) = false ∧ (op == 5) = false ∧ (op == 6) = false) := by
          simp only [beq_eq_false_iff_ne]; omega
        have ht : t = 3 ∨ (t == 3) = false ∧ (t != 3) = true := by
          simp only [beq_eq_false_iff_ne, bne_iff_ne]; omega
        have hv : t = vt ∨ (t == vt) = false := by
          simp only [beq_eq_false_iff_ne]; omega
        have hv1 : vt = 1 ∨ (vt == 1) = false := by
          simp only [beq_eq_false_iff_ne]; omega
        rcases ho with rfl | (rfl | rfl) | (rfl | rfl) | ⟨o1, o2, o3, o5, o6⟩
        · rcases ht with rfl | ⟨ht, ht'⟩
          · rcases hv1 with rfl | hv1
            · simp -dsimp -implicitDefEqProofs [e8, e7, e3, e5]
              exact zn hwf (by rw [← hX]; simp [eraseA, fitsT])
            · simp -dsimp -implicitDefEqProofs [e8, e7, e3, e5, hv1]
              exact zn hwf (by rw [← hX]; simp [eraseA, fitsT, hv1])
          · simp -dsimp -implicitDefEqProofs [e8, e7, e3, e5, ht]
            exact zn hwf (by rw [← hX]; simp [eraseA, fitsT, ht])
        · rcases hv with rfl | hv
          · rcases ht with rfl | ⟨ht, ht'⟩
            · simp -dsimp -implicitDefEqProofs [e8, e7, e3, e5]
              exact zn hwf (by rw [← hX]; simp [eraseA, fitsT])
            · simp -dsimp -implicitDefEqProofs [e8, e7, e3, e5, ht, ht']
              exact zn hwf (by rw [← hX]; simp [eraseA, fitsT, ht, ht'])
          · simp -dsimp -implicitDefEqProofs [e8, e7, e3, e5, hv]
            exact zn hwf (by rw [← hX]; simp [eraseA, fitsT, hv])
        · rcases hv with rfl | hv
          · rcases ht with rfl | ⟨ht, ht'⟩
            · simp -dsimp -implicitDefEqProofs [e8, e7, e3, e5]
              exact zn hwf (by rw [← hX]; simp [eraseA, fitsT])
            · simp -dsimp -implicitDefEqProofs [e8, e7, e3, e5, ht, ht']
              exact zn hwf (by rw [← hX]; simp [eraseA, fitsT, ht, ht'])
          · simp -dsimp -implicitDefEqProofs [e8, e7, e3, e5, hv]
            exact zn hwf (by rw [← hX]; simp [eraseA, fitsT, hv])
        · rcases hv with rfl | hv
          · rcases ht with rfl | ⟨ht, ht'⟩
            · simp -dsimp -implicitDefEqProofs [e8, e7, e3, e5]
              exact zn hwf (by rw [← hX]; simp [eraseA, fitsT])
            · simp -dsimp -implicitDefEqProofs [e8, e7, e3, e5, ht, ht']
              exact zn hwf (by rw [← hX]; simp [eraseA, fitsT, ht, ht'])
          · simp -dsimp -implicitDefEqProofs [e8, e7, e3, e5, hv]
            exact zn hwf (by rw [← hX]; simp [eraseA, fitsT, hv])
        · rcases hv with rfl | hv
          · rcases ht with rfl | ⟨ht, ht'⟩
            · simp -dsimp -implicitDefEqProofs [e8, e7, e3, e5]
              exact zn hwf (by rw [← hX]; simp [eraseA, fitsT])
            · simp -dsimp -implicitDefEqProofs [e8, e7, e3, e5, ht, ht']
              exact zn hwf (by rw [← hX]; simp [eraseA, fitsT, ht, ht'])
          · simp -dsimp -implicitDefEqProofs [e8, e7, e3, e5, hv]
            exact zn hwf (by rw [← hX]; simp [eraseA, fitsT, hv])
        · have n1 : op ≠ 1 := by simpa using o1
          have n2 : op ≠ 2 := by simpa using o2
          have n3 : op ≠ 3 := by simpa using o3
          have n5 : op ≠ 5 := by simpa using o5
          have n6 : op ≠ 6 := by simpa using o6
          rcases hv with rfl | hv
          · simp -dsimp -implicitDefEqProofs [e8, e7, e3, e5, o1, o2, o3, o5, o6]
            exact zn hwf (by rw [← hX]; simp [eraseA, fitsT, o1, o2, o3, o5, o6, n1, n2, n3, n5, n6])
          · simp -dsimp -implicitDefEqProofs [e8, e7, e3, e5, hv, o1, o2, o3, o5, o6]
            exact zn hwf (by rw [← hX]; simp [eraseA, fitsT, hv, o1, o2, o3, o5, o6, n1, n2, n3, n5, n6])
    simp -dsimp -implicitDefEqProofs [hn0, hn, zz, foundAV, Thing.cells]
    refine zo (hc _ (h.bump _)) (by simpa [AV.bareL, AV.bare] using bx) ?_
    by_cases hf : f = 0
    · subst hf
      by_cases ho : op = 4
      · subst ho
        generalize hX : vi (if (if (0 : Int) = 0 ∧ (4 : Int) = 4 then R2 1 else (0 : Int)) ≠ 0 then (if (0 : Int) = 0 ∧ (4 : Int) = 4 then R2 1 else (0 : Int)) else if fitsT (4 : Int) t vt = true then 0 else 31) = X
        simp -dsimp -implicitDefEqProofs [hn0, hn, zz, foundAV, Thing.cells, tup, -yr]
        rw [yr, yr]
        simp -dsimp -implicitDefEqProofs [hn0, hn, zz, foundAV, Thing.cells, tup, -yr]
        refine zo (hd _ 1 (h.bump _)) (by simpa [AV.bareL, AV.bare] using bY) ?_
        simp -dsimp -implicitDefEqProofs [hn0, hn, zz, foundAV, Thing.cells, tup, -yr]
        exact main _ _ (R2 1) _ (by simp) (by simp) (by simp) (by simp) (by rw [← hX]; simp)
      · have hb : (op == 4) = false := by simpa using ho
        generalize hX : vi (if (if (0 : Int) = 0 ∧ op = 4 then R2 1 else (0 : Int)) ≠ 0 then (if (0 : Int) = 0 ∧ op = 4 then R2 1 else (0 : Int)) else if fitsT op t vt = true then 0 else 31) = X
        simp -dsimp -implicitDefEqProofs [hn0, hn, zz, foundAV, Thing.cells, tup, hb, -yr]
        rw [yr, yr]
        simp -dsimp -implicitDefEqProofs [hn0, hn, zz, foundAV, Thing.cells, tup, hb, -yr]
        exact main _ _ 0 _ (by simp) (by simp) (by simp) (by simp) (by rw [← hX]; simp [ho])
    · have hb : (f == 0) = false := by simpa using hf
      generalize hX : vi (if (if f = 0 ∧ op = 4 then R2 1 else f) ≠ 0 then (if f = 0 ∧ op = 4 then R2 1 else f) else if fitsT op t vt = true then 0 else 31) = X
      simp -dsimp -implicitDefEqProofs [hn0, hn, zz, foundAV, Thing.cells, tup, hb, -yr]
      rw [yr, yr]
      simp -dsimp -implicitDefEqProofs [hn0, hn, zz, foundAV, Thing.cells, tup, hb, -yr]
      exact main _ _ f _ (by simp) (by simp) (by simp) (by simp) (by rw [← hX]; simp [hf])
end
section
variable {w0 : World} {base : Nat}
theorem put_self {st : St} {o : Nat} {x : AObj} (h : st.objs o = some x) : st.put o x = st := by
 cases st
 simp only [St.put, St.mk.injEq, and_true] at *
 funext j
 simp only [upd]
 split
 ·rename_i e; rw [e]; exact h.symm
 ·rfl
def varT (k : Ke) (sc : Scope) (ty : Int) (nm : Str) (x : Ex) : Scope × Int :=
 if (exprT k sc x).2 ≠ 0 then (sc, (exprT k sc x).2) else ((declP sc nm ⟨3, ty, 0⟩).1, if (declP sc nm ⟨3, ty, 0⟩).2 = false then 30 else if (exprT k sc x).1 ≠ ty then 31 else 0)
theorem d162 {st : St} {o mo : Nat} {k : Ke} {sc : Scope} {inF : Bool} {lp : Int} (hin : InR k sc) (h : Sees st o mo k sc inF lp) (s : Sm) (har : s.x.ar) :
   Det Tryz.prog w0 base 162 [.ptr o 0, .agg s.cells] st (vi (varT k sc s.typ s.name s.x).2) (st.put mo (.map (varT k sc s.typ s.name s.x).1.enc)) := by
  refine wq (zp Tryz.func162 r162) h.map fun hwf hfit => z6 Tryz.func162 r162 rfl ?_
  clear hfit
  have hO := xy hwf h.map
  have hn0 := zj hwf
  have hn := zf hwf
  obtain ⟨kd, op, ty, bd, nm, x, y, body, els⟩ := s
  have hc : ∀ q, Sees q o mo k sc inF lp → Det Tryz.prog w0 base 46 [.ptr o 0, .agg x.cells] q (tup (exprT k sc x)) q := fun q hs => d46 hin x har q hs
  have bx := Ex.bare_cells x
  unfold varT
  simp only [Sm.x, Sm.name, Sm.typ]
  obtain ⟨xk, xo, xt, xn, xv, xa⟩ := x
  obtain ⟨yk, yo, yt, yn, yv, ya⟩ := y
  simp only [Sm.cells, Ex.cells, List.cons_append, List.nil_append] at *
  generalize exprT k sc (Ex.mk xk xo xt xn xv xa) = R1 at *
  obtain ⟨t, f⟩ := R1
  unfold b162
  simp -dsimp -implicitDefEqProofs [hn0, hn, zz]
  refine zo (hc _ (h.bump _)) (by simpa [AV.bareL, AV.bare] using bx) ?_
  by_cases hf : f = 0
  · subst hf
    simp -dsimp -implicitDefEqProofs [hn0, hn, zz, tup]
    refine own_call (z8 hO _) (d90 (h.bump _) nm ⟨3, ty, 0⟩) (by simp [AV.bareL, AV.bare, Thing.cells]) fun s q0 q hs hlt hI => ?_
    generalize declP sc nm ⟨3, ty, 0⟩ = D at *
    obtain ⟨sc', b⟩ := D
    have hu := map_under (· < st.next) sc'
    cases b
    · simp -dsimp -implicitDefEqProofs [q0, q, zz]
      refine vy hwf (z8 hI _) hu (by simp [eraseA])
    · simp -dsimp -implicitDefEqProofs [q0, q, zz]
      refine Br_iff (fun hb => ?_) (fun hb => ?_)
      · have hne : ¬ t = ty := by simpa using hb
        simp -dsimp -implicitDefEqProofs [q0, q, zz]
        refine vy hwf (z8 hI _) (by simpa using hu) (by simp [eraseA, hne])
      · have hne : t = ty := by simpa using hb
        simp -dsimp -implicitDefEqProofs [q0, q, zz]
        refine vy hwf (z8 hI _) (by simpa using hu) (by simp [eraseA, hne])
  · have hb : (f != 0) = true := by simpa using hf
    simp -dsimp -implicitDefEqProofs [hn0, hn, zz, tup, hb]
    simp only [hf, ne_eq, not_false_eq_true, if_true]
    refine vy hwf (z8 hO _) (map_under _ _) (by simp [eraseA])
def fnAV (f : FuncId) (first : List AV) : AV := .func (.func f) first []
def kinds0 (o : Nat) : List (AV × AV) := [(vi 1, fnAV 162 [.ptr o 0]), (vi 2, fnAV 163 [.ptr o 0]), (vi 5, fnAV 164 [.ptr o 0]), (vi 6, fnAV 165 [.ptr o 0]), (vi 7, fnAV 166 [.ptr o 0]), (vi 8, fnAV 166 [.ptr o 0]), (vi 3, fnAV 167 [.ptr o 0]), (vi 4, fnAV 168 [.ptr o 0]), (vi 12, fnAV 169 [.ptr o 0])]
def kindsJ (o : Nat) : Nat → List (AV × AV)
 | 0 => kinds0 o
 | 1 => (kinds0 o).set 6 (vi 3, fnAV 170 [])
 | 2 => ((kinds0 o).set 6 (vi 3, fnAV 170 [])).set 7 (vi 4, fnAV 170 [])
 | 3 => ((kinds0 o).set 6 (vi 3, fnAV 170 [])).set 7 (vi 4, fnAV 170 []) ++ [(vi 9, fnAV 170 [])]
 | 4 => ((kinds0 o).set 6 (vi 3, fnAV 170 [])).set 7 (vi 4, fnAV 170 []) ++ [(vi 9, fnAV 170 []), (vi 10, fnAV 170 [])]
 | 5 => ((kinds0 o).set 6 (vi 3, fnAV 170 [])).set 7 (vi 4, fnAV 170 []) ++ [(vi 9, fnAV 170 []), (vi 10, fnAV 170 []), (vi 11, fnAV 170 [])]
 | _ => (((kinds0 o).set 6 (vi 3, fnAV 170 [])).set 7 (vi 4, fnAV 170 []) ++ [(vi 9, fnAV 170 []), (vi 10, fnAV 170 []), (vi 11, fnAV 170 [])]).set 8 (vi 12, fnAV 170 [])
def kindsM (o : Nat) (inF : Bool) : List (AV × AV) := kindsJ o (if inF then 6 else 0)
structure NewM (st : St) (q : Nat) (es : List (AV × AV)) (s : St) : Prop where
 ge : st.next ≤ q
 lt : q < s.next
 at_ : s.objs q = some (.map es)
 old : ∀ p, p ≠ q → s.objs p = st.objs p
theorem NewM.bump {st s : St} {q : Nat} {es : List (AV × AV)} (h : NewM st q es s) (k : Nat) : NewM st q es (s.bump k) := ⟨h.ge, Nat.lt_of_lt_of_le h.lt (Nat.le_add_right _ _), h.at_, h.old⟩
theorem w136 {st : St} {o mo : Nat} {k : Ke} {sc : Scope} {inF : Bool} {lp : Int} (hwf : st.wf) (h : Sees st o mo k sc inF lp) :
   CallW Tryz.prog w0 base 136 [.ptr o 0] st (fun v s => ∃ q, v = .map q ∧ NewM st q (kindsM o inF) s) := by
  refine za Tryz.func136 r136 rfl ?_
  have h1 := h.row
  have g1 := hwf _ _ h1
  have hn0 := zj hwf
  have hn := zf hwf
  unfold b136
  cases inF
  · simp -dsimp -implicitDefEqProofs [hn0, hn, zz, h1, zx, zy, zu, zw, g1]
    refine hold ⟨st.next + 1, rfl, Nat.le_add_right _ _, by simp, by simp [kindsM, kindsJ, kinds0, fnAV], fun p hp => by simp [hp]⟩
  · simp -dsimp -implicitDefEqProofs [hn0, hn, zz, h1, zx, zy, zu, zw, g1]
    refine y1 (d := 33) (x := 32) (n := 31) (y := 38) 6 (fun j e s => NewM st (st.next + 1) (kindsJ o j) s) (by decide) (by simp) (by simp) ⟨Nat.le_add_right _ _, by simp, by simp [kindsM, kindsJ, kinds0, fnAV], fun p hp => by simp [hp]⟩ rfl (fun j e e' s k h _ => h.bump k) ?_ ?_
    · rintro j e s hj hf hx hI
      have e30 : e 30 = .sl [vi 3, vi 4, vi 9, vi 10, vi 11, vi 12] 6 .full := by rw [hf 30 rfl]; simp
      have e3 : e 3 = .map (st.next + 1) := by rw [hf 3 rfl]; simp
      have ha := hI.at_
      have : j = 0 ∨ j = 1 ∨ j = 2 ∨ j = 3 ∨ j = 4 ∨ j = 5 := by omega
      rcases this with rfl | rfl | rfl | rfl | rfl | rfl
      all_goals
        simp [kindsJ, kinds0, fnAV] at hx ha
        simp -dsimp -implicitDefEqProofs [e30, e3, hx, ha]
        refine hold ⟨hI.ge, Nat.lt_of_lt_of_le hI.lt (Nat.le_add_right _ _), by simp [kindsJ, kinds0, fnAV], fun p hp => by simp [hp, hI.old p hp]⟩
    · rintro e s hf hI
      have e3 : e 3 = .map (st.next + 1) := by rw [hf 3 rfl]; simp
      simp -dsimp -implicitDefEqProofs [e3]
      exact hold ⟨st.next + 1, rfl, hI.bump _⟩
end
section
variable {w0 : World} {base : Nat}
mutual
def stmtT (k : Ke) (inF : Bool) : Sm → Int → Scope → Scope × Int
 | .mk kd op ty bd nm x y body els, lp, sc =>
  if inF = true ∧ (kd = 3 ∨ kd = 4 ∨ kd = 9 ∨ kd = 10 ∨ kd = 11 ∨ kd = 12) then (sc, 31)
  else if kd = 1 then varT k sc ty nm x
  else if kd = 2 then (sc, setT k sc nm x)
  else if kd = 5 then (sc, if asT k sc x 3 ≠ 0 then asT k sc x 3 else if (listT k inF body lp sc).2 ≠ 0 then (listT k inF body lp sc).2 else (listT k inF els lp sc).2)
  else if kd = 6 then (sc, if asT k sc x 3 ≠ 0 then asT k sc x 3 else if bd < 1 ∨ 1024 < bd then 1 else (listT k inF body (incW lp) sc).2)
  else if kd = 7 ∨ kd = 8 then (sc, if lp = 0 then 31 else 0)
  else if kd = 3 then (sc, (targetT k sc nm x y).2)
  else if kd = 4 then (sc, atomT k sc op nm x y)
  else if kd = 12 then (sc, collectT k sc op nm x y)
  else (sc, 0)
def listT (k : Ke) (inF : Bool) : List Sm → Int → Scope → Scope × Int
 | [], _, sc => (sc, 0)
 | s :: l, lp, sc => if (stmtT k inF s lp sc).2 ≠ 0 then stmtT k inF s lp sc else listT k inF l lp (stmtT k inF s lp sc).1
end
def ListC (w0 : World) (base : Nat) (k : Ke) (inF : Bool) (l : List Sm) : Prop := ∀ (st : St) (o mo : Nat) (sc : Scope) (lp : Int), InR k sc → IntKind.i64.wrap lp = lp → Sees st o mo k sc inF lp →
   Det Tryz.prog w0 base 91 [.ptr o 0, .sl (Sm.cellsL l) l.length .no] st (vi (listT k inF l lp sc).2) (st.put mo (.map (listT k inF l lp sc).1.enc))
def ScopeC (w0 : World) (base : Nat) (k : Ke) (inF : Bool) (l : List Sm) : Prop := ∀ (st : St) (o mo : Nat) (sc : Scope) (lp : Int), InR k sc → IntKind.i64.wrap lp = lp → Sees st o mo k sc inF lp →
   Det Tryz.prog w0 base 65 [.ptr o 0, .sl (Sm.cellsL l) l.length .no] st (vi (listT k inF l lp sc).2) st
theorem detD_fn {P : Program} {f : FuncId} {fn : Func} {N : Nat} {rs : List SRes} {b : SCode} (hf : P.funcs[f]? = some fn) (hs : resFunc P fn = some ⟨N, rs, b⟩) {args : List AV} {st st' : St} {r : AV} (hl : Nat.ble args.length N = true)
  (h : awp P w0 base b (initEnv args) [] st fun ex env ds s => (match ex with | .exit _ => False | _ => True) ∧ ds = [] ∧ ∃ vs, evalRes env s rs = some vs ∧ Fin st s (packRes vs) r st') : DetD P w0 base f args st st' :=
 detD_body hf hs (Nat.le_of_ble_eq_true hl) h
theorem e94 {st : St} {o ob ub mo mo' : Nat} {k : Ke} {inF : Bool} {lp : Int} (hu : st.objs ub = some (.cells 105 [.map mo])) (hb : st.objs ob = some (.cells 85 [.ptr o 0]))
   (ho : st.objs o = some (.cells 107 (k.cells ++ [.map mo', .bool inF, vi lp]))) :
   DetD Tryz.prog w0 base 94 [.ptr ub 0, .ptr ob 0] st ((st.bump 5).put o (.cells 107 (k.cells ++ [.map mo, .bool inF, vi lp]))) := by
  refine detD_fn (r := .tuple []) Tryz.func94 (show resFunc Tryz.prog Tryz.f94 = some ⟨6, [], b94⟩ from r94) rfl ?_
  unfold b94
  have h1 : st.objs o = some (.cells 107 [.str k.name, vi k.group, vi k.sub, .sl (rowOf Ar.cells k.arrays) k.arrays.length .no, .sl (rowOf Pa.cells k.params) k.params.length .no, .sl (rowOf Fu.cells k.funcs) k.funcs.length .no, .sl (Sm.cellsL k.body) k.body.length .no, .map mo', .bool inF, vi lp]) := ho
  simp -dsimp -implicitDefEqProofs [hu, hb, h1]
  exact .keep ⟨fun _ _ h => h, rfl⟩ rfl
theorem e203 {st : St} {o ob mo : Nat} {k : Ke} {inF : Bool} {lp lp' : Int} (hb : st.objs ob = some (.cells 85 [.ptr o 0]))
   (ho : st.objs o = some (.cells 107 (k.cells ++ [.map mo, .bool inF, vi lp']))) (hl : IntKind.i64.wrap (lp' - 1) = lp) :
   DetD Tryz.prog w0 base 203 [.ptr ob 0] st ((st.bump 8).put o (.cells 107 (k.cells ++ [.map mo, .bool inF, vi lp]))) := by
  refine detD_fn (r := .tuple []) Tryz.func203 (show resFunc Tryz.prog Tryz.f203 = some ⟨8, [], b203⟩ from r203) rfl ?_
  unfold b203
  have h1 : st.objs o = some (.cells 107 [.str k.name, vi k.group, vi k.sub, .sl (rowOf Ar.cells k.arrays) k.arrays.length .no, .sl (rowOf Pa.cells k.params) k.params.length .no, .sl (rowOf Fu.cells k.funcs) k.funcs.length .no, .sl (Sm.cellsL k.body) k.body.length .no, .map mo, .bool inF, vi lp']) := ho
  simp -dsimp -implicitDefEqProofs [hb, h1, hl]
  exact .keep ⟨fun _ _ h => h, rfl⟩ rfl
theorem scope_of {k : Ke} {inF : Bool} {l : List Sm} (hl : ListC w0 base k inF l) : ScopeC w0 base k inF l := by
 intro st o mo sc lp hin hlp h
 refine zh (zp Tryz.func65 r65) fun hwf hfit => z6 Tryz.func65 r65 rfl ?_
 clear hfit
 have h1 := h.row
 have h2 := h.map
 have g1 := hwf _ _ h1
 have g2 := hwf _ _ h2
 have hn0 := zj hwf
 have hn := zf hwf
 have bl := Sm.bare_cellsL l
 have hc : ∀ (st : St) (o mo : Nat), Sees st o mo k sc inF lp → Det Tryz.prog w0 base 91 [.ptr o 0, .sl (Sm.cellsL l) l.length .no] st _ _ := fun st o mo hs => hl st o mo sc lp hin hlp hs
 generalize listT k inF l lp sc = R1 at *
 generalize Sm.cellsL l = cl at *
 obtain ⟨sc', f⟩ := R1
 unfold b65
 simp -dsimp -implicitDefEqProofs [hn0, hn, zz, h1, g1, zx, zy, zu, zw]
 refine zt (d93 (es := sc.enc) (by simp [h2, g2, zx, zy])) ?_
 simp -dsimp -implicitDefEqProofs [hn0, hn, zz, h1, g1, zx, zy, zu, zw]
 refine zo (hc _ o (st.next + 14) ⟨by simp; rfl, by simp [g1, zu]⟩) (by simp [AV.bareL, AV.bare, bl]) ?_
 simp -dsimp -implicitDefEqProofs [hn0, hn, zz, h1, g1, zx, zy, zu, zw]
 refine runL_cons (e94 (mo' := st.next + 14) (k := k) (o := o) (inF := inF) (lp := lp) (mo := mo) (by simp [g1, zx, zu]) (by simp [g1, zy, zw]) (by simp [g1, zx, zy]; rfl)) ?_
 simp -dsimp -implicitDefEqProofs [hn0, hn, zz, h1, g1, zx, zy, zu, zw]
 refine zg hwf (fun p hp => ?_) (by simp [eraseA])
 simp [hp, zx, zy]
 by_cases hpo : p = o
 ·rw [if_pos hpo, hpo]; exact h.obj.symm
 ·rw [if_neg hpo, if_neg hpo]
end
section
variable {w0 : World} {base : Nat}
theorem incW_wrap (lp : Int) : IntKind.i64.wrap (incW lp) = incW lp := by
 have := wrap_add (lp + 1) 0
 simpa [incW] using this
theorem incW_dec {lp : Int} (h : IntKind.i64.wrap lp = lp) : IntKind.i64.wrap (incW lp - 1) = lp := by
 have := wrap_add (lp + 1) (-1)
 simp only [incW]
 rw [show IntKind.i64.wrap (lp + 1) - 1 = IntKind.i64.wrap (lp + 1) + -1 by omega, this, show lp + 1 + -1 = lp by omega, h]
theorem d164 {k : Ke} {inF : Bool} (s : Sm) (hb : ScopeC w0 base k inF s.body) (he : ScopeC w0 base k inF s.els) {st : St} {o mo : Nat} {sc : Scope} {lp : Int} (hin : InR k sc) (hlp : IntKind.i64.wrap lp = lp) (h : Sees st o mo k sc inF lp) (har : s.x.ar) :
   Det Tryz.prog w0 base 164 [.ptr o 0, .agg s.cells] st (vi (if asT k sc s.x 3 ≠ 0 then asT k sc s.x 3 else if (listT k inF s.body lp sc).2 ≠ 0 then (listT k inF s.body lp sc).2 else (listT k inF s.els lp sc).2)) st := by
  refine zh (zp Tryz.func164 r164) fun hwf hfit => z6 Tryz.func164 r164 rfl ?_
  clear hfit
  have hn0 := zj hwf
  have hn := zf hwf
  obtain ⟨kd, op, ty, bd, nm, x, y, body, els⟩ := s
  have hc : ∀ s t, Sees s o mo k sc inF lp → Det Tryz.prog w0 base 92 [.ptr o 0, .agg x.cells, vi t] s (vi (asT k sc x t)) s := fun s t hs => d92 hin hs x har t
  have bx := Ex.bare_cells x
  have bb := Sm.bare_cellsL body
  have be := Sm.bare_cellsL els
  have hb : ∀ s, Sees s o mo k sc inF lp → Det Tryz.prog w0 base 65 [.ptr o 0, .sl (Sm.cellsL body) body.length .no] s (vi (listT k inF body lp sc).2) s := fun s hs => hb s o mo sc lp hin hlp hs
  have he : ∀ s, Sees s o mo k sc inF lp → Det Tryz.prog w0 base 65 [.ptr o 0, .sl (Sm.cellsL els) els.length .no] s (vi (listT k inF els lp sc).2) s := fun s hs => he s o mo sc lp hin hlp hs
  simp only [Sm.x, Sm.body, Sm.els]
  obtain ⟨xk, xo, xt, xn, xv, xa⟩ := x
  obtain ⟨yk, yo, yt, yn, yv, ya⟩ := y
  simp only [Sm.cells, Ex.cells, List.cons_append, List.nil_append] at *
  generalize asT k sc (Ex.mk xk xo xt xn xv xa) = R1 at *
  generalize (listT k inF body lp sc).2 = B at *
  generalize (listT k inF els lp sc).2 = E at *
  generalize Sm.cellsL body = cb at *
  generalize Sm.cellsL els = ce at *
  unfold b164
  simp -dsimp -implicitDefEqProofs [hn0, hn, zz]
  refine zo (hc _ 3 (h.bump _)) (by simpa [AV.bareL, AV.bare] using bx) ?_
  by_cases h1 : R1 3 = 0
  · simp -dsimp -implicitDefEqProofs [h1]
    refine zo (hb _ (h.bump _)) (by simp [AV.bareL, AV.bare, bb]) ?_
    by_cases h2 : B = 0
    · subst h2
      simp -dsimp -implicitDefEqProofs
      refine zo (he _ (h.bump _)) (by simp [AV.bareL, AV.bare, be]) ?_
      simp -dsimp -implicitDefEqProofs
      exact zn hwf (by simp [eraseA, h1])
    · have hb2 : (B == 0) = false := by simpa using h2
      simp -dsimp -implicitDefEqProofs [hb2]
      exact zn hwf (by simp [eraseA, h1, h2])
  · have hb1 : (R1 3 == 0) = false := by simpa using h1
    simp -dsimp -implicitDefEqProofs [hb1]
    exact zn hwf (by simp [eraseA, h1])
theorem d165 {k : Ke} {inF : Bool} (s : Sm) (hb : ScopeC w0 base k inF s.body) {st : St} {o mo : Nat} {sc : Scope} {lp : Int} (hin : InR k sc) (hlp : IntKind.i64.wrap lp = lp) (h : Sees st o mo k sc inF lp) (har : s.x.ar) :
   Det Tryz.prog w0 base 165 [.ptr o 0, .agg s.cells] st (vi (if asT k sc s.x 3 ≠ 0 then asT k sc s.x 3 else if s.bound < 1 ∨ 1024 < s.bound then 1 else (listT k inF s.body (incW lp) sc).2)) st := by
  refine zh (zp Tryz.func165 r165) fun hwf hfit => z6 Tryz.func165 r165 rfl ?_
  clear hfit
  have hn0 := zj hwf
  have hn := zf hwf
  have h1 := h.row
  have g1 := hwf _ _ h1
  have g2 := hwf _ _ h.map
  obtain ⟨kd, op, ty, bd, nm, x, y, body, els⟩ := s
  have hc : ∀ s t, Sees s o mo k sc inF lp → Det Tryz.prog w0 base 92 [.ptr o 0, .agg x.cells, vi t] s (vi (asT k sc x t)) s := fun s t hs => d92 hin hs x har t
  have bx := Ex.bare_cells x
  have bb := Sm.bare_cellsL body
  have hb : ∀ s, Sees s o mo k sc inF (incW lp) → Det Tryz.prog w0 base 65 [.ptr o 0, .sl (Sm.cellsL body) body.length .no] s (vi (listT k inF body (incW lp) sc).2) s := fun s hs => hb s o mo sc (incW lp) hin (incW_wrap lp) hs
  simp only [Sm.x, Sm.body, Sm.bound]
  obtain ⟨xk, xo, xt, xn, xv, xa⟩ := x
  obtain ⟨yk, yo, yt, yn, yv, ya⟩ := y
  simp only [Sm.cells, Ex.cells, List.cons_append, List.nil_append] at *
  generalize asT k sc (Ex.mk xk xo xt xn xv xa) = R1 at *
  generalize (listT k inF body (incW lp) sc).2 = B at *
  generalize Sm.cellsL body = cb at *
  generalize Sm.cellsL els = ce at *
  generalize hG : vi (if R1 3 ≠ 0 then R1 3 else if bd < 1 ∨ 1024 < bd then 1 else B) = G
  unfold b165
  simp -dsimp -implicitDefEqProofs [hn0, hn, zz, zx, zy, zu, zw]
  refine zo (hc _ 3 (h.same hwf (fun p hp => by simp [hp, zx, zy]))) (by simpa [AV.bareL, AV.bare] using bx) ?_
  by_cases h3 : R1 3 = 0
  · by_cases h4 : bd < 1
    · simp -dsimp -implicitDefEqProofs [h3, h4]
      refine zg hwf (fun p hp => by simp [hp, zx, zy]) ?_
      rw [← hG, h3]
      simp [eraseA, h4]
    · by_cases h5 : 1024 < bd
      · simp -dsimp -implicitDefEqProofs [h3, h4, h5]
        refine zg hwf (fun p hp => by simp [hp, zx, zy]) ?_
        rw [← hG, h3]
        simp [eraseA, h4, h5]
      · simp -dsimp -implicitDefEqProofs [h3, h4, h5, h1, g1, zx, zy, zu, zw]
        refine zo (hb _ ⟨by simp [incW]; rfl, by simp [g2, h.ne.symm, zy, h.map]⟩) (by simp [AV.bareL, AV.bare, bb]) ?_
        simp -dsimp -implicitDefEqProofs
        refine runL_cons (e203 (lp' := incW lp) (k := k) (o := o) (inF := inF) (lp := lp) (mo := mo) (by simp [g1, zy, zw]) (by simp [incW]; rfl) (incW_dec hlp)) ?_
        simp -dsimp -implicitDefEqProofs
        refine zg hwf (fun p hp => ?_) ?_
        · simp [hp, zx, zy]
          intro hpo
          rw [hpo]; exact h.obj.symm
        · rw [← hG, h3]
          simp [eraseA, h4, h5]
  · have hb1 : (R1 3 != 0) = true := by simpa using h3
    simp -dsimp -implicitDefEqProofs [hb1]
    refine zg hwf (fun p hp => by simp [hp, zx, zy]) ?_
    rw [← hG, if_pos h3]
    simp [eraseA]
end
section
variable {w0 : World} {base : Nat}
mutual
def Sm.ar : Sm → Prop
 | .mk _ _ _ _ _ x y body els => x.ar ∧ y.ar ∧ arS body ∧ arS els
def arS : List Sm → Prop
 | [] => True
 | s :: l => s.ar ∧ arS l
end
theorem arS_mem : ∀ {l : List Sm}, arS l → ∀ x ∈ l, x.ar
 | [], _, x, hx => absurd hx (by simp)
 | e :: l, h, x, hx => by
  simp only [arS] at h
  rcases List.mem_cons.1 hx with rfl | hx
  ·exact h.1
  ·exact arS_mem h.2 x hx
theorem lookup_app (sc : Scope) (n m : Str) (t : Thing) : (sc ++ [(n, t)]).lookup m = (sc.lookup m).or (if m = n then some t else none) := by
 induction sc with
 | nil =>
  by_cases h : m = n
  ·simp [List.lookup, h]
  ·have : (m == n) = false := by simpa using h
   simp [List.lookup, h, this]
 | cons x sc ih =>
  simp only [List.cons_append, List.lookup]
  split
  ·rfl
  ·exact ih
theorem InR_decl {k : Ke} {sc : Scope} (h : InR k sc) (n : Str) (t : Thing) (ht : (t.kind = 0 → 0 ≤ t.at_ ∧ t.at_ < k.arrays.length) ∧ (t.kind = 1 → 0 ≤ t.at_ ∧ t.at_ < k.funcs.length)) : InR k (declP sc n t).1 := by
 unfold declP
 split
 ·exact h
 ·intro m u hu
  simp only [lookup_app] at hu
  rcases hm : sc.lookup m with _ | v
  ·rw [hm] at hu
   simp only [Option.none_or] at hu
   split at hu
   ·cases hu; exact ht
   ·cases hu
  ·rw [hm] at hu
   simp only [Option.some_or, Option.some.injEq] at hu
   subst hu
   exact h m _ hm
theorem InR_stmt {k : Ke} {sc : Scope} (h : InR k sc) (inF : Bool) (s : Sm) (lp : Int) : InR k (stmtT k inF s lp sc).1 := by
 obtain ⟨kd, op, ty, bd, nm, x, y, body, els⟩ := s
 simp only [stmtT]
 repeat' split
 all_goals first
  | exact h
  | (unfold varT; split; exact h; exact InR_decl h nm _ (by simp))
def fOf (o : Nat) (inF : Bool) (kd : Int) : Option (FuncId × List AV) :=
 if inF = true ∧ (kd = 3 ∨ kd = 4 ∨ kd = 9 ∨ kd = 10 ∨ kd = 11 ∨ kd = 12) then some (170, [])
 else if kd = 1 then some (162, [.ptr o 0]) else if kd = 2 then some (163, [.ptr o 0]) else if kd = 5 then some (164, [.ptr o 0]) else if kd = 6 then some (165, [.ptr o 0])
 else if kd = 7 ∨ kd = 8 then some (166, [.ptr o 0]) else if kd = 3 then some (167, [.ptr o 0]) else if kd = 4 then some (168, [.ptr o 0]) else if kd = 12 then some (169, [.ptr o 0]) else none
def fAV : Option (FuncId × List AV) → AV
 | some (f, a) => .func (.func f) a []
 | none => .nilFunc
theorem kinds_find (o : Nat) (inF : Bool) (kd : Int) : ∃ x, findA .int (vi kd) (kindsM o inF) 0 = some x ∧ x.isSome = (fOf o inF kd).isSome ∧ (x.map (·.2)).getD .nilFunc = fAV (fOf o inF kd) := by
 by_cases h : kd = 1 ∨ kd = 2 ∨ kd = 3 ∨ kd = 4 ∨ kd = 5 ∨ kd = 6 ∨ kd = 7 ∨ kd = 8 ∨ kd = 9 ∨ kd = 10 ∨ kd = 11 ∨ kd = 12
 ·rcases h with rfl | rfl | rfl | rfl | rfl | rfl | rfl | rfl | rfl | rfl | rfl | rfl <;> cases inF
  all_goals
   simp [kindsM, kindsJ, kinds0, fnAV, findA, leafEq, fOf, fAV]
 ·simp only [not_or] at h
  obtain ⟨h1, h2, h3, h4, h5, h6, h7, h8, h9, h10, h11, h12⟩ := h
  have b1 : (kd == 1) = false := by simpa using h1
  have b2 : (kd == 2) = false := by simpa using h2
  have b3 : (kd == 3) = false := by simpa using h3
  have b4 : (kd == 4) = false := by simpa using h4
  have b5 : (kd == 5) = false := by simpa using h5
  have b6 : (kd == 6) = false := by simpa using h6
  have b7 : (kd == 7) = false := by simpa using h7
  have b8 : (kd == 8) = false := by simpa using h8
  have b9 : (kd == 9) = false := by simpa using h9
  have b10 : (kd == 10) = false := by simpa using h10
  have b11 : (kd == 11) = false := by simpa using h11
  have b12 : (kd == 12) = false := by simpa using h12
  cases inF
  all_goals
   simp [kindsM, kindsJ, kinds0, fnAV, findA, leafEq, fOf, fAV, b1, b2, b3, b4, b5, b6, b7, b8, b9, b10, b11, b12, h1, h2, h3, h4, h5, h6, h7, h8, h9, h10, h11, h12]
theorem stmt_c {k : Ke} {inF : Bool} (s : Sm) (har : s.ar) (hb : ScopeC w0 base k inF s.body) (he : ScopeC w0 base k inF s.els) {o : Nat} {f : FuncId} {a : List AV} (hf : fOf o inF s.kind = some (f, a))
   {st : St} {mo : Nat} {sc : Scope} {lp : Int} (hin : InR k sc) (hlp : IntKind.i64.wrap lp = lp) (h : Sees st o mo k sc inF lp) :
   Det Tryz.prog w0 base f (a ++ [.agg s.cells]) st (vi (stmtT k inF s lp sc).2) (st.put mo (.map (stmtT k inF s lp sc).1.enc)) := by
  have hx : s.x.ar := by cases s; simp only [Sm.ar] at har; exact har.1
  have hy : s.y.ar := by cases s; simp only [Sm.ar] at har; exact har.2.1
  have hps := put_self h.map
  have c1 := fun hin => d162 (w0 := w0) (base := base) hin h s hx
  have c2 := d163 (w0 := w0) (base := base) hin h s hx
  have c3 := d164 s hb he hin hlp h hx
  have c4 := d165 s hb hin hlp h hx
  have c5 := d166 (w0 := w0) (base := base) h s
  have c6 := d167 (w0 := w0) (base := base) hin h s hx hy
  have c7 := d168 (w0 := w0) (base := base) hin h s hx hy
  have c8 := d169 (w0 := w0) (base := base) hin h s hx hy
  have c9 := d170 (w0 := w0) (base := base) st s
  obtain ⟨kd, op, ty, bd, nm, x, y, body, els⟩ := s
  simp only [Sm.kind, Sm.x, Sm.y, Sm.name, Sm.op, Sm.typ, Sm.bound, Sm.body, Sm.els] at *
  simp only [stmtT]
  unfold fOf at hf
  repeat' split at hf
  all_goals first
    | (cases hf; done)
    | (cases hf; simp_all only [if_true, if_false, true_and, or_true, true_or, List.cons_append, List.nil_append, forall_const])
theorem fOf_bare {o : Nat} {inF : Bool} {kd : Int} {f : FuncId} {a : List AV} (h : fOf o inF kd = some (f, a)) : AV.bareL a = a := by
 unfold fOf at h
 repeat' split at h
 all_goals first
  | (cases h; done)
  | (cases h; simp [AV.bareL, AV.bare])
theorem listT_drop (k : Ke) (inF : Bool) (l : List Sm) (lp : Int) (sc : Scope) (j : Nat) (y : Sm) (h : l[j]? = some y) :
  listT k inF (l.drop j) lp sc = if (stmtT k inF y lp sc).2 ≠ 0 then stmtT k inF y lp sc else listT k inF (l.drop (j + 1)) lp (stmtT k inF y lp sc).1 := by
 obtain ⟨hlt, e⟩ := List.getElem?_eq_some_iff.1 h
 rw [List.drop_eq_getElem_cons hlt, e]
 simp only [listT]
theorem stmtT_none {k : Ke} {inF : Bool} {s : Sm} {o : Nat} (h : fOf o inF s.kind = none) (lp : Int) (sc : Scope) : stmtT k inF s lp sc = (sc, 0) := by
 obtain ⟨kd, op, ty, bd, nm, x, y, body, els⟩ := s
 simp only [Sm.kind] at h
 simp only [stmtT]
 unfold fOf at h
 repeat' split at h
 all_goals
  first
  | (cases h; done)
  | (simp [*]; intro hi; simp_all)
theorem list_of {k : Ke} {inF : Bool} {l : List Sm} (har : arS l) (hs : ∀ s ∈ l, ScopeC w0 base k inF s.body ∧ ScopeC w0 base k inF s.els) : ListC w0 base k inF l := by
 intro st o mo sc lp hin hlp h
 refine wq (zp Tryz.func91 r91) h.map fun hwf hfit => z6 Tryz.func91 r91 rfl ?_
 have hlen : l.length ≤ big := hfit.2.1.1
 unfold big at hlen
 clear hfit
 have hO := xy hwf h.map
 have g1 := hwf _ _ h.obj
 have g2 := hwf _ _ h.map
 have hne := h.ne
 have hrow := fun j x => @yg _ Sm.cells 19 Sm.cells_len l j x
 have hle := fun j x => @ye _ Sm.cells 19 Sm.cells_len l j x
 have bl := Sm.bare_cellsL l
 rw [Sm.cellsL_row] at *
 generalize rowOf Sm.cells l = ca at *
 generalize hR : listT k inF l lp sc = R
 unfold b91
 simp -dsimp -implicitDefEqProofs
 refine yu (w136 (zk hwf) (h.bump _)) (by simp [AV.bareL, AV.bare]) ?_
 rintro v s1 ⟨q, rfl, hM⟩
 have hq := hM.ge
 have hq' : st.next ≤ q := Nat.le_trans (Nat.le_add_right _ _) hq
 have hO1 : Own st mo (.map sc.enc) s1 := by
  refine ⟨fun p x hx => ?_, ?_, g2, ?_, fun p h1 h2 => ?_⟩
  ·by_cases hp : p = q
   ·rw [hp]; exact hM.lt
   ·rw [hM.old p hp] at hx
    have := hwf _ _ hx
    have := hM.lt
    omega
  ·have := hM.lt
   omega
  ·rw [hM.old mo (by omega)]; exact h.map
  ·rw [hM.old p (by omega)]; rfl
 simp -dsimp -implicitDefEqProofs
 refine y1 (d := 16) (x := 15) (n := 14) (y := 34) l.length (fun j e s => ∃ sc', InR k sc' ∧ R = listT k inF (l.drop j) lp sc' ∧ Own st mo (.map sc'.enc) s ∧ s.objs q = some (.map (kindsM o inF))) hlen (by simp) (by simp) ⟨sc, hin, by simp [hR], z8 hO1 _, hM.at_⟩ rfl (fun j e e' s k h _ => ?_) ?_ ?_
 ·obtain ⟨sc', h1, h2, h3, h4⟩ := h
  exact ⟨sc', h1, h2, z8 h3 k, h4⟩
 ·rintro j e s hj hf hx ⟨sc', hin', hR', hO', hq1⟩
  have e13 : e 13 = .sl ca l.length .no := by rw [hf 13 rfl]; simp
  have e0 : e 0 = .ptr o 0 := by rw [hf 0 rfl]; simp
  have e5 : e 5 = .map q := by rw [hf 5 rfl]; simp
  obtain ⟨y, hy⟩ : ∃ y, l[j]? = some y := ⟨_, List.getElem?_eq_getElem hj⟩
  have hr := hrow j y hy
  have hl' := hle j y hy
  have hd := listT_drop k inF l lp sc' j y hy
  have hmem := List.mem_of_getElem? hy
  have hyb := Sm.bare_cells y
  obtain ⟨x, hx1, hx2, hx3⟩ := kinds_find o inF y.kind
  have q0 := zj hO'.wf
  have qq := zf hO'.wf
  have hsees : Sees s o mo k sc' inF lp := ⟨by rw [hO'.old o g1 hne]; exact h.obj, hO'.at_⟩
  have hcall := fun f a (hf : fOf o inF y.kind = some (f, a)) n => stmt_c (w0 := w0) (base := base) y (arS_mem har y hmem) (hs y hmem).1 (hs y hmem).2 hf hin' hlp (hsees.bump n)
  have hnone := fun (hf : fOf o inF y.kind = none) => stmtT_none (k := k) hf lp sc'
  have hin2 := InR_stmt hin' inF y lp
  rw [hR', hd]
  generalize stmtT k inF y lp sc' = S at *
  obtain ⟨sc2, g⟩ := S
  obtain ⟨kd, op, ty, bd, nm, ⟨xk, xo, xt, xn, xv, xa⟩, ⟨yk, yo, yt, yn, yv, ya⟩, body, els⟩ := y
  simp only [Sm.cells, Ex.cells, List.cons_append, List.nil_append, Sm.kind] at *
  rcases hfo : fOf o inF kd with _ | ⟨f, a⟩
  ·have hS := hnone hfo
   simp only [Prod.mk.injEq] at hS
   obtain ⟨rfl, rfl⟩ := hS
   rw [hfo] at hx2 hx3
   simp only [fAV, Option.isSome_none] at hx2 hx3
   simp -dsimp -implicitDefEqProofs [e13, e0, e5, hx, hj, hr, hl', q0, qq, zz, hq1, hx1, hx2, hx3]
   exact hold ⟨sc2, hin', by simp, z8 (z8 hO' _) _, hq1⟩
  ·rw [hfo] at hx2 hx3
   simp only [fAV, Option.isSome_some] at hx2 hx3
   simp -dsimp -implicitDefEqProofs [e13, e0, e5, hx, hj, hr, hl', q0, qq, zz, hq1, hx1, hx2, hx3]
   refine zo (hcall f a hfo 19) (by simp only [zm, fOf_bare hfo]; simp [AV.bareL, AV.bare] at hyb ⊢; exact hyb) ?_
   simp -dsimp -implicitDefEqProofs
   have hO2 := x8 (z8 hO' 19) (.map sc2.enc)
   refine Br_iff (fun hb => ?_) (fun hb => ?_)
   ·have hg : g ≠ 0 := by simpa using hb
    simp -dsimp -implicitDefEqProofs
    rw [if_neg hg]
    exact vy hwf (x8 (z8 hO' 23) _) (map_under _ _) (by simp [eraseA])
   ·have hg : g = 0 := by simpa using hb
    subst hg
    simp -dsimp -implicitDefEqProofs
    refine hold ⟨sc2, hin2, by simp, ?_, ?_⟩
    ·exact z8 hO2 _
    ·have : q ≠ mo := by omega
     simp [this, hq1]
 ·rintro e s hf ⟨sc', hin', hR', hO', hq1⟩
  have hRe : R = (sc', 0) := by rw [hR']; simp [listT]
  subst hRe
  simp -dsimp -implicitDefEqProofs
  exact vy hwf (z8 hO' _) (map_under _ _) (by simp [eraseA])
theorem scopes_of {k : Ke} {inF : Bool} : ∀ s : Sm, s.ar → ScopeC w0 base k inF s.body ∧ ScopeC w0 base k inF s.els := by
 refine Sm.ind ?_
 intro kd op ty bd nm x y body els hb he har
 simp only [Sm.ar] at har
 exact ⟨scope_of (list_of har.2.2.1 fun s hs => hb s hs (arS_mem har.2.2.1 s hs)), scope_of (list_of har.2.2.2 fun s hs => he s hs (arS_mem har.2.2.2 s hs))⟩
theorem lists_of {k : Ke} {inF : Bool} {l : List Sm} (har : arS l) : ListC w0 base k inF l := list_of har fun s hs => scopes_of s (arS_mem har s hs)
end
section
variable {w0 : World} {base : Nat}
def powS (s : Int) : Bool := s == 1 || s == 2 || s == 4 || s == 8 || s == 16 || s == 32
def numP (g s : Int) : Bool := decide (1 ≤ g) && decide (g ≤ 256) && decide (1 ≤ s) && decide (s ≤ 32) && powS s && decide (g.tmod s = 0)
def lenP (a : Ar) : Bool := decide (1 ≤ a.len) && decide (a.len ≤ 4096)
def numbersP (k : Ke) : Bool := numP k.group k.sub && k.arrays.all lenP
theorem pow_and : ∀ n : Nat, n < 33 → 1 ≤ n → (IntKind.i64.wrap ↑(((n : Int) % 2 ^ IntKind.i64.bits).toNat &&& (IntKind.i64.wrap ((n : Int) - 1) % 2 ^ IntKind.i64.bits).toNat) != 0) = !powS n := by decide
theorem d62 (st : St) (k : Ke) : Det Tryz.prog w0 base 62 [.agg k.cells] st (.bool (numbersP k)) st := by
 refine zh (zp Tryz.func62 r62) fun hwf hfit => z6 Tryz.func62 r62 rfl ?_
 have hn0 := zj hwf
 have hn := zf hwf
 obtain ⟨nm, g, s, ars, ps, fs, body⟩ := k
 have hlen : ars.length ≤ big := by
  have := hfit.1
  simp only [Ke.cells, AV.fit, AV.fitL] at this
  exact this.2.2.2.1.1
 unfold big at hlen
 clear hfit
 have hrow := fun j x => @yg _ Ar.cells 4 Ar.cells_len ars j x
 have hle := fun j x => @ye _ Ar.cells 4 Ar.cells_len ars j x
 simp only [Ke.cells, numbersP]
 generalize rowOf Ar.cells ars = ca at *
 have bad : numP g s = false → ∀ n, Fin st (st.bump n) (.bool false) (.bool (numP g s && ars.all lenP)) st := by
  intro h n
  exact zn hwf (by simp [h, eraseA])
 generalize hX : AV.bool (numP g s && ars.all lenP) = X at *
 unfold b62
 by_cases c1 : g < 1
 ·simp -dsimp -implicitDefEqProofs [hn0, hn, zz, c1]
  exact bad (by simp [numP]; omega) _
 ·by_cases c2 : 256 < g
  ·simp -dsimp -implicitDefEqProofs [hn0, hn, zz, c1, c2]
   exact bad (by simp [numP]; omega) _
  ·by_cases c3 : s < 1
   ·simp -dsimp -implicitDefEqProofs [hn0, hn, zz, c1, c2, c3]
    exact bad (by simp [numP]; omega) _
   ·by_cases c4 : 32 < s
    ·simp -dsimp -implicitDefEqProofs [hn0, hn, zz, c1, c2, c3, c4]
     exact bad (by simp [numP]; omega) _
    ·have hpow : (IntKind.i64.wrap ↑((s % 2 ^ IntKind.i64.bits).toNat &&& (IntKind.i64.wrap (s - 1) % 2 ^ IntKind.i64.bits).toNat) != 0) = !powS s := by
      obtain ⟨n, hsn⟩ : ∃ n : Nat, s = n := ⟨s.toNat, by omega⟩
      have := pow_and n (by omega) (by omega)
      rw [← hsn] at this
      exact this
     have hs0 : (s == 0) = false := by simp; omega
     have hs1 : ¬ s = 0 := by omega
     cases hp : powS s
     ·rw [hp] at hpow
      simp -dsimp -implicitDefEqProofs [hn0, hn, zz, c1, c2, c3, c4, hpow]
      exact bad (by simp [numP, hp]) _
     ·rw [hp] at hpow
      simp -dsimp -implicitDefEqProofs [hn0, hn, zz, c1, c2, c3, c4, hpow, hs0, hs1]
      refine Br_iff (fun hb => ?_) (fun hb => ?_)
      ·have hg : ¬ g.tmod s = 0 := by simpa using hb
       simp -dsimp -implicitDefEqProofs
       exact bad (by simp [numP, hg]) _
      ·have hg : g.tmod s = 0 := by simpa using hb
       have hN : numP g s = true := by simp [numP, hg, hp]; omega
       have hX' : X = .bool (ars.all lenP) := by rw [← hX, hN]; simp
       clear bad hX
       subst hX'
       simp -dsimp -implicitDefEqProofs
       refine y1 (d := 44) (x := 43) (n := 42) (y := 55) ars.length (fun j e s => (ars.take j).all lenP = true ∧ Akin st s) hlen (by simp) (by simp) ⟨by simp, Akin.refl _ _⟩ rfl (fun j e e' s k h _ => ⟨h.1, h.2.bump k⟩) ?_ ?_
       ·rintro j e s hj hf hx ⟨hI, hs⟩
        have e41 : e 41 = .sl ca ars.length .no := by rw [hf 41 rfl]; simp
        obtain ⟨y, hy⟩ : ∃ y, ars[j]? = some y := ⟨_, List.getElem?_eq_getElem hj⟩
        have hr := hrow j y hy
        have hl := hle j y hy
        have q0 := hs.fresh0 hwf
        have q := hs.fresh hwf
        have hmem := List.mem_of_getElem? hy
        have hstep : (ars.take (j + 1)).all lenP = lenP y := by
         rw [List.take_add_one, hy, List.all_append, hI]; simp
        obtain ⟨yn, ysp, yt, yl⟩ := y
        simp only [Ar.cells] at hr
        by_cases d1 : yl < 1
        ·simp -dsimp -implicitDefEqProofs [e41, hx, hj, hr, hl, q0, q, zz, d1]
         refine (hs.bump _).fin hwf ?_
         have : ars.all lenP = false := by
          rw [List.all_eq_false]; exact ⟨_, hmem, by simp [lenP]; omega⟩
         simp [eraseA, this]
        ·by_cases d2 : 4096 < yl
         ·simp -dsimp -implicitDefEqProofs [e41, hx, hj, hr, hl, q0, q, zz, d1, d2]
          refine (hs.bump _).fin hwf ?_
          have : ars.all lenP = false := by
           rw [List.all_eq_false]; exact ⟨_, hmem, by simp [lenP]; omega⟩
          simp [eraseA, this]
         ·simp -dsimp -implicitDefEqProofs [e41, hx, hj, hr, hl, q0, q, zz, d1, d2]
          refine hold ⟨hstep.trans (by simp [lenP]; omega), ⟨by simp [hs.objs], by have := hs.le; simp; omega⟩⟩
       ·rintro e s hf ⟨hI, hs⟩
        simp -dsimp -implicitDefEqProofs
        refine (hs.bump _).fin hwf ?_
        rw [List.take_length] at hI
        simp [eraseA, hI]
end
section
variable {w0 : World} {base : Nat}
abbrev Decl := Str × Thing
def declL (sc : Scope) (ok : Bool) : List Decl → Scope × Bool
 | [] => (sc, ok)
 | x :: l => declL (declP sc x.1 x.2).1 ((declP sc x.1 x.2).2 && ok) l
theorem wm (a b : List Decl) : ∀ (sc : Scope) (ok : Bool), declL sc ok (a ++ b) = declL (declL sc ok a).1 (declL sc ok a).2 b := by
 induction a with
 | nil => exact fun _ _ => rfl
 | cons x a ih => exact fun sc ok => ih _ _
def arrT (l : List Ar) : List Decl := l.zipIdx.map fun x => (x.1.name, ⟨0, x.1.typ, x.2⟩)
def parT (l : List Pa) : List Decl := l.map fun x => (x.name, ⟨2, x.typ, 0⟩)
def funT (l : List Fu) : List Decl := l.zipIdx.map fun x => (x.1.name, ⟨1, x.1.typ, x.2⟩)
theorem arrT_take (l : List Ar) (j : Nat) (y : Ar) (h : l[j]? = some y) : arrT (l.take (j + 1)) = arrT (l.take j) ++ [(y.name, ⟨0, y.typ, j⟩)] := by
 obtain ⟨hlt, _⟩ := List.getElem?_eq_some_iff.1 h
 unfold arrT
 rw [List.take_add_one, h, List.zipIdx_append, List.map_append]
 simp [Nat.min_eq_left (Nat.le_of_lt hlt)]
theorem parT_take (l : List Pa) (j : Nat) (y : Pa) (h : l[j]? = some y) : parT (l.take (j + 1)) = parT (l.take j) ++ [(y.name, ⟨2, y.typ, 0⟩)] := by
 unfold parT
 rw [List.take_add_one, h, List.map_append]
 simp
theorem funT_take (l : List Fu) (j : Nat) (y : Fu) (h : l[j]? = some y) : funT (l.take (j + 1)) = funT (l.take j) ++ [(y.name, ⟨1, y.typ, j⟩)] := by
 obtain ⟨hlt, _⟩ := List.getElem?_eq_some_iff.1 h
 unfold funT
 rw [List.take_add_one, h, List.zipIdx_append, List.map_append]
 simp [Nat.min_eq_left (Nat.le_of_lt hlt)]
def Fits (k : Ke) (t : Thing) : Prop := (t.kind = 0 → 0 ≤ t.at_ ∧ t.at_ < k.arrays.length) ∧ (t.kind = 1 → 0 ≤ t.at_ ∧ t.at_ < k.funcs.length)
theorem InR_declL {k : Ke} : ∀ (l : List Decl) (sc : Scope) (ok : Bool), (∀ x ∈ l, Fits k x.2) → InR k sc → InR k (declL sc ok l).1
 | [], _, _, _, h => h
 | x :: l, sc, ok, hl, h => InR_declL l _ _ (fun y hy => hl y (List.mem_cons_of_mem _ hy)) (InR_decl h x.1 x.2 (hl x (by simp)))
theorem InR_nil (k : Ke) : InR k [] := by intro n t h; simp at h
theorem fits_arr (k : Ke) : ∀ x ∈ arrT k.arrays, Fits k x.2 := by
 intro x hx
 simp only [arrT, List.mem_map] at hx
 obtain ⟨y, hy, rfl⟩ := hx
 have := (List.mem_zipIdx hy).2.1
 simp [Fits]; omega
theorem fits_fun (k : Ke) (n : Nat) : ∀ x ∈ funT (k.funcs.take n), Fits k x.2 := by
 intro x hx
 simp only [funT, List.mem_map] at hx
 obtain ⟨y, hy, rfl⟩ := hx
 have := (List.mem_zipIdx hy).2.1
 simp [Fits]; simp at this; omega
theorem fits_par (k : Ke) (l : List Pa) : ∀ x ∈ parT l, Fits k x.2 := by
 intro x hx
 simp only [parT, List.mem_map] at hx
 obtain ⟨y, hy, rfl⟩ := hx
 simp [Fits]
def globalsP (k : Ke) : Scope × Bool := declL [] true (arrT k.arrays ++ parT k.params ++ funT k.funcs)
theorem InR_globals (k : Ke) : InR k (globalsP k).1 := by
 refine InR_declL _ _ _ (fun x hx => ?_) (InR_nil k)
 rcases List.mem_append.1 hx with hx | hx
 ·rcases List.mem_append.1 hx with hx | hx
  ·exact fits_arr k x hx
  ·exact fits_par k _ x hx
 ·exact fits_fun k k.funcs.length x (by rwa [List.take_length])
structure NewC (st : St) (o mo : Nat) (k : Ke) (sc : Scope) (inF : Bool) (s : St) : Prop where
 wf : s.wf
 next : st.next ≤ s.next
 ge : st.next ≤ o
 ge' : st.next ≤ mo
 sees : Sees s o mo k sc inF 0
 old : ∀ p, p < st.next → s.objs p = st.objs p
theorem NewC.bump {st s : St} {o mo : Nat} {k : Ke} {sc : Scope} {inF : Bool} (h : NewC st o mo k sc inF s) (n : Nat) : NewC st o mo k sc inF (s.bump n) :=
 ⟨zk h.wf, Nat.le_trans h.next (Nat.le_add_right _ _), h.ge, h.ge', h.sees.bump n, h.old⟩
theorem NewC.put {st s : St} {o mo : Nat} {k : Ke} {sc : Scope} {inF : Bool} (h : NewC st o mo k sc inF s) (sc' : Scope) : NewC st o mo k sc' inF (s.put mo (.map sc'.enc)) := by
 have hl := h.wf _ _ h.sees.map
 have hne := h.sees.ne
 have hg := h.ge'
 refine ⟨zb h.wf hl, h.next, h.ge, h.ge', ⟨by rw [yh, if_neg hne]; exact h.sees.obj, by simp⟩, fun p hp => ?_⟩
 rw [yh, if_neg (by omega)]
 exact h.old p hp
theorem new_call {st s : St} {o mo : Nat} {k : Ke} {sc : Scope} {inF : Bool} {K : AV → St → Prop} {l : Lock K} (h : NewC st o mo k sc inF s) (n : Str) (t : Thing) {args : List AV} (e : AV.bareL args = [.ptr o 0, .str n, .agg t.cells])
  (hk : ∀ s' : St, s'.objs s'.next = none → (∀ k, s'.objs (s'.next + k) = none) → NewC st o mo k (declP sc n t).1 inF s' → K (.bool (declP sc n t).2) s') : CallL Tryz.prog w0 base 90 args s K l := by
 have q := h.put (declP sc n t).1
 exact zo (d90 h.sees n t) e (hk _ (zj q.wf) (zf q.wf) q)
def GlobR (st : St) (k : Ke) (v : AV) (s : St) : Prop :=
 ((globalsP k).2 = true ∧ ∃ o mo, v = .tuple [.ptr o 0, vi 0] ∧ NewC st o mo k (globalsP k).1 false s) ∨
 ((globalsP k).2 = false ∧ v = .tuple [.nilp, vi 30] ∧ s.wf ∧ st.next ≤ s.next ∧ ∀ p, p < st.next → s.objs p = st.objs p)
theorem w63 {st : St} (hwf : st.wf) (k : Ke) (ha : k.arrays.length ≤ 140737488355328) (hp : k.params.length ≤ 140737488355328) (hf : k.funcs.length ≤ 140737488355328) :
   CallW Tryz.prog w0 base 63 [.agg k.cells] st (GlobR st k) := by
  refine za Tryz.func63 r63 rfl ?_
  have hn0 := zj hwf
  have hn := zf hwf
  have hrow := fun j x => @yg _ Ar.cells 4 Ar.cells_len k.arrays j x
  have hle := fun j x => @ye _ Ar.cells 4 Ar.cells_len k.arrays j x
  have hrow2 := fun j x => @yg _ Pa.cells 2 Pa.cells_len k.params j x
  have hle2 := fun j x => @ye _ Pa.cells 2 Pa.cells_len k.params j x
  have hrow3 := fun j x => @yg _ Fu.cells 10 Fu.cells_len k.funcs j x
  have hle3 := fun j x => @ye _ Fu.cells 10 Fu.cells_len k.funcs j x
  simp only [Ke.cells]
  have hN0 : ∀ n, NewC st (st.next + 6) (st.next + 4) k [] false ((((st.bump 13).put (st.next + 4) (.map [])).put (st.next + 6) (.cells 107 [.str k.name, .int .i64 k.group, .int .i64 k.sub, .sl (rowOf Ar.cells k.arrays) k.arrays.length .no, .sl (rowOf Pa.cells k.params) k.params.length .no, .sl (rowOf Fu.cells k.funcs) k.funcs.length .no, .sl (Sm.cellsL k.body) k.body.length .no, .map (st.next + 4), .bool false, .int .i64 0])).bump n) := by
    intro n
    refine NewC.bump ⟨zb (zb (zk hwf) (by simp)) (by simp), by simp, by simp, by simp, ⟨by simp; rfl, by simp [Scope.enc]⟩, fun p hp => by simp [hp, zx, zy]⟩ n
  unfold b63
  simp -dsimp -implicitDefEqProofs [hn0, hn, zz]
  refine y1 (d := 20) (x := 19) (n := 18) (y := 35) k.arrays.length (fun j e s => e 5 = .bool (declL [] true (arrT (k.arrays.take j))).2 ∧ NewC st (st.next + 6) (st.next + 4) k (declL [] true (arrT (k.arrays.take j))).1 false s) ha (by simp) (by simp) ⟨by simp [arrT, declL], by simpa [arrT, declL] using hN0 0⟩ rfl (fun j e e' s k h he => ⟨(he 5 (by decide) (by decide) (by decide)).trans h.1, h.2.bump k⟩) ?_ ?_
  · rintro j e s hj hf hx ⟨hok, hI⟩
    have esl : e 17 = .sl (rowOf Ar.cells k.arrays) k.arrays.length .no := by rw [hf 17 rfl]; simp
    have e4 : e 4 = .ptr (st.next + 6) 0 := by rw [hf 4 rfl]; simp
    obtain ⟨y, hy⟩ : ∃ y, k.arrays[j]? = some y := ⟨_, List.getElem?_eq_getElem hj⟩
    have hr := hrow j y hy
    have hl := hle j y hy
    have q0 := zj hI.wf
    have q := zf hI.wf
    rw [arrT_take _ j y hy, wm]
    generalize declL [] true (arrT (k.arrays.take j)) = D at *
    obtain ⟨sc, ok⟩ := D
    simp only [declL] at *
    obtain ⟨yn, ysp, yt, yl⟩ := y
    simp only [Ar.cells] at hr
    simp -dsimp -implicitDefEqProofs [esl, e4, hok, hx, hj, hr, hl, q0, q, zz]
    refine new_call (hI.bump _) yn ⟨0, yt, j⟩ (by simp [AV.bareL, AV.bare, Thing.cells]) fun s2 r0 r hI2 => ?_
    generalize declP sc yn ⟨0, yt, j⟩ = D2 at *
    obtain ⟨sc2, ok2⟩ := D2
    cases ok2
    · simp -dsimp -implicitDefEqProofs [esl, e4, hok, hx, hj, r0, r, zz]
      exact hold ⟨by simp, by simpa using hI2⟩
    · simp -dsimp -implicitDefEqProofs [esl, e4, hok, hx, hj, r0, r, zz]
      exact hold ⟨by simp, by simpa using hI2⟩
  · rintro e s hf1 ⟨hok1, hI1⟩
    have e11 : e 1 = (.iptr [.str k.name, .int .i64 k.group, .int .i64 k.sub, .sl (rowOf Ar.cells k.arrays) k.arrays.length .no, .sl (rowOf Pa.cells k.params) k.params.length .no, .sl (rowOf Fu.cells k.funcs) k.funcs.length .no, .sl (Sm.cellsL k.body) k.body.length .no] 0) := by rw [hf1 1 rfl]; simp
    have e41 : e 4 = .ptr (st.next + 6) 0 := by rw [hf1 4 rfl]; simp
    rw [List.take_length] at hok1 hI1
    simp -dsimp -implicitDefEqProofs [e11, e41]
    refine range_at (ei := 2) (bi := 3) (d := 40) (x := 39) (n := 38) (y := 53) k.params.length (fun j e s => e 5 = .bool (declL [] true (arrT k.arrays ++ parT (k.params.take j))).2 ∧ NewC st (st.next + 6) (st.next + 4) k (declL [] true (arrT k.arrays ++ parT (k.params.take j))).1 false s) hp (by simp) (by simp) ⟨by simp [parT, declL, hok1], by simpa [parT, declL] using NewC.bump hI1 4⟩ rfl (fun j e e' s k h he => ⟨(he 5 (by decide) (by decide) (by decide)).trans h.1, h.2.bump k⟩) ?_ ?_
    · rintro j e s hj hf hx ⟨hok, hI⟩
      have esl : e 37 = .sl (rowOf Pa.cells k.params) k.params.length .no := by rw [hf 37 rfl]; simp [e11, e41]
      have e4 : e 4 = .ptr (st.next + 6) 0 := by rw [hf 4 rfl]; simp [e11, e41]
      obtain ⟨y, hy⟩ : ∃ y, k.params[j]? = some y := ⟨_, List.getElem?_eq_getElem hj⟩
      have hr := hrow2 j y hy
      have hl := hle2 j y hy
      have q0 := zj hI.wf
      have q := zf hI.wf
      rw [parT_take _ j y hy, ← List.append_assoc, wm]
      generalize declL [] true (arrT k.arrays ++ parT (k.params.take j)) = D at *
      obtain ⟨sc, ok⟩ := D
      simp only [declL] at *
      obtain ⟨yn, yt⟩ := y
      simp only [Pa.cells] at hr
      simp -dsimp -implicitDefEqProofs [esl, e4, hok, hx, hj, hr, hl, q0, q, zz]
      refine new_call (hI.bump _) yn ⟨2, yt, 0⟩ (by simp [AV.bareL, AV.bare, Thing.cells]) fun s2 r0 r hI2 => ?_
      generalize declP sc yn ⟨2, yt, 0⟩ = D2 at *
      obtain ⟨sc2, ok2⟩ := D2
      cases ok2
      · simp -dsimp -implicitDefEqProofs [esl, e4, hok, hx, hj, r0, r, zz]
        exact hold ⟨by simp, by simpa using hI2⟩
      · simp -dsimp -implicitDefEqProofs [esl, e4, hok, hx, hj, r0, r, zz]
        exact hold ⟨by simp, by simpa using hI2⟩
    · rintro e s hf2 ⟨hok2, hI2⟩
      have e12 : e 1 = (.iptr [.str k.name, .int .i64 k.group, .int .i64 k.sub, .sl (rowOf Ar.cells k.arrays) k.arrays.length .no, .sl (rowOf Pa.cells k.params) k.params.length .no, .sl (rowOf Fu.cells k.funcs) k.funcs.length .no, .sl (Sm.cellsL k.body) k.body.length .no] 0) := by rw [hf2 1 rfl]; simp [e11, e41]
      have e42 : e 4 = .ptr (st.next + 6) 0 := by rw [hf2 4 rfl]; simp [e11, e41]
      rw [List.take_length] at hok2 hI2
      simp -dsimp -implicitDefEqProofs [e12, e42]
      refine range_at (ei := 4) (bi := 5) (d := 58) (x := 57) (n := 56) (y := 73) k.funcs.length (fun j e s => e 5 = .bool (declL [] true (arrT k.arrays ++ parT k.params ++ funT (k.funcs.take j))).2 ∧ NewC st (st.next + 6) (st.next + 4) k (declL [] true (arrT k.arrays ++ parT k.params ++ funT (k.funcs.take j))).1 false s) hf (by simp) (by simp) ⟨by simp [funT, declL, hok2], by simpa [funT, declL] using NewC.bump hI2 4⟩ rfl (fun j e e' s k h he => ⟨(he 5 (by decide) (by decide) (by decide)).trans h.1, h.2.bump k⟩) ?_ ?_
      · rintro j e s hj hf hx ⟨hok, hI⟩
        have esl : e 55 = .sl (rowOf Fu.cells k.funcs) k.funcs.length .no := by rw [hf 55 rfl]; simp [e12, e42]
        have e4 : e 4 = .ptr (st.next + 6) 0 := by rw [hf 4 rfl]; simp [e12, e42]
        obtain ⟨y, hy⟩ : ∃ y, k.funcs[j]? = some y := ⟨_, List.getElem?_eq_getElem hj⟩
        have hr := hrow3 j y hy
        have hl := hle3 j y hy
        have q0 := zj hI.wf
        have q := zf hI.wf
        rw [funT_take _ j y hy, ← List.append_assoc, wm]
        generalize declL [] true (arrT k.arrays ++ parT k.params ++ funT (k.funcs.take j)) = D at *
        obtain ⟨sc, ok⟩ := D
        simp only [declL] at *
        obtain ⟨yn, yps, yt, yb, ⟨rk, ro, rt, rn, rv, ra⟩⟩ := y
        simp only [Fu.cells, Ex.cells, List.cons_append, List.nil_append] at hr
        simp -dsimp -implicitDefEqProofs [esl, e4, hok, hx, hj, hr, hl, q0, q, zz]
        refine new_call (hI.bump _) yn ⟨1, yt, j⟩ (by simp [AV.bareL, AV.bare, Thing.cells]) fun s2 r0 r hI2 => ?_
        generalize declP sc yn ⟨1, yt, j⟩ = D2 at *
        obtain ⟨sc2, ok2⟩ := D2
        cases ok2
        · simp -dsimp -implicitDefEqProofs [esl, e4, hok, hx, hj, r0, r, zz]
          exact hold ⟨by simp, by simpa using hI2⟩
        · simp -dsimp -implicitDefEqProofs [esl, e4, hok, hx, hj, r0, r, zz]
          exact hold ⟨by simp, by simpa using hI2⟩
      · rintro e s hf3 ⟨hok3, hI3⟩
        have e13 : e 1 = (.iptr [.str k.name, .int .i64 k.group, .int .i64 k.sub, .sl (rowOf Ar.cells k.arrays) k.arrays.length .no, .sl (rowOf Pa.cells k.params) k.params.length .no, .sl (rowOf Fu.cells k.funcs) k.funcs.length .no, .sl (Sm.cellsL k.body) k.body.length .no] 0) := by rw [hf3 1 rfl]; simp [e12, e42]
        have e43 : e 4 = .ptr (st.next + 6) 0 := by rw [hf3 4 rfl]; simp [e12, e42]
        rw [List.take_length] at hok3 hI3
        simp -dsimp -implicitDefEqProofs [e13, e43]
        have hG : globalsP k = declL [] true (arrT k.arrays ++ parT k.params ++ funT k.funcs) := rfl
        unfold GlobR
        rw [hG]
        generalize declL [] true (arrT k.arrays ++ parT k.params ++ funT k.funcs) = D at *
        obtain ⟨sc, ok⟩ := D
        simp only at hok3 hI3
        cases ok
        · simp -dsimp -implicitDefEqProofs [hok3]
          exact hold (.inr ⟨rfl, rfl, (hI3.bump _).wf, (hI3.bump _).next, (hI3.bump _).old⟩)
        · simp -dsimp -implicitDefEqProofs [hok3, e43]
          exact hold (.inl ⟨rfl, _, _, rfl, hI3.bump _⟩)
end
section
variable {w0 : World} {base : Nat}
theorem declL_false (l : List Decl) : ∀ sc : Scope, (declL sc false l).2 = false := by
 induction l with
 | nil => exact fun _ => rfl
 | cons x l ih => intro sc; simp only [declL, Bool.and_false]; exact ih _
def scope0 (k : Ke) (n : Nat) : Scope := (declL [] true (arrT k.arrays ++ funT (k.funcs.take n))).1
def functionT (k : Ke) (n : Nat) (f : Fu) : Int :=
 if (declL (scope0 k n) true (parT f.params)).2 = false then 30 else
 if (listT k true f.body 0 (declL (scope0 k n) true (parT f.params)).1).2 ≠ 0 then (listT k true f.body 0 (declL (scope0 k n) true (parT f.params)).1).2 else
 asT k (listT k true f.body 0 (declL (scope0 k n) true (parT f.params)).1).1 f.ret f.typ
theorem InR_list {k : Ke} (inF : Bool) (l : List Sm) (lp : Int) : ∀ {sc : Scope}, InR k sc → InR k (listT k inF l lp sc).1 := by
 induction l with
 | nil => intro sc h; simpa [listT] using h
 | cons s l ih =>
  intro sc h
  have := InR_stmt h inF s lp
  simp only [listT]
  split
  ·exact this
  ·exact ih this
theorem InR_scope0 (k : Ke) (n : Nat) : InR k (scope0 k n) := by
 refine InR_declL _ _ _ (fun x hx => ?_) (InR_nil k)
 rcases List.mem_append.1 hx with hx | hx
 ·exact fits_arr k x hx
 ·exact fits_fun k n x hx
theorem d64 {st : St} (k : Ke) (ha : k.arrays.length ≤ 140737488355328) (hfl : k.funcs.length ≤ 140737488355328) (m : Nat) (f : Fu) (hm : k.funcs[m]? = some f) (hp : f.params.length ≤ 140737488355328) (hb : arS f.body) (hret : f.ret.ar) :
   Det Tryz.prog w0 base 64 [.agg k.cells, vi m] st (vi (functionT k m f)) st := by
  refine zh (zp Tryz.func64 r64) fun hwf hfit => z6 Tryz.func64 r64 rfl ?_
  clear hfit
  have hn0 := zj hwf
  have hn := zf hwf
  have hlt : m < k.funcs.length := (List.getElem?_eq_some_iff.1 hm).1
  have hrow := fun j x => @yg _ Ar.cells 4 Ar.cells_len k.arrays j x
  have hle := fun j x => @ye _ Ar.cells 4 Ar.cells_len k.arrays j x
  have hrow3 := fun j x => @yg _ Fu.cells 10 Fu.cells_len (k.funcs.take m) j x
  have hle3 := fun j x => @ye _ Fu.cells 10 Fu.cells_len (k.funcs.take m) j x
  have hrow4 := @yg _ Fu.cells 10 Fu.cells_len k.funcs m f hm
  have hle4 := @ye _ Fu.cells 10 Fu.cells_len k.funcs m f hm
  generalize hG : functionT k m f = G
  obtain ⟨fn, ps, ft, fb, fr⟩ := f
  have hrow2 := fun j x => @yg _ Pa.cells 2 Pa.cells_len ps j x
  have hle2 := fun j x => @ye _ Pa.cells 2 Pa.cells_len ps j x
  have hc1 := fun (st : St) (o mo : Nat) (sc : Scope) (hin : InR k sc) (h : Sees st o mo k sc true 0) => lists_of (w0 := w0) (base := base) (inF := true) hb st o mo sc 0 hin (by decide) h
  have hc2 := fun (st : St) (o mo : Nat) (sc : Scope) (hin : InR k sc) (h : Sees st o mo k sc true 0) => d92 (w0 := w0) (base := base) hin h fr hret ft
  have bfb := Sm.bare_cellsL fb
  have bfr := Ex.bare_cells fr
  unfold functionT at hG
  simp only [Ke.cells]
  obtain ⟨rk, ro, rt, rn, rv, ra⟩ := fr
  simp only [Fu.cells, Ex.cells, List.cons_append, List.nil_append] at hrow4 hc2 bfr
  have hN0 : ∀ n, NewC st (st.next + 5) (st.next + 3) k [] true ((((st.bump 11).put (st.next + 3) (.map [])).put (st.next + 5) (.cells 107 [.str k.name, .int .i64 k.group, .int .i64 k.sub, .sl (rowOf Ar.cells k.arrays) k.arrays.length .no, .sl (rowOf Pa.cells k.params) k.params.length .no, .sl (rowOf Fu.cells k.funcs) k.funcs.length .no, .sl (Sm.cellsL k.body) k.body.length .no, .map (st.next + 3), .bool true, .int .i64 0])).bump n) := by
    intro n
    refine NewC.bump ⟨zb (zb (zk hwf) (by simp)) (by simp), by simp, by simp, by simp, ⟨by simp; rfl, by simp [Scope.enc]⟩, fun p hp => by simp [hp, zx, zy]⟩ n
  have htk : (k.funcs.take m).length = m := by simp; omega
  have hlti : (m : Int) ≤ (k.funcs.length : Int) := by omega
  have hlti' : (m : Int) < (k.funcs.length : Int) := by omega
  have hlt' : m ≤ k.funcs.length := by omega
  have hm0 : (0 : Int) ≤ (m : Int) := by omega
  have hm1 : (m : Int) ≤ 9223372036854775807 := by omega
  have hslc := ur (f := Fu.cells) Fu.cells_len k.funcs m
  have hN0 : ∀ n, NewC st (st.next + 5) (st.next + 3) k [] true ((((st.bump 11).put (st.next + 3) (.map [])).put (st.next + 5) (.cells 107 [.str k.name, .int .i64 k.group, .int .i64 k.sub, .sl (rowOf Ar.cells k.arrays) k.arrays.length .no, .sl (rowOf Pa.cells k.params) k.params.length .no, .sl (rowOf Fu.cells k.funcs) k.funcs.length .no, .sl (Sm.cellsL k.body) k.body.length .no, .map (st.next + 3), .bool true, .int .i64 0])).bump n) := by
    intro n
    refine NewC.bump ⟨zb (zb (zk hwf) (by simp)) (by simp), by simp, by simp, by simp, ⟨by simp; rfl, by simp [Scope.enc]⟩, fun p hp => by simp [hp, zx, zy]⟩ n
  have htk : (k.funcs.take m).length = m := by simp; omega
  have hlti : (m : Int) ≤ (k.funcs.length : Int) := by omega
  have hlti' : (m : Int) < (k.funcs.length : Int) := by omega
  have hlt' : m ≤ k.funcs.length := by omega
  have hm0 : (0 : Int) ≤ (m : Int) := by omega
  have hm1 : (m : Int) ≤ 9223372036854775807 := by omega
  have hslc := ur (f := Fu.cells) Fu.cells_len k.funcs m
  have hN0 : ∀ n, NewC st (st.next + 5) (st.next + 3) k [] true ((((st.bump 11).put (st.next + 3) (.map [])).put (st.next + 5) (.cells 107 [.str k.name, .int .i64 k.group, .int .i64 k.sub, .sl (rowOf Ar.cells k.arrays) k.arrays.length .no, .sl (rowOf Pa.cells k.params) k.params.length .no, .sl (rowOf Fu.cells k.funcs) k.funcs.length .no, .sl (Sm.cellsL k.body) k.body.length .no, .map (st.next + 3), .bool true, .int .i64 0])).bump n) := by
    intro n
    refine NewC.bump ⟨zb (zb (zk hwf) (by simp)) (by simp), by simp, by simp, by simp, ⟨by simp; rfl, by simp [Scope.enc]⟩, fun p hp => by simp [hp, zx, zy]⟩ n
  have htk : (k.funcs.take m).length = m := by simp; omega
  have hlti : (m : Int) ≤ (k.funcs.length : Int) := by omega
  have hlti' : (m : Int) < (k.funcs.length : Int) := by omega
  have hlt' : m ≤ k.funcs.length := by omega
  have hm0 : (0 : Int) ≤ (m : Int) := by omega
  have hm1 : (m : Int) ≤ 9223372036854775807 := by omega
  have hslc := ur (f := Fu.cells) Fu.cells_len k.funcs m
  have hrl := x5 (f := Fu.cells) Fu.cells_len k.funcs
  have hN0 : ∀ n, NewC st (st.next + 5) (st.next + 3) k [] true ((((st.bump 11).put (st.next + 3) (.map [])).put (st.next + 5) (.cells 107 [.str k.name, .int .i64 k.group, .int .i64 k.sub, .sl (rowOf Ar.cells k.arrays) k.arrays.length .no, .sl (rowOf Pa.cells k.params) k.params.length .no, .sl (rowOf Fu.cells k.funcs) k.funcs.length .no, .sl (Sm.cellsL k.body) k.body.length .no, .map (st.next + 3), .bool true, .int .i64 0])).bump n) := by
    intro n
    refine NewC.bump ⟨zb (zb (zk hwf) (by simp)) (by simp), by simp, by simp, by simp, ⟨by simp; rfl, by simp [Scope.enc]⟩, fun p hp => by simp [hp, zx, zy]⟩ n
  have htk : (k.funcs.take m).length = m := by simp; omega
  have hlti : (m : Int) ≤ (k.funcs.length : Int) := by omega
  have hlti' : (m : Int) < (k.funcs.length : Int) := by omega
  have hlt' : m ≤ k.funcs.length := by omega
  have hm0 : (0 : Int) ≤ (m : Int) := by omega
  have hm1 : (m : Int) ≤ 9223372036854775807 := by omega
  have hslc := ur (f := Fu.cells) Fu.cells_len k.funcs m
  have hrl := x5 (f := Fu.cells) Fu.cells_len k.funcs
  have hle5 : m * 10 + 10 ≤ k.funcs.length * 10 := by omega
  have hN0 : ∀ n, NewC st (st.next + 5) (st.next + 3) k [] true ((((st.bump 11).put (st.next + 3) (.map [])).put (st.next + 5) (.cells 107 [.str k.name, .int .i64 k.group, .int .i64 k.sub, .sl (rowOf Ar.cells k.arrays) k.arrays.length .no, .sl (rowOf Pa.cells k.params) k.params.length .no, .sl (rowOf Fu.cells k.funcs) k.funcs.length .no, .sl (Sm.cellsL k.body) k.body.length .no, .map (st.next + 3), .bool true, .int .i64 0])).bump n) := by
    intro n
    refine NewC.bump ⟨zb (zb (zk hwf) (by simp)) (by simp), by simp, by simp, by simp, ⟨by simp; rfl, by simp [Scope.enc]⟩, fun p hp => by simp [hp, zx, zy]⟩ n
  have htk : (k.funcs.take m).length = m := by simp; omega
  have hlti : (m : Int) ≤ (k.funcs.length : Int) := by omega
  have hlti' : (m : Int) < (k.funcs.length : Int) := by omega
  have hlt' : m ≤ k.funcs.length := by omega
  have hm0 : (0 : Int) ≤ (m : Int) := by omega
  have hm1 : (m : Int) ≤ 9223372036854775807 := by omega
  have hslc := ur (f := Fu.cells) Fu.cells_len k.funcs m
  have hrl := x5 (f := Fu.cells) Fu.cells_len k.funcs
  have hle5 : m * 10 + 10 ≤ k.funcs.length * 10 := by omega
  have hN0 : ∀ n, NewC st (st.next + 5) (st.next + 3) k [] true ((((st.bump 11).put (st.next + 3) (.map [])).put (st.next + 5) (.cells 107 [.str k.name, .int .i64 k.group, .int .i64 k.sub, .sl (rowOf Ar.cells k.arrays) k.arrays.length .no, .sl (rowOf Pa.cells k.params) k.params.length .no, .sl (rowOf Fu.cells k.funcs) k.funcs.length .no, .sl (Sm.cellsL k.body) k.body.length .no, .map (st.next + 3), .bool true, .int .i64 0])).bump n) := by
    intro n
    refine NewC.bump ⟨zb (zb (zk hwf) (by simp)) (by simp), by simp, by simp, by simp, ⟨by simp; rfl, by simp [Scope.enc]⟩, fun p hp => by simp [hp, zx, zy]⟩ n
  have htk : (k.funcs.take m).length = m := by simp; omega
  have hlti : (m : Int) ≤ (k.funcs.length : Int) := by omega
  have hlti' : (m : Int) < (k.funcs.length : Int) := by omega
  have hlt' : m ≤ k.funcs.length := by omega
  have hm0 : (0 : Int) ≤ (m : Int) := by omega
  have hm1 : (m : Int) ≤ 9223372036854775807 := by omega
  have hslc := ur (f := Fu.cells) Fu.cells_len k.funcs m
  have hrl := x5 (f := Fu.cells) Fu.cells_len k.funcs
  have hle5 : m * 10 + 10 ≤ k.funcs.length * 10 := by omega
  unfold b64
  simp -dsimp -implicitDefEqProofs [hn0, hn, zz]
  refine y1 (d := 22) (x := 21) (n := 20) (y := 34) k.arrays.length (fun j e s => NewC st (st.next + 5) (st.next + 3) k (declL [] true (arrT (k.arrays.take j))).1 true s) ha (by simp) (by simp) (by simpa [arrT, declL] using hN0 0) rfl (fun j e e' s k h he => h.bump k) ?_ ?_
  · rintro j e s hj hf hx hI
    have esl : e 19 = .sl (rowOf Ar.cells k.arrays) k.arrays.length .no := by rw [hf 19 rfl]; simp
    have e5 : e 5 = .ptr (st.next + 5) 0 := by rw [hf 5 rfl]; simp
    obtain ⟨y, hy⟩ : ∃ y, k.arrays[j]? = some y := ⟨_, List.getElem?_eq_getElem (by omega)⟩
    have hr := hrow j y hy
    have hl := hle j y hy
    have q0 := zj hI.wf
    have q := zf hI.wf
    rw [arrT_take _ j y hy, wm]
    generalize declL [] true (arrT (k.arrays.take j)) = D at *
    obtain ⟨sc, ok⟩ := D
    simp only [declL] at *
    obtain ⟨yn, ysp, yt, yl⟩ := y
    simp only [Ar.cells] at hr
    simp -dsimp -implicitDefEqProofs [esl, e5, hx, hj, hr, hl, q0, q, zz]
    refine new_call (hI.bump _) yn ⟨0, yt, j⟩ (by simp [AV.bareL, AV.bare, Thing.cells]) fun s2 r0 r hI2 => ?_
    simp -dsimp -implicitDefEqProofs [esl, e5, hx, hj, r0, r, zz]
    exact hold hI2
  · rintro e s hf1 hI1
    have e11 : e 2 = (.iptr [.str k.name, .int .i64 k.group, .int .i64 k.sub, .sl (rowOf Ar.cells k.arrays) k.arrays.length .no, .sl (rowOf Pa.cells k.params) k.params.length .no, .sl (rowOf Fu.cells k.funcs) k.funcs.length .no, .sl (Sm.cellsL k.body) k.body.length .no] 0) := by rw [hf1 2 rfl]; simp
    have em1 : e 1 = vi m := by rw [hf1 1 rfl]; simp
    have e51 : e 5 = .ptr (st.next + 5) 0 := by rw [hf1 5 rfl]; simp
    rw [show k.arrays.take k.arrays.length = k.arrays from List.take_length] at hI1
    have q01 := zj hI1.wf
    have q1 := zf hI1.wf
    simp -dsimp -implicitDefEqProofs [e11, e51, em1, hlt, hlti, hlti', hlt', hm0, hm1, hslc, hrl, hle5, hrow4, hle4, q01, q1, zz]
    refine range_at (ei := 2) (bi := 3) (d := 41) (x := 40) (n := 39) (y := 53) m (fun j e s => NewC st (st.next + 5) (st.next + 3) k (declL [] true (arrT k.arrays ++ funT ((k.funcs.take m).take j))).1 true s) (by omega) (by simp) (by simp) (by simpa [funT, declL] using hI1.bump _) rfl (fun j e e' s k h he => h.bump k) ?_ ?_
    · rintro j e s hj hf hx hI
      have esl : e 38 = .sl (rowOf Fu.cells (k.funcs.take m)) m .no := by rw [hf 38 rfl]; simp [e11, e51, em1]
      have e5 : e 5 = .ptr (st.next + 5) 0 := by rw [hf 5 rfl]; simp [e11, e51, em1]
      obtain ⟨y, hy⟩ : ∃ y, (k.funcs.take m)[j]? = some y := ⟨_, List.getElem?_eq_getElem (by omega)⟩
      have hr := hrow3 j y hy
      have hl := hle3 j y hy
      have q0 := zj hI.wf
      have q := zf hI.wf
      rw [funT_take _ j y hy, ← List.append_assoc, wm]
      generalize declL [] true (arrT k.arrays ++ funT ((k.funcs.take m).take j)) = D at *
      obtain ⟨sc, ok⟩ := D
      simp only [declL] at *
      obtain ⟨yn, yps, yt, yb, ⟨sk, so, st, sn, sv, sa⟩⟩ := y
      simp only [Fu.cells, Ex.cells, List.cons_append, List.nil_append] at hr
      simp -dsimp -implicitDefEqProofs [esl, e5, hx, hj, hr, hl, q0, q, zz]
      refine new_call (hI.bump _) yn ⟨1, yt, j⟩ (by simp [AV.bareL, AV.bare, Thing.cells]) fun s2 r0 r hI2 => ?_
      simp -dsimp -implicitDefEqProofs [esl, e5, hx, hj, r0, r, zz]
      exact hold hI2
    · rintro e s hf2 hI2
      have e12 : e 2 = (.iptr [.str k.name, .int .i64 k.group, .int .i64 k.sub, .sl (rowOf Ar.cells k.arrays) k.arrays.length .no, .sl (rowOf Pa.cells k.params) k.params.length .no, .sl (rowOf Fu.cells k.funcs) k.funcs.length .no, .sl (Sm.cellsL k.body) k.body.length .no] 0) := by rw [hf2 2 rfl]; simp [e11, e51, em1]
      have em2 : e 1 = vi m := by rw [hf2 1 rfl]; simp [e11, e51, em1]
      have e52 : e 5 = .ptr (st.next + 5) 0 := by rw [hf2 5 rfl]; simp [e11, e51, em1]
      rw [show (k.funcs.take m).take m = (k.funcs.take m) from (by rw [List.take_take, Nat.min_self])] at hI2
      have q02 := zj hI2.wf
      have q2 := zf hI2.wf
      simp -dsimp -implicitDefEqProofs [e12, e52, em2, hlt, hlti, hlti', hlt', hm0, hm1, hslc, hrl, hle5, hrow4, hle4, q02, q2, zz]
      have hI2' : NewC st (st.next + 5) (st.next + 3) k (scope0 k m) true s := hI2
      refine range_at (ei := 4) (bi := 5) (d := 63) (x := 62) (n := 61) (y := 74) ps.length (fun j e s => (declL (scope0 k m) true (parT (ps.take j))).2 = true ∧ NewC st (st.next + 5) (st.next + 3) k (declL (scope0 k m) true (parT (ps.take j))).1 true s) hp (by simp) (by simp) ⟨by simp [parT, declL], by simpa [parT, declL] using hI2'.bump _⟩ rfl (fun j e e' s k h he => ⟨h.1, h.2.bump k⟩) ?_ ?_
      · rintro j e s hj hf hx ⟨hok, hI⟩
        have esl : e 60 = .sl (rowOf Pa.cells ps) ps.length .no := by rw [hf 60 rfl]; simp [e12, e52, em2]
        have e5 : e 5 = .ptr (st.next + 5) 0 := by rw [hf 5 rfl]; simp [e12, e52, em2]
        obtain ⟨y, hy⟩ : ∃ y, ps[j]? = some y := ⟨_, List.getElem?_eq_getElem (by omega)⟩
        have hr := hrow2 j y hy
        have hl := hle2 j y hy
        have q0 := zj hI.wf
        have q := zf hI.wf
        have hstep : declL (scope0 k m) true (parT (ps.take (j + 1))) = declL (declL (scope0 k m) true (parT (ps.take j))).1 (declL (scope0 k m) true (parT (ps.take j))).2 [(y.name, ⟨2, y.typ, 0⟩)] := by rw [parT_take _ j y hy, wm]
        have hfail : (declL (scope0 k m) true (parT (ps.take (j + 1)))).2 = false → (declL (scope0 k m) true (parT ps)).2 = false := by
          intro h
          have e : parT ps = parT (ps.take (j + 1)) ++ parT (ps.drop (j + 1)) := by rw [parT, parT, parT, ← List.map_append, List.take_append_drop]
          rw [e, wm, h]
          exact declL_false _ _
        rw [hstep] at hfail ⊢
        generalize declL (scope0 k m) true (parT (ps.take j)) = D at *
        obtain ⟨sc, ok⟩ := D
        simp only [declL] at *
        subst hok
        obtain ⟨yn, yt⟩ := y
        simp only [Pa.cells] at hr
        simp -dsimp -implicitDefEqProofs [esl, e5, hx, hj, hr, hl, q0, q, zz]
        refine new_call (hI.bump _) yn ⟨2, yt, 0⟩ (by simp [AV.bareL, AV.bare, Thing.cells]) fun s2 r0 r hI3 => ?_
        simp only at hfail
        generalize declP sc yn ⟨2, yt, 0⟩ = D2 at *
        obtain ⟨sc2, ok2⟩ := D2
        cases ok2
        · have hff := hfail (by simp)
          simp -dsimp -implicitDefEqProofs [esl, e5, hx, hj, r0, r, zz]
          refine zg hwf (fun p hp => by simp [hI3.old p hp]) ?_
          rw [← hG, if_pos hff]
          simp [eraseA]
        · simp -dsimp -implicitDefEqProofs [esl, e5, hx, hj, r0, r, zz]
          exact hold ⟨by simp, by simpa using hI3⟩
      · rintro e s hf3 ⟨hok, hI3⟩
        have e13 : e 10 = (.iptr [.str fn, .sl (rowOf Pa.cells ps) ps.length .no, vi ft, .sl (Sm.cellsL fb) fb.length .no, vi rk, vi ro, vi rt, .str rn, .int .i32 rv, .sl (Ex.cellsL ra) ra.length .no] 0) := by rw [hf3 10 rfl]; simp [e12, e52, em2]
        have e53 : e 5 = .ptr (st.next + 5) 0 := by rw [hf3 5 rfl]; simp [e12, e52, em2]
        rw [List.take_length] at hok hI3
        rw [if_neg (by rw [hok]; simp)] at hG
        have hin1 : InR k (declL (scope0 k m) true (parT ps)).1 := InR_declL _ _ _ (fits_par k ps) (InR_scope0 k m)
        generalize declL (scope0 k m) true (parT ps) = D at *
        obtain ⟨sc, ok⟩ := D
        simp only at hok hI3 hG hin1
        have q0 := zj hI3.wf
        have q := zf hI3.wf
        have hin2 := InR_list (k := k) true fb 0 hin1
        simp -dsimp -implicitDefEqProofs [e13, e53]
        refine zo (hc1 _ _ _ sc hin1 (hI3.sees.bump _)) (by simp [AV.bareL, AV.bare, bfb]) ?_
        have hI4 := (hI3.bump 5).put (listT k true fb 0 sc).1
        generalize listT k true fb 0 sc = R at *
        obtain ⟨sc2, g⟩ := R
        simp -dsimp -implicitDefEqProofs [e13, e53]
        refine Br_iff (fun hb => ?_) (fun hb => ?_)
        · have hg : g ≠ 0 := by simpa using hb
          simp -dsimp -implicitDefEqProofs [e13, e53]
          refine zg hwf (fun p hp => by simpa using hI4.old p hp) ?_
          rw [← hG, if_pos hg]
          simp [eraseA]
        · have hg : g = 0 := by simpa using hb
          subst hg
          simp -dsimp -implicitDefEqProofs [e13, e53]
          refine zo (hc2 _ _ _ sc2 hin2 ((hI3.bump 14).put sc2).sees) (by simpa [AV.bareL, AV.bare] using bfr) ?_
          simp -dsimp -implicitDefEqProofs
          refine zg hwf (fun p hp => by simpa using hI4.old p hp) ?_
          rw [← hG]
          simp [eraseA]
end
section
variable {w0 : World} {base : Nat}
theorem xm (l : List (Str × Bool)) : (cats l).2 = l.any (·.2) := by
 induction l with
 | nil => rfl
 | cons x l ih => simp [cats, cat, ih]
theorem commas_bad (r : List (Str × Bool)) : ∀ n, (commas n r).any (·.2) = r.any (·.2) := by
 induction r with
 | nil => intro n; simp [commas]
 | cons x l ih => intro n; cases n <;> simp [commas, ih]
theorem w9 (r : List (Str × Bool)) : (listP r).2 = r.any (·.2) := by
 rw [listP, xm]
 simp [commas_bad]
theorem only_len {k op t : Int} {nm : Str} {v : Int} {la : Nat} {n : Int} (h : onlyP k op t nm v la n = false) : (la : Int) = n := by
 simp only [onlyP, Bool.or_eq_false_iff] at h
 simpa using h.1
theorem nodeP_ok {k op t : Int} {n : Str} {v : Int} {r : List (Str × Bool)} (h : (nodeP k op t n v r).2 = false) :
  (k ≠ 8 → r.length ≤ 3) ∧ (k = 4 ∨ k = 7 → 1 ≤ r.length) ∧ (k = 5 → 2 ≤ r.length) ∧ (k = 6 → 3 ≤ r.length) ∧ ∀ x ∈ r, x.2 = false := by
 unfold nodeP at h
 split at h
 ·subst k
  rw [xm] at h
  simp only [List.any_cons, List.any_nil, Bool.or_eq_false_iff] at h
  have := only_len h.1
  have hr : r = [] := List.length_eq_zero_iff.1 (by omega)
  subst hr
  simp
 split at h
 ·subst k
  rw [xm] at h
  simp only [List.any_cons, List.any_nil, Bool.or_eq_false_iff] at h
  have := only_len h.1
  have hr : r = [] := List.length_eq_zero_iff.1 (by omega)
  subst hr
  simp
 split at h
 ·subst k
  rw [xm] at h
  simp only [List.any_cons, List.any_nil, Bool.or_eq_false_iff] at h
  have := only_len h.1
  have hr : r = [] := List.length_eq_zero_iff.1 (by omega)
  subst hr
  simp
 split at h
 ·subst k
  rw [xm] at h
  simp only [List.any_cons, List.any_nil, Bool.or_eq_false_iff, w9] at h
  have := only_len h.1
  obtain ⟨x, rfl⟩ := List.length_eq_one_iff.1 (show r.length = 1 by omega)
  simpa using h.2.2
 split at h
 ·subst k
  rw [xm] at h
  simp only [List.any_cons, List.any_nil, Bool.or_eq_false_iff] at h
  have := only_len h.1
  obtain ⟨x, y, rfl⟩ : ∃ x y, r = [x, y] := by
   match r, this with
   | [x, y], _ => exact ⟨x, y, rfl⟩
   | [], h => simp at h
   | [_], h => simp at h
   | _ :: _ :: _ :: _, h => simp at h; omega
  have h2 := h.2
  simp only [twoP, binP] at h2
  split at h2 <;> simp [cat, w9] at h2 <;> simp [h2]
 split at h
 ·subst k
  rw [xm] at h
  simp only [List.any_cons, List.any_nil, Bool.or_eq_false_iff] at h
  have := only_len h.1
  obtain ⟨x, y, z, rfl⟩ : ∃ x y z, r = [x, y, z] := by
   match r, this with
   | [x, y, z], _ => exact ⟨x, y, z, rfl⟩
   | [], h => simp at h
   | [_], h => simp at h
   | [_, _], h => simp at h
   | _ :: _ :: _ :: _ :: _, h => simp at h; omega
  have h2 := h.2
  simp [threeP, cat] at h2
  simp [h2]
 split at h
 ·subst k
  rw [xm] at h
  simp only [List.any_cons, List.any_nil, Bool.or_eq_false_iff] at h
  have := only_len h.2.1
  obtain ⟨x, rfl⟩ := List.length_eq_one_iff.1 (show r.length = 1 by omega)
  have h3 : x.2 = false := by simpa [oneP, cat] using h.2.2
  simp [h3]
 split at h
 ·subst k
  rw [xm] at h
  simp only [List.any_cons, List.any_nil, Bool.or_eq_false_iff, w9] at h
  simpa using h.2.2
 ·cases h
theorem overL_iff (d : Int) : ∀ l : List Ex, overL l d = l.any (overE · d)
 | [] => by simp [overL]
 | e :: l => by simp [overL, overL_iff d l]
theorem arL_of : ∀ {l : List Ex}, (∀ x ∈ l, x.ar) → arL l
 | [], _ => by simp [arL]
 | e :: l, h => by
  simp only [arL]
  exact ⟨h e (by simp), arL_of fun x hx => h x (List.mem_cons_of_mem _ hx)⟩
theorem expr_ar : ∀ (e : Ex), (exprP e).2 = false → ∀ d, overE e d = false → e.ar := by
 refine Ex.ind ?_
 intro k op t n v a ih h d ho
 simp only [exprP, exprsP_map] at h
 obtain ⟨h8, h4, h5, h6, hall⟩ := nodeP_ok h
 simp only [List.length_map] at *
 simp only [overE, Bool.or_eq_false_iff, overL_iff, List.any_eq_false] at ho
 simp only [Ex.ar]
 refine ⟨⟨?_, h4, h5, h6⟩, arL_of fun x hx => ih x hx (hall _ (List.mem_map_of_mem hx)) (incW d) (by simpa using ho.2 x hx)⟩
 by_cases hk : k = 8
 ·subst hk
  have := ho.1.2
  simp at this
  exact this
 ·have := h8 hk
  omega
theorem none_ar {e : Ex} (h : noneP e = true) : e.ar := by
 obtain ⟨k, op, t, n, v, a⟩ := e
 simp [noneP] at h
 obtain ⟨rfl, _, _, _, _, rfl⟩ := h
 simp [Ex.ar, arL]
theorem ex_ar {e : Ex} (h : (exprP e).2 = false) (ho : exO e = false) : e.ar := by
 by_cases hk : e.kind = 0
 ·obtain ⟨k, op, t, n, v, a⟩ := e
  simp only [Ex.kind] at hk
  subst hk
  simp [exprP, nodeP] at h
 ·simp only [exO, hk, if_false] at ho
  exact expr_ar e h 1 ho
theorem spare_x {s : Sm} {a b c d f g h : Bool} (hs : spareP s a b c d false f g h = false) : noneP s.x = true := by
 simp [spareP, spareL] at hs
 exact hs.2.2.2.2.1
theorem spare_y {s : Sm} {a b c d e g h : Bool} (hs : spareP s a b c d e false g h = false) : noneP s.y = true := by
 simp [spareP, spareL] at hs
 exact hs.2.2.2.2.2.1
theorem spare_b {s : Sm} {a b c d e f h : Bool} (hs : spareP s a b c d e f false h = false) : s.body = [] := by
 simp [spareP, spareL] at hs
 exact hs.2.2.2.2.2.2.1
theorem spare_e {s : Sm} {a b c d e f g : Bool} (hs : spareP s a b c d e f g false = false) : s.els = [] := by
 simp [spareP, spareL] at hs
 exact hs.2.2.2.2.2.2.2
theorem lines_bad (ind : Str) (l : List (Str × Bool)) : (linesP ind l).any (·.2) = l.any (·.2) := by
 induction l with
 | nil => simp [linesP]
 | cons x l ih => simp [linesP, ih]
theorem overSL_iff (d : Int) : ∀ l : List Sm, overSL l d = l.any (overS · d)
 | [] => by simp [overSL]
 | e :: l => by simp [overSL, overSL_iff d l]
theorem arS_of : ∀ {l : List Sm}, (∀ x ∈ l, x.ar) → arS l
 | [], _ => by simp [arS]
 | e :: l, h => by
  simp only [arS]
  exact ⟨h e (by simp), arS_of fun x hx => h x (List.mem_cons_of_mem _ hx)⟩
theorem body_all {ind : Str} {l : List Sm} (h : (bodyP ind l).2 = false) : ∀ s ∈ l, (stmtP s ind).2 = false := by
 rw [bodyP, xm, lines_bad, stmtsP_map, List.any_map, List.any_eq_false] at h
 intro s hs
 simpa using h s hs
theorem stmt_ar : ∀ (s : Sm) (ind : Str), (stmtP s ind).2 = false → ∀ d, overS s d = false → s.ar := by
 refine Sm.ind ?_
 intro k op t b n x y body els ih1 ih2 ind h d ho
 simp only [overS, Bool.or_eq_false_iff, overSL_iff, List.any_eq_false] at ho
 obtain ⟨⟨⟨_, hox, hoy⟩, hob⟩, hoe⟩ := ho
 have hbody : ∀ ind', (bodyP ind' body).2 = false → arS body := fun ind' hb => arS_of fun s hs => ih1 s hs _ (body_all hb s hs) (incW d) (by simpa using hob s hs)
 have hels : ∀ ind', (bodyP ind' els).2 = false → arS els := fun ind' hb => arS_of fun s hs => ih2 s hs _ (body_all hb s hs) (incW d) (by simpa using hoe s hs)
 have hnil : arS [] := by simp [arS]
 simp only [Sm.ar]
 have fx : (exprP x).2 = false → x.ar := fun h => ex_ar h hox
 have fy : (exprP y).2 = false → y.ar := fun h => ex_ar h hoy
 simp only [stmtP] at h
 have hB : ∀ (l : List Sm) (i : Str), cats (linesP i (stmtsP l i)) = bodyP i l := fun _ _ => rfl
 simp only [hB] at h
 split at h
 ·simp [cat] at h
  have h0 := h.1
  have e1 := spare_b h0; have e2 := spare_e h0; have e3 := spare_y h0
  simp only [Sm.body, Sm.els, Sm.y] at e1 e2 e3
  subst e1 e2
  exact ⟨fx (by simp [h]), none_ar e3, hnil, hnil⟩
 split at h
 ·simp [cat] at h
  have h0 := h.1
  have e1 := spare_b h0; have e2 := spare_e h0; have e3 := spare_y h0
  simp only [Sm.body, Sm.els, Sm.y] at e1 e2 e3
  subst e1 e2
  exact ⟨fx (by simp [h]), none_ar e3, hnil, hnil⟩
 split at h
 ·simp [cat, indexP'] at h
  have h0 := h.1
  have e1 := spare_b h0; have e2 := spare_e h0
  simp only [Sm.body, Sm.els, Sm.y] at e1 e2
  subst e1 e2
  exact ⟨fx (by simp [h]), fy (by simp [h]), hnil, hnil⟩
 split at h
 ·rw [xm, List.any_append] at h
  simp [blockP, cat] at h
  have h0 := h.1.1
  have e3 := spare_y h0
  simp only [Sm.y] at e3
  refine ⟨fx (by simp [h]), none_ar e3, hbody _ (h.1.2.2), ?_⟩
  have h2 := h.2
  by_cases e : els = []
  ·subst e
   exact hnil
  ·exact hels _ (h2 e)
 split at h
 ·simp [cat, blockP] at h
  have h0 := h.1
  have e2 := spare_e h0; have e3 := spare_y h0
  simp only [Sm.els, Sm.y] at e2 e3
  subst e2
  exact ⟨fx (by simp [h]), none_ar e3, hbody _ h.2.2, hnil⟩
 unfold otherP at h
 simp only [Sm.kind, Sm.op, Sm.name, Sm.x, Sm.y] at h
 split at h
 ·simp [cat] at h
  have h0 := h.1
  have e1 := spare_b h0; have e2 := spare_e h0; have e3 := spare_y h0; have e4 := spare_x h0
  simp only [Sm.body, Sm.els, Sm.y, Sm.x] at e1 e2 e3 e4
  subst e1 e2
  exact ⟨none_ar e4, none_ar e3, hnil, hnil⟩
 split at h
 ·simp [cat] at h
  have h0 := h.1
  have e1 := spare_b h0; have e2 := spare_e h0; have e3 := spare_y h0; have e4 := spare_x h0
  simp only [Sm.body, Sm.els, Sm.y, Sm.x] at e1 e2 e3 e4
  subst e1 e2
  exact ⟨none_ar e4, none_ar e3, hnil, hnil⟩
 split at h
 ·simp [cat, indexP'] at h
  have h0 := h.1
  have e1 := spare_b h0; have e2 := spare_e h0
  simp only [Sm.body, Sm.els] at e1 e2
  subst e1 e2
  exact ⟨fx (by simp [h]), fy (by simp [h]), hnil, hnil⟩
 split at h
 ·split at h
  ·simp [cat, w9] at h
   have h0 := h.1
   have e1 := spare_b h0; have e2 := spare_e h0
   simp only [Sm.body, Sm.els] at e1 e2
   subst e1 e2
   exact ⟨fx (by simp [h]), fy (by simp [h]), hnil, hnil⟩
  ·simp [cat, w9] at h
   have h0 := h.1
   have e1 := spare_b h0; have e2 := spare_e h0; have e3 := spare_y h0
   simp only [Sm.body, Sm.els, Sm.y] at e1 e2 e3
   subst e1 e2
   exact ⟨fx (by simp [h]), none_ar e3, hnil, hnil⟩
 ·cases h
def validP (k : Ke) : Bool := withinP k && !(kernelP k).2
structure Ke.ar (k : Ke) : Prop where
 body : arS k.body
 funcs : ∀ f ∈ k.funcs, arS f.body ∧ f.ret.ar
theorem valid_ar {k : Ke} (h : validP k = true) : k.ar := by
 simp only [validP, withinP, Bool.and_eq_true, Bool.not_eq_true'] at h
 obtain ⟨⟨ho, _⟩, hb⟩ := h
 simp only [overK, Bool.or_eq_false_iff, overSL_iff, List.any_eq_false] at ho
 simp only [kernelP, xm, textPs, endPs, List.any_cons, List.any_append, Bool.or_eq_false_iff, List.any_flatMap] at hb
 obtain ⟨_, hof, hob⟩ := ho
 have h1 : (bodyP [32, 32] k.body).2 = false := by
  have := hb.2.2.2.2.2.2.1
  simpa [blockP, cat] using this
 refine ⟨arS_of fun s hs => stmt_ar s _ (body_all h1 s hs) 1 (by simpa using hob s hs), fun f hf => ?_⟩
 have h2 := hb.2.2.2.2.2.1
 rw [List.any_eq_false] at h2
 have h3 : (functionP f).2 = false := by
  have := h2 f hf
  simp [funPs] at this
  simp [this]
 have h4 := hof f hf
 simp only [overF, Bool.or_eq_true, not_or, overSL_iff] at h4
 obtain ⟨_, h5, h6⟩ := h4
 rw [functionP, xm, List.any_append, List.any_append] at h3
 simp only [List.any_cons, List.any_nil, Bool.or_eq_false_iff] at h3
 obtain ⟨_, _, h3⟩ := h3
 have h7 : (bodyP [32, 32] f.body).2 = false := by simp_all
 have h8 : (exprP f.ret).2 = false := by simp_all
 refine ⟨arS_of fun s hs => stmt_ar s _ (body_all h7 s hs) 1 ?_, expr_ar _ h8 1 (by simpa using h6)⟩
 have h9 : (f.body.any fun x => overS x 1) = false := by simpa using h5
 rw [List.any_eq_false] at h9
 simpa using h9 s hs
end
section
variable {w0 : World} {base : Nat}
def funcsT (k : Ke) : Nat → List Fu → Int → Int
 | _, [], e => e
 | n, f :: l, e => funcsT k (n + 1) l (if e = 0 then functionT k n f else e)
theorem funcsT_ne (k : Ke) (l : List Fu) : ∀ (n : Nat) {e : Int}, e ≠ 0 → funcsT k n l e = e := by
 induction l with
 | nil => exact fun _ _ _ => rfl
 | cons f l ih => intro n e h; simp only [funcsT, if_neg h]; exact ih _ h
theorem funcsT_drop (k : Ke) (l : List Fu) (e : Int) (j : Nat) (y : Fu) (h : l[j]? = some y) : funcsT k j (l.drop j) e = funcsT k (j + 1) (l.drop (j + 1)) (if e = 0 then functionT k j y else e) := by
 obtain ⟨hlt, e⟩ := List.getElem?_eq_some_iff.1 h
 rw [List.drop_eq_getElem_cons hlt, e]
 rfl
def globE (k : Ke) : Int := if (globalsP k).2 then 0 else 30
def checkP (k : Ke) : Int := if validP k = false ∨ numbersP k = false then 1 else if funcsT k 0 k.funcs (globE k) = 0 then (listT k false k.body 0 (globalsP k).1).2 else funcsT k 0 k.funcs (globE k)
structure Old (st s : St) : Prop where
 wf : s.wf
 next : st.next ≤ s.next
 old : ∀ p, p < st.next → s.objs p = st.objs p
theorem NewC.oldS {st s : St} {o mo : Nat} {k : Ke} {sc : Scope} {inF : Bool} (h : NewC st o mo k sc inF s) : Old st s := ⟨h.wf, h.next, h.old⟩
theorem Old.bump {st s : St} (h : Old st s) (n : Nat) : Old st (s.bump n) := ⟨zk h.wf, Nat.le_trans h.next (Nat.le_add_right _ _), h.old⟩
theorem NewC.akin {st s s' : St} {o mo : Nat} {k : Ke} {sc : Scope} {inF : Bool} (h : NewC st o mo k sc inF s) (ha : Akin s s') : NewC st o mo k sc inF s' := by
 refine ⟨fun p x hx => ?_, Nat.le_trans h.next ha.le, h.ge, h.ge', ⟨by rw [ha.objs]; exact h.sees.obj, by rw [ha.objs]; exact h.sees.map⟩, fun p hp => by rw [ha.objs]; exact h.old p hp⟩
 rw [ha.objs] at hx
 exact Nat.lt_of_lt_of_le (h.wf _ _ hx) ha.le
theorem Old.akin {st s s' : St} (h : Old st s) (ha : Akin s s') : Old st s' := by
 refine ⟨fun p x hx => ?_, Nat.le_trans h.next ha.le, fun p hp => by rw [ha.objs]; exact h.old p hp⟩
 rw [ha.objs] at hx
 exact Nat.lt_of_lt_of_le (h.wf _ _ hx) ha.le
def CheckedR (st : St) (k : Ke) (v : AV) (s : St) : Prop := ∃ c, v = .tuple [c, vi (checkP k)] ∧ Old st s ∧ (checkP k = 0 → ∃ o mo, c = .ptr o 0 ∧ NewC st o mo k (globalsP k).1 false s)
theorem valid_small {k : Ke} (h : validP k = true) : k.arrays.length ≤ 8 ∧ k.params.length ≤ 8 ∧ k.funcs.length ≤ 8 ∧ ∀ f ∈ k.funcs, f.params.length ≤ 8 := by
 simp only [validP, withinP, Bool.and_eq_true, Bool.not_eq_true'] at h
 obtain ⟨⟨ho, _⟩, _⟩ := h
 simp only [overK, Bool.or_eq_false_iff, List.any_eq_false] at ho
 obtain ⟨⟨h1, h2, h3⟩, h4, _⟩ := ho
 simp at h1 h2 h3
 refine ⟨h1, h2, h3, fun f hf => ?_⟩
 have := h4 f hf
 simp [overF] at this
 exact this.1
theorem w34 (hT : Tabs w0 base) {st : St} (hwf : st.wf) (k : Ke) (hk : k.ok) (hbig : (kernelP k).1.length ≤ 140737488355328) : CallW Tryz.prog w0 base 34 [.agg k.cells] st (CheckedR st k) := by
 refine za Tryz.func34 r34 rfl ?_
 have hn0 := zj hwf
 have hn := zf hwf
 have hv := fun st => d45 (w0 := w0) (base := base) hT st k hk hbig
 have hnu := fun st => d62 (w0 := w0) (base := base) st k
 have bk := Ke.bare_cells k
 have kc : k.cells = [.str k.name, vi k.group, vi k.sub, .sl (rowOf Ar.cells k.arrays) k.arrays.length .no, .sl (rowOf Pa.cells k.params) k.params.length .no, .sl (rowOf Fu.cells k.funcs) k.funcs.length .no, .sl (Sm.cellsL k.body) k.body.length .no] := rfl
 have hvP : validP k = (withinP k && !(kernelP k).2) := rfl
 rw [← hvP] at hv
 have bb := Sm.bare_cellsL k.body
 unfold CheckedR
 rw [kc] at bk hv hnu ⊢
 unfold b34
 simp -dsimp -implicitDefEqProofs [hn0, hn, zz]
 refine zo (hv _) (by simpa [AV.bareL, AV.bare] using bk) ?_
 cases hval : validP k
 ·have hP : checkP k = 1 := by simp [checkP, hval]
  rw [hP]
  simp -dsimp -implicitDefEqProofs [hn0, hn, zz]
  exact hold ⟨.nilp, rfl, ⟨zk hwf, Nat.le_add_right _ _, fun _ _ => rfl⟩, by simp⟩
 ·simp -dsimp -implicitDefEqProofs [hn0, hn, zz]
  refine zo (hnu _) (by simpa [AV.bareL, AV.bare] using bk) ?_
  cases hnum : numbersP k
  ·have hP : checkP k = 1 := by simp [checkP, hnum]
   rw [hP]
   simp -dsimp -implicitDefEqProofs [hn0, hn, zz]
   exact hold ⟨.nilp, rfl, ⟨zk hwf, Nat.le_add_right _ _, fun _ _ => rfl⟩, by simp⟩
  ·have hP : checkP k = if funcsT k 0 k.funcs (globE k) = 0 then (listT k false k.body 0 (globalsP k).1).2 else funcsT k 0 k.funcs (globE k) := by simp [checkP, hval, hnum]
   generalize checkP k = CP at *
   simp -dsimp -implicitDefEqProofs [hn0, hn, zz]
   have har := valid_ar hval
   obtain ⟨l1, l2, l3, l4⟩ := valid_small hval
   refine yu (w63 (zk hwf) k (by omega) (by omega) (by omega)) (by simpa [AV.bareL, AV.bare, kc] using bk) ?_
   intro v s1 hG
   obtain ⟨c, hv, hold1, hc⟩ : ∃ c, v = .tuple [c, vi (globE k)] ∧ Old st s1 ∧ (globE k = 0 → ∃ o mo, c = .ptr o 0 ∧ NewC st o mo k (globalsP k).1 false s1) := by
    rcases hG with ⟨h1, o, mo, h2, h3⟩ | ⟨h1, h2, h3, h4, h5⟩
    ·have h3' : NewC st o mo k (globalsP k).1 false s1 := ⟨h3.wf, Nat.le_trans (Nat.le_add_right _ _) h3.next, Nat.le_trans (Nat.le_add_right _ _) h3.ge, Nat.le_trans (Nat.le_add_right _ _) h3.ge', h3.sees, fun p hp => h3.old p (Nat.lt_of_lt_of_le hp (Nat.le_add_right _ _))⟩
     exact ⟨_, by simpa [globE, h1] using h2, h3'.oldS, fun _ => ⟨o, mo, rfl, h3'⟩⟩
    ·exact ⟨_, by simpa [globE, h1] using h2, ⟨h3, Nat.le_trans (Nat.le_add_right _ _) h4, fun p hp => h5 p (Nat.lt_of_lt_of_le hp (Nat.le_add_right _ _))⟩, by simp [globE, h1]⟩
   subst hv
   simp -dsimp -implicitDefEqProofs [hn0, hn, zz]
   refine y1 (d := 24) (x := 23) (n := 22) (y := 31) k.funcs.length (fun j e s => ∃ g, e 5 = vi g ∧ funcsT k 0 k.funcs (globE k) = funcsT k j (k.funcs.drop j) g ∧ Akin s1 s) (by omega) (by simp) (by simp) ⟨globE k, by simp, by simp, Akin.refl _ _⟩ rfl (fun j e e' s k h he => ?_) ?_ ?_
   ·obtain ⟨g, h1, h2, h3⟩ := h
    exact ⟨g, (he 5 (by decide) (by decide) (by decide)).trans h1, h2, h3.bump k⟩
   ·rintro j e s hj hf hx ⟨g, e5, hg, hs⟩
    have e1 : e 1 = .iptr [.str k.name, vi k.group, vi k.sub, .sl (rowOf Ar.cells k.arrays) k.arrays.length .no, .sl (rowOf Pa.cells k.params) k.params.length .no, .sl (rowOf Fu.cells k.funcs) k.funcs.length .no, .sl (Sm.cellsL k.body) k.body.length .no] 0 := by rw [hf 1 rfl]; simp
    obtain ⟨y, hy⟩ : ∃ y, k.funcs[j]? = some y := ⟨_, List.getElem?_eq_getElem hj⟩
    have hmem := List.mem_of_getElem? hy
    have hd := funcsT_drop k k.funcs g j y hy
    have hc64 := fun (s : St) => d64 (w0 := w0) (base := base) (st := s) k (by omega) (by omega) j y hy (by have := l4 y hmem; omega) (har.funcs y hmem).1 (har.funcs y hmem).2
    simp -dsimp -implicitDefEqProofs [e1, e5, hx]
    refine Br_iff (fun hb => ?_) (fun hb => ?_)
    ·have hg0 : g = 0 := by simpa using hb
     subst hg0
     simp -dsimp -implicitDefEqProofs [e1, e5, hx]
     refine zo (hc64 _) (by simpa [AV.bareL, AV.bare, kc] using bk) ?_
     simp -dsimp -implicitDefEqProofs
     exact hold ⟨functionT k j y, by simp, by rw [hg, hd]; simp, hs.bump _⟩
    ·have hg0 : g ≠ 0 := by simpa using hb
     simp -dsimp -implicitDefEqProofs [e1, e5, hx]
     exact hold ⟨g, by simp [e5], by rw [hg, hd, if_neg hg0], (hs.bump _).bump _⟩
   ·rintro e s hf ⟨g, e5, hg, hs⟩
    have e1 : e 1 = .iptr [.str k.name, vi k.group, vi k.sub, .sl (rowOf Ar.cells k.arrays) k.arrays.length .no, .sl (rowOf Pa.cells k.params) k.params.length .no, .sl (rowOf Fu.cells k.funcs) k.funcs.length .no, .sl (Sm.cellsL k.body) k.body.length .no] 0 := by rw [hf 1 rfl]; simp
    have e4 : e 4 = c := by rw [hf 4 rfl]; simp
    have hg' : funcsT k 0 k.funcs (globE k) = g := by rw [hg]; simp [funcsT]
    rw [hg'] at hP
    by_cases hg0 : g = 0
    ·subst hg0
     rw [if_pos rfl] at hP
     have he0 : globE k = 0 := by
      apply Classical.byContradiction
      intro hne
      rw [funcsT_ne k _ _ hne] at hg'
      exact hne hg'
     obtain ⟨o, mo, rfl, hNC⟩ := hc he0
     have hNC' := hNC.akin hs
     have hsc := fun s (h : Sees s o mo k (globalsP k).1 false 0) => scope_of (w0 := w0) (base := base) (lists_of har.body) s o mo (globalsP k).1 0 (InR_globals k) (by decide) h
     rw [← hP] at hsc
     simp -dsimp -implicitDefEqProofs [e1, e4, e5]
     refine zo (hsc _ (hNC'.sees.bump _)) (by simp [AV.bareL, AV.bare, bb]) ?_
     simp -dsimp -implicitDefEqProofs [e1, e4, e5]
     exact hold ⟨_, rfl, (hold1.akin hs).bump _, fun _ => ⟨o, mo, rfl, hNC'.bump _⟩⟩
    ·have hb : (g == 0) = false := by simpa using hg0
     rw [if_neg hg0] at hP
     subst hP
     simp -dsimp -implicitDefEqProofs [e1, e4, e5, hb]
     exact hold ⟨c, rfl, (hold1.akin hs).bump _, fun h => absurd h hg0⟩
theorem d14 (hT : Tabs w0 base) (st : St) (k : Ke) (hk : k.ok) (hbig : (kernelP k).1.length ≤ 140737488355328) : Det Tryz.prog w0 base 14 [.agg k.cells] st (vi (checkP k)) st := by
 refine zh (zp Tryz.func14 r14) fun hwf hfit => z6 Tryz.func14 r14 rfl ?_
 clear hfit
 have hn0 := zj hwf
 have hn := zf hwf
 have hc := fun {st : St} (hwf : st.wf) => w34 (w0 := w0) (base := base) hT hwf k hk hbig
 have bk := Ke.bare_cells k
 have kc : k.cells = [.str k.name, vi k.group, vi k.sub, .sl (rowOf Ar.cells k.arrays) k.arrays.length .no, .sl (rowOf Pa.cells k.params) k.params.length .no, .sl (rowOf Fu.cells k.funcs) k.funcs.length .no, .sl (Sm.cellsL k.body) k.body.length .no] := rfl
 rw [kc] at bk ⊢
 simp only [kc] at hc
 unfold b14
 simp -dsimp -implicitDefEqProofs [hn0, hn, zz]
 refine yu (hc (zk hwf)) (by simpa [AV.bareL, AV.bare] using bk) ?_
 rintro v s ⟨c, rfl, ho, _⟩
 simp -dsimp -implicitDefEqProofs [hn0, hn, zz]
 refine zg hwf (fun p hp => ?_) (by simp [eraseA])
 exact ho.old p (Nat.lt_of_lt_of_le hp (Nat.le_add_right _ _))
end
section
variable {w0 : World} {base : Nat}
def updS (n : Str) (t : Thing) : Scope → Scope
 | [] => [(n, t)]
 | x :: l => if n = x.1 then (n, t) :: l else x :: updS n t l
theorem find_upd (n : Str) (t : Thing) (sc : Scope) : (sc.lookup n = none ∧ findA .str (.str n) sc.enc 0 = some none ∧ (updS n t sc).enc = sc.enc ++ [(.str n, .agg t.cells)]) ∨
  ∃ i u, sc.lookup n = some u ∧ findA .str (.str n) sc.enc 0 = some (some (i, .agg u.cells)) ∧ (updS n t sc).enc = sc.enc.set i (.str n, .agg t.cells) := by
 have : ∀ (sc : Scope) (m : Nat), (sc.lookup n = none ∧ findA .str (.str n) sc.enc m = some none ∧ (updS n t sc).enc = sc.enc ++ [(.str n, .agg t.cells)]) ∨
   ∃ i u, sc.lookup n = some u ∧ findA .str (.str n) sc.enc m = some (some (m + i, .agg u.cells)) ∧ (updS n t sc).enc = sc.enc.set i (.str n, .agg t.cells) := by
  intro sc
  induction sc with
  | nil => intro m; left; simp [Scope.enc, findA, updS]
  | cons x sc ih =>
   intro m
   by_cases e : n = x.1
   ·right; exact ⟨0, x.2, by simp [List.lookup, e], by simp [Scope.enc, findA, leafEq, e], by simp [Scope.enc, updS, e]⟩
   ·have he : (n == x.1) = false := by simpa using e
    rcases ih (m + 1) with ⟨h1, h2, h3⟩ | ⟨i, u, h1, h2, h3⟩
    ·left
     simp only [Scope.enc] at h2 h3
     refine ⟨by simp [List.lookup, he, h1], by simp [Scope.enc, findA, leafEq, he, h2], by simp [Scope.enc, updS, e, h3]⟩
    ·right
     simp only [Scope.enc] at h2 h3
     refine ⟨i + 1, u, by simp [List.lookup, he, h1], ?_, by simp [Scope.enc, updS, e, h3]⟩
     simp [Scope.enc, findA, leafEq, he, h2]; omega
 rcases this sc 0 with h | ⟨i, u, h1, h2, h3⟩
 ·exact .inl h
 ·exact .inr ⟨i, u, h1, by simpa using h2, h3⟩
def ownE (l : List Str) : List (AV × AV) := l.map fun n => (.str n, .bool true)
def ownU (n : Str) (l : List Str) : List Str := if n ∈ l then l else l ++ [n]
theorem find_own (n : Str) (l : List Str) : (n ∉ l ∧ findA .str (.str n) (ownE l) 0 = some none ∧ ownE (ownU n l) = ownE l ++ [(.str n, .bool true)]) ∨
  ∃ i, n ∈ l ∧ findA .str (.str n) (ownE l) 0 = some (some (i, .bool true)) ∧ ownE (ownU n l) = (ownE l).set i (.str n, .bool true) := by
 have : ∀ (l : List Str) (m : Nat), (n ∉ l ∧ findA .str (.str n) (ownE l) m = some none) ∨ ∃ i, n ∈ l ∧ findA .str (.str n) (ownE l) m = some (some (m + i, .bool true)) ∧ ownE l = (ownE l).set i (.str n, .bool true) := by
  intro l
  induction l with
  | nil => intro m; left; simp [ownE, findA]
  | cons x l ih =>
   intro m
   by_cases e : n = x
   ·right; exact ⟨0, by simp [e], by simp [ownE, findA, leafEq, e], by simp [ownE, e]⟩
   ·have he : (n == x) = false := by simpa using e
    rcases ih (m + 1) with ⟨h1, h2⟩ | ⟨i, h1, h2, h3⟩
    ·left
     simp only [ownE] at h2
     exact ⟨by simp [e, h1], by simp [ownE, findA, leafEq, he, h2]⟩
    ·right
     simp only [ownE] at h2 h3
     refine ⟨i + 1, by simp [h1], ?_, by simp [ownE, ← h3]⟩
     simp [ownE, findA, leafEq, he, h2]; omega
 rcases this l 0 with ⟨h1, h2⟩ | ⟨i, h1, h2, h3⟩
 ·exact .inl ⟨h1, h2, by simp [ownU, h1, ownE]⟩
 ·exact .inr ⟨i, h1, by simpa using h2, by rw [ownU, if_pos h1]; exact h3⟩
def freeP (sc : Scope) (n : Str) : Bool := match sc.lookup n with | none => true | some t => t.kind == 2
def varsT : List Pa → List Str → Scope → Scope
 | [], _, sc => sc
 | v :: l, own, sc => varsT l (ownU v.name own) (if v.name ∉ own ∧ freeP sc v.name = true then updS v.name ⟨3, v.typ, 0⟩ sc else sc)
def Ex.zero : Ex := .mk 0 0 0 [] 0 []
def ifK (k : Ke) (e : Ex) : Ke := { k with body := [.mk 5 0 0 0 [] e Ex.zero [] []] }
def typeOfP (k : Ke) (vars : List Pa) (e : Ex) : Int × Int :=
 if checkP k ≠ 0 then (0, checkP k) else if validP (ifK k e) = false then (0, 1) else exprT k (varsT vars [] (globalsP k).1) e
theorem updS_lookup (n m : Str) (t : Thing) (sc : Scope) : (updS n t sc).lookup m = if m = n then some t else sc.lookup m := by
 induction sc with
 | nil =>
  by_cases h : m = n
  ·simp [updS, h]
  ·have : (m == n) = false := by simpa using h
   simp [updS, List.lookup, h, this]
 | cons x sc ih =>
  simp only [updS]
  split
  ·rename_i e
   by_cases h : m = n
   ·simp [List.lookup, h]
   ·have h1 : (m == n) = false := by simpa using h
    have h2 : (m == x.1) = false := by simpa [← e] using h
    simp [List.lookup, h, h1, h2]
  ·rename_i e
   by_cases h : m = n
   ·have h2 : (n == x.1) = false := by simpa using e
    subst h
    simp [List.lookup, h2, ih]
   ·simp [List.lookup, ih, h]
theorem InR_upd {k : Ke} {sc : Scope} (h : InR k sc) (n : Str) (t : Int) : InR k (updS n ⟨3, t, 0⟩ sc) := by
 intro m u hu
 rw [updS_lookup] at hu
 split at hu
 ·cases hu; simp
 ·exact h m u hu
theorem NewC.other {st s : St} {o mo : Nat} {k : Ke} {sc : Scope} {inF : Bool} (h : NewC st o mo k sc inF s) {q : Nat} (x : AObj) (h1 : st.next ≤ q) (h2 : o ≠ q) (h3 : mo ≠ q) (h4 : q < s.next) : NewC st o mo k sc inF (s.put q x) := by
 refine ⟨zb h.wf h4, h.next, h.ge, h.ge', ⟨by rw [yh, if_neg h2]; exact h.sees.obj, by rw [yh, if_neg h3]; exact h.sees.map⟩, fun p hp => ?_⟩
 rw [yh, if_neg (by omega)]
 exact h.old p hp
theorem varsT_drop (l : List Pa) (own : List Str) (sc : Scope) (j : Nat) (y : Pa) (h : l[j]? = some y) : varsT (l.drop j) own sc = varsT (l.drop (j + 1)) (ownU y.name own) (if y.name ∉ own ∧ freeP sc y.name = true then updS y.name ⟨3, y.typ, 0⟩ sc else sc) := by
 obtain ⟨hlt, e⟩ := List.getElem?_eq_some_iff.1 h
 rw [List.drop_eq_getElem_cons hlt, e]
 rfl
theorem del_put_ne {s : St} {o o' : Nat} {x : AObj} (h : o' ≠ o) : (s.put o x).del o' = (s.del o').put o x := by
 simp only [St.del, St.put, St.mk.injEq, and_true]
 funext j
 simp only [upd]
 by_cases h1 : j = o'
 ·by_cases h2 : j = o
  ·exact absurd (h1.symm.trans h2) h
  ·simp [h1, h]
 ·by_cases h2 : j = o
  ·simp [h1, h2, Ne.symm h]
  ·simp [h1, h2]
theorem d17 (hT : Tabs w0 base) (st : St) (k : Ke) (vars : List Pa) (e : Ex) (hk : k.ok) (hbig : (kernelP k).1.length ≤ 140737488355328) (he : e.ok) (hbig2 : (kernelP (ifK k e)).1.length ≤ 140737488355328) :
  Det Tryz.prog w0 base 17 [.agg k.cells, .sl (rowOf Pa.cells vars) vars.length .no, .agg e.cells] st (tup (typeOfP k vars e)) st := by
 refine zh (zp Tryz.func17 r17) fun hwf hfit => z6 Tryz.func17 r17 rfl ?_
 have hlen : vars.length ≤ big := hfit.2.1.1
 unfold big at hlen
 clear hfit
 have hn0 := zj hwf
 have hn := zf hwf
 have hk2 : (ifK k e).ok := ⟨hk.group, hk.sub, hk.arrays, hk.funcs, by simp [ifK, Sm.okL, Sm.ok, he, Ex.zero, Ex.ok, Ex.okL]⟩
 have hc := fun {st : St} (hwf : st.wf) => w34 (w0 := w0) (base := base) hT hwf k hk hbig
 have hv := fun st => d45 (w0 := w0) (base := base) hT st (ifK k e) hk2 hbig2
 have hvP : validP (ifK k e) = (withinP (ifK k e) && !(kernelP (ifK k e)).2) := rfl
 rw [← hvP] at hv
 have bk := Ke.bare_cells k
 have bk2 := Ke.bare_cells (ifK k e)
 have be := Ex.bare_cells e
 have har : validP (ifK k e) = true → e.ar := fun h => by
  have := (valid_ar h).body
  simp only [ifK, arS, Sm.ar] at this
  exact this.1.1
 have hce := fun (s : St) (o mo : Nat) (sc : Scope) (hin : InR k sc) (hv : validP (ifK k e) = true) (h : Sees s o mo k sc false 0) => d46 (w0 := w0) (base := base) hin e (har hv) s h
 have kc : k.cells = [.str k.name, vi k.group, vi k.sub, .sl (rowOf Ar.cells k.arrays) k.arrays.length .no, .sl (rowOf Pa.cells k.params) k.params.length .no, .sl (rowOf Fu.cells k.funcs) k.funcs.length .no, .sl (Sm.cellsL k.body) k.body.length .no] := rfl
 have kc2 : (ifK k e).cells = [.str k.name, vi k.group, vi k.sub, .sl (rowOf Ar.cells k.arrays) k.arrays.length .no, .sl (rowOf Pa.cells k.params) k.params.length .no, .sl (rowOf Fu.cells k.funcs) k.funcs.length .no, .sl (Sm.cellsL [.mk 5 0 0 0 [] e Ex.zero [] []]) 1 .no] := rfl
 have hrow := fun j x => @yg _ Pa.cells 2 Pa.cells_len vars j x
 have hle := fun j x => @ye _ Pa.cells 2 Pa.cells_len vars j x
 generalize hG : typeOfP k vars e = G
 unfold typeOfP at hG
 generalize validP (ifK k e) = V at *
 obtain ⟨ek, eo, et, en, ev, ea⟩ := e
 simp only [Sm.cellsL, Sm.cells, Ex.cells, Ex.zero, Ex.cellsL, List.cons_append, List.nil_append, List.length_nil] at kc2 be hce
 rw [kc] at bk ⊢
 simp only [kc] at hc
 rw [kc2] at bk2 hv
 simp only [Ex.cells]
 generalize rowOf Pa.cells vars = cv at *
 unfold b17
 simp -dsimp -implicitDefEqProofs [hn0, hn, zz, del_put_ne, zx, zy, zu, zw]
 refine yu (hc (zk hwf)) (by simpa [AV.bareL, AV.bare] using bk) ?_
 rintro v s ⟨c, rfl, ho, hok⟩
 have hOs : ∀ p, p < st.next → s.objs p = st.objs p := fun p hp => ho.old p (Nat.lt_of_lt_of_le hp (Nat.le_add_right _ _))
 have q0 := zj ho.wf
 have q := zf ho.wf
 simp -dsimp -implicitDefEqProofs
 refine Br_iff (fun hb => ?_) (fun hb => ?_)
 ·have hc0 : checkP k ≠ 0 := by simpa using hb
  simp -dsimp -implicitDefEqProofs
  refine zg hwf (fun p hp => by simp [hOs p hp]) ?_
  rw [← hG, if_pos hc0]
  simp [eraseA, eraseL, tup]
 ·have hc0 : checkP k = 0 := by simpa using hb
  obtain ⟨o, mo, rfl, hN⟩ := hok hc0
  rw [if_neg (by simp [hc0])] at hG
  clear hok hb
  simp -dsimp -implicitDefEqProofs [q0, q, zz]
  refine zo (hv _) (by simpa [AV.bareL, AV.bare] using bk2) ?_
  cases V
  ·simp -dsimp -implicitDefEqProofs
   refine zg hwf (fun p hp => by simp [hOs p hp]) ?_
   rw [← hG]
   simp [eraseA, eraseL, tup]
  ·simp -dsimp -implicitDefEqProofs
   have lo := hN.wf _ _ hN.sees.obj
   have lm := hN.wf _ _ hN.sees.map
   have hne := hN.sees.ne
   have hsn := ho.next
   simp only [bump_next] at hsn
   refine y1 (d := 36) (x := 35) (n := 34) (y := 75) vars.length (fun j e s' => ∃ own sc, NewC (st.bump 11) o mo k sc false s' ∧ s'.objs (s.next + 13) = some (.map (ownE own)) ∧ s.next + 13 < s'.next ∧ varsT vars [] (globalsP k).1 = varsT (vars.drop j) own sc ∧ InR k sc) hlen (by simp) (by simp) ⟨[], (globalsP k).1, (hN.bump 18).other _ (by simp; omega) (by omega) (by omega) (by simp), by simp [ownE], by simp, by simp, InR_globals k⟩ rfl (fun j e e' s' n h he => ?_) ?_ ?_
   ·obtain ⟨own, sc, h1, h2, h3, h4, h5⟩ := h
    exact ⟨own, sc, h1.bump n, h2, Nat.lt_of_lt_of_le h3 (Nat.le_add_right _ _), h4, h5⟩
   ·rintro j e s' hj hf hx ⟨own, sc, hI, hq, hlq, hvar, hin⟩
    have e33 : e 33 = .sl cv vars.length .no := by rw [hf 33 rfl]; simp
    have e8 : e 8 = .ptr o 0 := by rw [hf 8 rfl]; simp
    have e11 : e 11 = .map (s.next + 13) := by rw [hf 11 rfl]; simp
    obtain ⟨y, hy⟩ : ∃ y, vars[j]? = some y := ⟨_, List.getElem?_eq_getElem hj⟩
    have hr := hrow j y hy
    have hl := hle j y hy
    have q0 := zj hI.wf
    have q := zf hI.wf
    have ho1 := hI.sees.row
    have hm1 := hI.sees.map
    have n1 : ¬ s.next + 13 = o := by omega
    have n2 : ¬ s.next + 13 = mo := by omega
    have n3 : ¬ o = s.next + 13 := by omega
    have n4 : ¬ mo = s.next + 13 := by omega
    have n5 : ∀ i, ¬ s'.next + i = o := by intro i; have := hI.wf _ _ hI.sees.obj; omega
    have n6 : ∀ i, ¬ s'.next + i = mo := by intro i; have := hI.wf _ _ hI.sees.map; omega
    have hvs := varsT_drop vars own sc j y hy
    rw [hvs] at hvar
    obtain ⟨yn, yt⟩ := y
    simp only [Pa.cells] at hr
    simp only at hvar
    have fo := find_own yn own
    have fs := find_upd yn ⟨3, yt, 0⟩ sc
    have fin : ∀ n, NewC (st.bump 11) o mo k sc false ((s'.bump n).put (s.next + 13) (.map (ownE (ownU yn own)))) := fun n => (hI.bump n).other _ (by simp; omega) n3 n4 (by simp; omega)
    have fin2 : ∀ n, NewC (st.bump 11) o mo k (updS yn ⟨3, yt, 0⟩ sc) false (((s'.bump n).put mo (.map (updS yn ⟨3, yt, 0⟩ sc).enc)).put (s.next + 13) (.map (ownE (ownU yn own)))) := fun n => ((hI.bump n).put _).other _ (by simp; omega) n3 n4 (by simp; omega)
    have hin2 := InR_upd hin yn yt
    rcases fo with ⟨o1, o2, o3⟩ | ⟨i, o1, o2, o3⟩
    ·rw [o3] at fin fin2
     rcases fs with ⟨f1, f2, f3⟩ | ⟨i2, u, f1, f2, f3⟩
     ·have hfree : freeP sc yn = true := by simp [freeP, f1]
      rw [if_pos ⟨o1, hfree⟩] at hvar
      rw [f3] at fin2
      simp -dsimp -implicitDefEqProofs [e33, e8, e11, hx, hj, hr, hl, q0, q, zz, ho1, hm1, hq, o2, f2, n1, n2, n3, n4, n5, n6]
      exact hold ⟨ownU yn own, _, fin2 45, by simp [o3], by simp; omega, hvar, hin2⟩
     ·obtain ⟨uk, ut, ua⟩ := u
      simp only [Thing.cells] at f2 f3
      have hfree : freeP sc yn = (uk == 2) := by simp [freeP, f1]
      rw [hfree] at hvar
      rw [f3] at fin2
      simp -dsimp -implicitDefEqProofs [e33, e8, e11, hx, hj, hr, hl, q0, q, zz, ho1, hm1, hq, o2, f2, n1, n2, n3, n4, n5, n6]
      refine Br_iff (fun hb => ?_) (fun hb => ?_)
      ·rw [if_pos ⟨o1, hb⟩] at hvar
       simp -dsimp -implicitDefEqProofs [e33, e8, e11, hx, hj, hr, hl, q0, q, zz, ho1, hm1, hq, o2, f2, n1, n2, n3, n4, n5, n6]
       exact hold ⟨ownU yn own, _, fin2 45, by simp [o3], by simp; omega, hvar, hin2⟩
      ·rw [if_neg (by simp [hb])] at hvar
       simp -dsimp -implicitDefEqProofs [e33, e8, e11, hx, hj, hr, hl, q0, q, zz, ho1, hm1, hq, o2, f2, n1, n2, n3, n4, n5, n6]
       exact hold ⟨ownU yn own, _, fin _, by simp [o3], by simp; omega, hvar, hin⟩
    ·rw [o3] at fin fin2
     rw [if_neg (fun h => h.1 o1)] at hvar
     rcases fs with ⟨f1, f2, f3⟩ | ⟨i2, ⟨uk, ut, ua⟩, f1, f2, f3⟩
     ·simp -dsimp -implicitDefEqProofs [e33, e8, e11, hx, hj, hr, hl, q0, q, zz, ho1, hm1, hq, o2, f2, n1, n2, n3, n4, n5, n6]
      exact hold ⟨ownU yn own, _, fin _, by simp [o3], by simp; omega, hvar, hin⟩
     ·simp only [Thing.cells] at f2 f3
      simp -dsimp -implicitDefEqProofs [e33, e8, e11, hx, hj, hr, hl, q0, q, zz, ho1, hm1, hq, o2, f2, n1, n2, n3, n4, n5, n6]
      exact hold ⟨ownU yn own, _, fin _, by simp [o3], by simp; omega, hvar, hin⟩
   ·rintro e s' hf ⟨own, sc, hI, hq, hlq, hvar, hin⟩
    have e8 : e 8 = .ptr o 0 := by rw [hf 8 rfl]; simp
    have e5 : e 5 = .iptr [vi ek, vi eo, vi et, .str en, .int .i32 ev, .sl (Ex.cellsL ea) ea.length .no] 0 := by rw [hf 5 rfl]; simp
    rw [show varsT vars [] (globalsP k).1 = sc by rw [hvar]; simp [varsT]] at hG
    simp -dsimp -implicitDefEqProofs [e8, e5]
    refine zo (hce _ _ _ sc hin rfl (hI.sees.bump _)) (by simpa [AV.bareL, AV.bare] using be) ?_
    simp -dsimp -implicitDefEqProofs [tup]
    refine zg hwf (fun p hp => ?_) ?_
    ·simpa using hI.old p (Nat.lt_of_lt_of_le hp (Nat.le_add_right _ _))
    ·rw [← hG]
     simp [eraseA, eraseL, tup]
end
section
variable {w0 : World} {base : Nat}
def numE (n : Int) : Ex := .mk 1 0 1 [] n []
def nameE (s : Str) : Ex := .mk 2 0 0 s 0 []
def smallK (body : List Sm) : Ke := ⟨[107], 4, 2, [⟨[97], 1, 1, 8⟩], [], [], body⟩
def numAV (n : Int) : AV := .agg [vi 1, vi 0, vi 1, .str [], .int .i32 n, .sl [] 0 .full]
def nameAV (s : Str) : AV := .agg [vi 2, vi 0, vi 0, .str s, .int .i32 0, .sl [] 0 .full]
def smallAV (b : AV) : AV := .agg [.str [107], vi 4, vi 2, .sl [.str [97], vi 1, vi 1, vi 8] 1 .full, .sl [] 0 .full, .sl [] 0 .full, b]
theorem d19 (st : St) (n : Int) : Det Tryz.prog w0 base 19 [.int .i32 n] st (numAV n) st := by
 refine zh (zp Tryz.func19 r19) fun hwf hfit => z6 Tryz.func19 r19 rfl ?_
 have hn0 := zj hwf
 have hn := zf hwf
 unfold b19
 simp -dsimp -implicitDefEqProofs [hn0, hn, zz]
 refine zg hwf (fun p hp => by simp [hp, zx, zy]) (by simp [eraseA, eraseL, numAV])
theorem d25 (st : St) (s : Str) : Det Tryz.prog w0 base 25 [.str s] st (nameAV s) st := by
 refine zh (zp Tryz.func25 r25) fun hwf hfit => z6 Tryz.func25 r25 rfl ?_
 have hn0 := zj hwf
 have hn := zf hwf
 unfold b25
 simp -dsimp -implicitDefEqProofs [hn0, hn, zz]
 refine zg hwf (fun p hp => by simp [hp, zx, zy]) (by simp [eraseA, eraseL, nameAV])
theorem d22 (st : St) (cs : List AV) (n : Nat) (h : ∀ m, eraseL m cs = some cs) (p : Perm) (hp : p = .no ∨ p = .full) : Det Tryz.prog w0 base 22 [.sl cs n p] st (smallAV (.sl cs n p)) st := by
 refine zh (zp Tryz.func22 r22) fun hwf hfit => z6 Tryz.func22 r22 rfl ?_
 have hn0 := zj hwf
 have hn := zf hwf
 unfold b22
 simp -dsimp -implicitDefEqProofs [hn0, hn, zz]
 refine zg hwf (fun p hp => by simp [hp, zx, zy]) ?_
 rcases hp with rfl | rfl <;> simp [eraseA, eraseL, smallAV, h]
def exX : Sm := .mk 1 0 1 0 [120] (.mk 3 2 0 [] 0 []) Ex.zero [] []
def exSum : Ex := .mk 5 10 0 [] 0 [nameE [120], numE 1]
def exStore : Sm := .mk 3 0 0 0 [97] (nameE [120]) exSum [] []
def exHalf : Sm := .mk 3 0 0 0 [97] (nameE [120]) (.mk 1 0 2 [] 98304 []) [] []
def exOther : Sm := .mk 3 0 0 0 [97] (nameE [121]) exSum [] []
def exLess : Ex := .mk 5 26 0 [] 0 [nameE [120], numE 2]
def exY : Sm := .mk 1 0 1 0 [121] (numE 1) Ex.zero [] []
def exInner : List Sm := [exX, .mk 5 0 0 0 [] exLess Ex.zero [exY] [], .mk 3 0 0 0 [97] (numE 0) (nameE [121]) [] []]
def exWide : Ke := { smallK [exX] with sub := 3 }
theorem exp1 : checkP (smallK [exX, exStore]) = 0 := by decide +kernel
theorem exp2 : checkP (smallK [exX, exHalf]) = 31 := by decide +kernel
theorem exp3 : checkP (smallK [exX, exOther]) = 30 := by decide +kernel
theorem exp4 : checkP (smallK exInner) = 30 := by decide +kernel
theorem exp5 : checkP (smallK [.mk 7 0 0 0 [] Ex.zero Ex.zero [] []]) = 31 := by decide +kernel
theorem exp6 : checkP exWide = 1 := by decide +kernel
theorem exp7 : typeOfP (smallK [exX]) [⟨[120], 1⟩] exLess = (3, 0) := by decide +kernel
theorem kl1 : (kernelP (smallK [exX, exStore])).1.length ≤ 140737488355328 := by decide +kernel
end
section
variable {w0 : World} {base : Nat}
theorem kl2 : (kernelP (smallK [exX, exHalf])).1.length ≤ 140737488355328 := by decide +kernel
theorem kl3 : (kernelP (smallK [exX, exOther])).1.length ≤ 140737488355328 := by decide +kernel
theorem kl4 : (kernelP (smallK exInner)).1.length ≤ 140737488355328 := by decide +kernel
theorem kl5 : (kernelP (smallK [.mk 7 0 0 0 [] Ex.zero Ex.zero [] []])).1.length ≤ 140737488355328 := by decide +kernel
theorem kl6 : (kernelP exWide).1.length ≤ 140737488355328 := by decide +kernel
theorem kl7 : (kernelP (smallK [exX])).1.length ≤ 140737488355328 := by decide +kernel
theorem kl8 : (kernelP (ifK (smallK [exX]) exLess)).1.length ≤ 140737488355328 := by decide +kernel
theorem okSmall {body : List Sm} (h : Sm.okL body) : (smallK body).ok := ⟨by simp [smallK, i64ok], by simp [smallK, i64ok], by simp [smallK, i64ok], by simp [smallK], h⟩
theorem okWide : exWide.ok := ⟨by simp [exWide, smallK, i64ok], by simp [exWide, i64ok], by simp [exWide, smallK, i64ok], by simp [exWide, smallK], by simp [exWide, smallK, exX, Sm.okL, Sm.ok, Ex.ok, Ex.okL, Ex.zero]⟩
theorem c17x (hT : Tabs w0 base) (st : St) : Det Tryz.prog w0 base 17 [.agg (smallK [exX]).cells, .sl (rowOf Pa.cells [⟨[120], 1⟩]) 1 .no, .agg exLess.cells] st (.tuple [vi 3, vi 0]) st := by
 have := d17 hT st (smallK [exX]) [⟨[120], 1⟩] exLess (okSmall (by simp [exX, Sm.okL, Sm.ok, Ex.ok, Ex.okL, Ex.zero])) kl7 (by simp [exLess, nameE, numE, Ex.ok, Ex.okL]) kl8
 rw [exp7] at this
 exact this
theorem c14x1 (hT : Tabs w0 base) (st : St) : Det Tryz.prog w0 base 14 [.agg (smallK [exX, exStore]).cells] st (vi 0) st := by
 have := d14 hT st (smallK [exX, exStore]) (okSmall (by simp [exX, exStore, exHalf, exOther, exInner, exSum, exLess, exY, nameE, numE, Sm.okL, Sm.ok, Ex.ok, Ex.okL, Ex.zero])) kl1
 rw [exp1] at this
 exact this
theorem c14x2 (hT : Tabs w0 base) (st : St) : Det Tryz.prog w0 base 14 [.agg (smallK [exX, exHalf]).cells] st (vi 31) st := by
 have := d14 hT st (smallK [exX, exHalf]) (okSmall (by simp [exX, exStore, exHalf, exOther, exInner, exSum, exLess, exY, nameE, numE, Sm.okL, Sm.ok, Ex.ok, Ex.okL, Ex.zero])) kl2
 rw [exp2] at this
 exact this
theorem c14x3 (hT : Tabs w0 base) (st : St) : Det Tryz.prog w0 base 14 [.agg (smallK [exX, exOther]).cells] st (vi 30) st := by
 have := d14 hT st (smallK [exX, exOther]) (okSmall (by simp [exX, exStore, exHalf, exOther, exInner, exSum, exLess, exY, nameE, numE, Sm.okL, Sm.ok, Ex.ok, Ex.okL, Ex.zero])) kl3
 rw [exp3] at this
 exact this
theorem c14x4 (hT : Tabs w0 base) (st : St) : Det Tryz.prog w0 base 14 [.agg (smallK exInner).cells] st (vi 30) st := by
 have := d14 hT st (smallK exInner) (okSmall (by simp [exX, exStore, exHalf, exOther, exInner, exSum, exLess, exY, nameE, numE, Sm.okL, Sm.ok, Ex.ok, Ex.okL, Ex.zero])) kl4
 rw [exp4] at this
 exact this
theorem c14x5 (hT : Tabs w0 base) (st : St) : Det Tryz.prog w0 base 14 [.agg (smallK [.mk 7 0 0 0 [] Ex.zero Ex.zero [] []]).cells] st (vi 31) st := by
 have := d14 hT st (smallK [.mk 7 0 0 0 [] Ex.zero Ex.zero [] []]) (okSmall (by simp [exX, exStore, exHalf, exOther, exInner, exSum, exLess, exY, nameE, numE, Sm.okL, Sm.ok, Ex.ok, Ex.okL, Ex.zero])) kl5
 rw [exp5] at this
 exact this
theorem c14x6 (hT : Tabs w0 base) (st : St) : Det Tryz.prog w0 base 14 [.agg exWide.cells] st (vi 1) st := by
 have := d14 hT st exWide okWide kl6
 rw [exp6] at this
 exact this
theorem d11 (hT : Tabs w0 base) (st : St) : Det Tryz.prog w0 base 11 [] st (.bool true) st := by
 refine zh (zp Tryz.func11 r11) fun hwf hfit => z6 Tryz.func11 r11 rfl ?_
 have hn0 := zj hwf
 have hn := zf hwf
 unfold b11
 simp -dsimp -implicitDefEqProofs [hn0, hn, zz, numAV, nameAV, smallAV]
 refine zt (d25 _ _) ?_
 simp -dsimp -implicitDefEqProofs [hn0, hn, zz, numAV, nameAV, smallAV]
 refine zt (d19 _ _) ?_
 simp -dsimp -implicitDefEqProofs [hn0, hn, zz, numAV, nameAV, smallAV]
 refine zt (d25 _ _) ?_
 simp -dsimp -implicitDefEqProofs [hn0, hn, zz, numAV, nameAV, smallAV]
 refine zt (d25 _ _) ?_
 simp -dsimp -implicitDefEqProofs [hn0, hn, zz, numAV, nameAV, smallAV]
 refine zt (d25 _ _) ?_
 simp -dsimp -implicitDefEqProofs [hn0, hn, zz, numAV, nameAV, smallAV]
 refine zt (d19 _ _) ?_
 simp -dsimp -implicitDefEqProofs [hn0, hn, zz, numAV, nameAV, smallAV]
 refine zt (d19 _ _) ?_
 simp -dsimp -implicitDefEqProofs [hn0, hn, zz, numAV, nameAV, smallAV]
 refine zt (d19 _ _) ?_
 simp -dsimp -implicitDefEqProofs [hn0, hn, zz, numAV, nameAV, smallAV]
 refine zt (d25 _ _) ?_
 simp -dsimp -implicitDefEqProofs [hn0, hn, zz, numAV, nameAV, smallAV]
 refine zt (d22 _ _ _ (by simp [eraseL, eraseA]) _ (.inr rfl)) ?_
 simp -dsimp -implicitDefEqProofs [hn0, hn, zz, numAV, nameAV, smallAV]
 refine zo (c17x hT _) (by simp [AV.bareL, AV.bare, smallK, exWide, Ke.cells, rowOf, Ar.cells, Pa.cells, Sm.cellsL, Sm.cells, Ex.cells, Ex.cellsL, exX, exStore, exHalf, exOther, exInner, exSum, exLess, exY, nameE, numE, Ex.zero]) ?_
 simp -dsimp -implicitDefEqProofs [hn0, hn, zz, numAV, nameAV, smallAV]
 refine zt (d22 _ _ _ (by simp [eraseL, eraseA]) _ (.inr rfl)) ?_
 simp -dsimp -implicitDefEqProofs [hn0, hn, zz, numAV, nameAV, smallAV]
 refine zt (d22 _ _ _ (by simp [eraseL, eraseA]) _ (.inr rfl)) ?_
 simp -dsimp -implicitDefEqProofs [hn0, hn, zz, numAV, nameAV, smallAV]
 refine zo (c14x1 hT _) (by simp [AV.bareL, AV.bare, smallK, exWide, Ke.cells, rowOf, Ar.cells, Pa.cells, Sm.cellsL, Sm.cells, Ex.cells, Ex.cellsL, exX, exStore, exHalf, exOther, exInner, exSum, exLess, exY, nameE, numE, Ex.zero]) ?_
 simp -dsimp -implicitDefEqProofs [hn0, hn, zz, numAV, nameAV, smallAV]
 refine zt (d22 _ _ _ (by simp [eraseL, eraseA]) _ (.inr rfl)) ?_
 simp -dsimp -implicitDefEqProofs [hn0, hn, zz, numAV, nameAV, smallAV]
 refine zo (c14x2 hT _) (by simp [AV.bareL, AV.bare, smallK, exWide, Ke.cells, rowOf, Ar.cells, Pa.cells, Sm.cellsL, Sm.cells, Ex.cells, Ex.cellsL, exX, exStore, exHalf, exOther, exInner, exSum, exLess, exY, nameE, numE, Ex.zero]) ?_
 simp -dsimp -implicitDefEqProofs [hn0, hn, zz, numAV, nameAV, smallAV]
 refine zt (d22 _ _ _ (by simp [eraseL, eraseA]) _ (.inr rfl)) ?_
 simp -dsimp -implicitDefEqProofs [hn0, hn, zz, numAV, nameAV, smallAV]
 refine zo (c14x3 hT _) (by simp [AV.bareL, AV.bare, smallK, exWide, Ke.cells, rowOf, Ar.cells, Pa.cells, Sm.cellsL, Sm.cells, Ex.cells, Ex.cellsL, exX, exStore, exHalf, exOther, exInner, exSum, exLess, exY, nameE, numE, Ex.zero]) ?_
 simp -dsimp -implicitDefEqProofs [hn0, hn, zz, numAV, nameAV, smallAV]
 refine zt (d22 _ _ _ (by simp [eraseL, eraseA]) _ (.inr rfl)) ?_
 simp -dsimp -implicitDefEqProofs [hn0, hn, zz, numAV, nameAV, smallAV]
 refine zo (c14x4 hT _) (by simp [AV.bareL, AV.bare, smallK, exWide, Ke.cells, rowOf, Ar.cells, Pa.cells, Sm.cellsL, Sm.cells, Ex.cells, Ex.cellsL, exX, exStore, exHalf, exOther, exInner, exSum, exLess, exY, nameE, numE, Ex.zero]) ?_
 simp -dsimp -implicitDefEqProofs [hn0, hn, zz, numAV, nameAV, smallAV]
 refine zt (d22 _ _ _ (by simp [eraseL, eraseA]) _ (.inr rfl)) ?_
 simp -dsimp -implicitDefEqProofs [hn0, hn, zz, numAV, nameAV, smallAV]
 refine zo (c14x5 hT _) (by simp [AV.bareL, AV.bare, smallK, exWide, Ke.cells, rowOf, Ar.cells, Pa.cells, Sm.cellsL, Sm.cells, Ex.cells, Ex.cellsL, exX, exStore, exHalf, exOther, exInner, exSum, exLess, exY, nameE, numE, Ex.zero]) ?_
 simp -dsimp -implicitDefEqProofs [hn0, hn, zz, numAV, nameAV, smallAV]
 refine zo (c14x6 hT _) (by simp [AV.bareL, AV.bare, smallK, exWide, Ke.cells, rowOf, Ar.cells, Pa.cells, Sm.cellsL, Sm.cells, Ex.cells, Ex.cellsL, exX, exStore, exHalf, exOther, exInner, exSum, exLess, exY, nameE, numE, Ex.zero]) ?_
 simp -dsimp -implicitDefEqProofs [hn0, hn, zz, numAV, nameAV, smallAV]
 exact zn hwf (by simp [eraseA])
end
section
open Go Go.ChangeShapes Go.WideShapes Go.ChangeAt Go.RowKit
def St.nil : St := ⟨fun _ => none, 0⟩
def Gh.nil : Gh := ⟨fun _ => False, fun _ => none, fun _ => none, fun _ => 0, fun _ => 0, fun _ => 0, fun _ => none, fun _ => 0⟩
theorem own : ownKnob Tryz.prog.godebug = none := by kernel_rfl
theorem gPow : Tryz.prog.globalNamed "internal/strconv.uint64pow10" = some 0 := by kernel_rfl
theorem gPowType : (Tryz.prog.globals[0]?).map (·.type) = some 253 := by kernel_rfl
theorem cells253 : Tryz.prog.cellsOf 253 = 20 := by kernel_rfl
def laidL : List (String × DataW Unit) := [("math/bits.deBruijn32tab", Rows.laid_math_bits_deBruijn32tab), ("math/bits.deBruijn64tab", Rows.laid_math_bits_deBruijn64tab), ("internal/strconv.uint64pow10", Rows.laid_internal_strconv_uint64pow10)]
theorem pow_data : (Rows.laid_internal_strconv_uint64pow10 : DataW Unit) = Lib.tabData .u64 Lib.pow10Tab := by kernel_rfl
theorem cells244 : Tryz.prog.cellsOf 244 = 1 := by kernel_rfl
theorem tabs_of {W : World} (h : laidMet Tryz.prog laidL W) : Tabs W W.heap.size := by
 refine ⟨?_, rfl⟩
 have h2 : laidMet Tryz.prog [("internal/strconv.uint64pow10", Rows.laid_internal_strconv_uint64pow10)] W := h.tail.tail
 rw [pow_data] at h2
 exact Lib.tabIs_of_head (rest := []) gPow gPowType Tryz.underlying253 Tryz.underlying244 cells244 cells253 h2
def datInts : DataW Unit → List Int
 | .agg l => l.filterMap fun | .lit (.int _ n) => some n | _ => none
 | _ => []
def setCells (vs : Array Value) : Obj → Obj
 | .cells _ t fz => .cells vs t fz
 | o => o
noncomputable def laidWorld (os : Os) : World :=
 let w := World.holding Tryz.prog os ⟨#[], #[], []⟩
 { w with heap := ((w.heap.modify 0 (setCells ((datInts Rows.laid_internal_strconv_uint64pow10).map (Value.int .u64)).toArray)).modify 1 (setCells ((datInts Rows.laid_math_bits_deBruijn32tab).map (Value.int .u8)).toArray)).modify 2 (setCells ((datInts Rows.laid_math_bits_deBruijn64tab).map (Value.int .u8)).toArray) }
theorem laid_met (os : Os) (args : Array Value) : laidMet Tryz.prog laidL ((laidWorld os).forCall (fun _ _ => 0) ⟨#[], args, []⟩).memory :=
 laidMet_of_run' 8 (by kernel_rfl) (by kernel_rfl)
end
section
section
variable {P : Program} {w0 : World} {base : Nat}
theorem det_res {f : FuncId} {args : List AV} {st st' : St} {r r' : AV} (h : Det P w0 base f args st r st') (e : r.bare = r') : Det P w0 base f args st r' st' := by
 subst e
 refine ⟨h.enters, h.next, h.keep, fun X G w us hX hI hR => ?_⟩
 refine Calls.mono (h.calls X G w us hX hI hR) ?_
 rintro e w' ⟨v, G', h1, h2, h3, h4, h5⟩
 exact ⟨v, G', h1, h2, h3, h4, rep_bare _ _ h5⟩
theorem callW_res {f : FuncId} {args : List AV} {st : St} {K : AV → St → Prop} (h : CallW P w0 base f args st fun v s => K v.bare s) : CallW P w0 base f args st K := by
 obtain ⟨v, s, h1, h2⟩ := h
 exact ⟨v.bare, s, det_res h1 rfl, h2⟩
end
section
variable {P : Program} {w0 : World} {base : Nat}
theorem det_fin {f : FuncId} {args : List AV} {st s st' : St} {v r : AV} (h : Det P w0 base f args st v s) (hf : Fin st s v r st') : Det P w0 base f args st r st' := by
 refine ⟨h.enters, fin_next hf h.next, fin_keep hf h.keep, fun X G w us hX hI hR => ?_⟩
 refine Calls.mono (h.calls X G w us hX hI hR) ?_
 rintro e w' ⟨u, G', rfl, h1, h2, h3, h4⟩
 exact fin_post hf hI hX h.keep h1 h2 h3 h4
def FinB (st s : St) (r0 r : AV) (st' : St) : Prop := ∃ r', Fin st s r0 r' st' ∧ r'.bare = r
theorem uh {f : FuncId} {fn : Func} {N : Nat} {rs : List SRes} {b : SCode} (hf : P.funcs[f]? = some fn) (hs : resFunc P fn = some ⟨N, rs, b.strip⟩) {args : List AV} {st st' : St} {r : AV} (hl : Nat.ble args.length N = true)
  (h : awp P w0 base b (initEnv args) [] st (EndsK P w0 base rs fun v s => FinB st s v r st')) : Det P w0 base f args st r st' := by
 obtain ⟨v, s, h1, r', h2, h3⟩ := za hf hs hl h
 exact det_res (det_fin h1 h2) h3
end
theorem finB_pure {st s : St} {r0 r : AV} (hwf : st.wf) (h : ∀ o, o < st.next → s.objs o = st.objs o) (e : (eraseA st.next r0).map AV.bare = some r) : FinB st s r0 r st := by
 obtain ⟨r', h1, h2⟩ := Option.map_eq_some_iff.1 e
 exact ⟨r', zg hwf h h1, h2⟩
theorem yq {st s : St} {r0 r : AV} {p : Nat} {y : AObj} (hwf : st.wf) (hp : p < st.next) (h : ∀ o, o < st.next → s.objs o = (st.put p y).objs o) (hy : y.under (· < st.next)) (e : (eraseA st.next r0).map AV.bare = some r) : FinB st s r0 r (st.put p y) := by
 obtain ⟨r', h1, h2⟩ := Option.map_eq_some_iff.1 e
 exact ⟨r', fin_put hwf hp h hy h1, h2⟩
def appRO (r k : Nat) (T : TypeId) (size bytes : Nat) (st : St) (o len n : Nat) (ds : List AV) : Option AObj → Option (AV × St)
 | some (.row e' s' cs) => if e' = T ∧ s' = size ∧ n ≠ 0 ∧ len * size ≤ cs.length ∧ (len + n) * bytes ≤ big ∧ len + n ≤ big then
   some (.row (r + k) (len + n), (st.del o).put (r + k) (.row T size (cs.take (len * size) ++ ds))) else none
 | _ => none
@[simp] theorem appRO_row (r k : Nat) (T : TypeId) (size bytes : Nat) (st : St) (o len n : Nat) (ds cs : List AV) : appRO r k T size bytes st o len n ds (some (.row T size cs)) =
  if n ≠ 0 ∧ len * size ≤ cs.length ∧ (len + n) * bytes ≤ big ∧ len + n ≤ big then some (.row (r + k) (len + n), (st.del o).put (r + k) (.row T size (cs.take (len * size) ++ ds))) else none := by
 simp [appRO]
def appR (r k : Nat) (T : TypeId) (size bytes : Nat) (st : St) : AV → Option (Nat × List AV) → Option (AV × St)
 | .sl cs len .full, some (n, ds) => if n ≠ 0 ∧ cs.length = len * size ∧ (len + n) * bytes ≤ big ∧ len + n ≤ big then
   some (.row (r + k) (len + n), st.put (r + k) (.row T size (cs ++ ds))) else none
 | .row o len, some (n, ds) => appRO r k T size bytes st o len n ds (st.objs o)
 | _, _ => none
@[simp] theorem appR_sl (r k : Nat) (T : TypeId) (size bytes : Nat) (st : St) (cs : List AV) (len n : Nat) (ds : List AV) : appR r k T size bytes st (.sl cs len .full) (some (n, ds)) =
  if n ≠ 0 ∧ cs.length = len * size ∧ (len + n) * bytes ≤ big ∧ len + n ≤ big then some (.row (r + k) (len + n), st.put (r + k) (.row T size (cs ++ ds))) else none := rfl
@[simp] theorem appR_row (r k : Nat) (T : TypeId) (size bytes : Nat) (st : St) (o len n : Nat) (ds : List AV) : appR r k T size bytes st (.row o len) (some (n, ds)) = appRO r k T size bytes st o len n ds (st.objs o) := rfl
@[simp] theorem step_appendR (r : Nat) (env : Env) (st : St) (T : TypeId) (size bytes : Nat) (s x : Opd) (k : Nat) : SOp.step r env st (.appendR T size bytes s x k) = appR r k T size bytes st (s.ev env) (srcA false size (x.ev env)) := by
 simp only [SOp.step]
 split
 ·rename_i h1 h2; rw [h1, h2]; rfl
 ·rename_i o len n ds h1 h2
  rw [h1, h2]
  simp only [appR, appRO]
  split <;> rename_i h <;> simp only [h]
 ·rename_i h h'
  unfold appR
  split
  ·rename_i h1 h2; exact absurd h2 (h _ _ _ _ h1)
  ·rename_i h1 h2; exact absurd h2 (h' _ _ _ _ h1)
  ·rfl
section
variable {P : Program} {w0 : World} {base r : Nat}
@[simp ↓] theorem opW_appendR (T : TypeId) (size bytes : Nat) (x y : Opd) (k : Nat) (env : Env) (ds : List ADef) (st : St) (K : AV → List ADef → St → Prop) :
  opW P w0 base r (.appendR T size bytes x y k) env ds st K = Got2 ((SOp.appendR T size bytes x y k).step r env st) (fun v s => K v ds s) .mk := ue _ _ _ _ _ (by simp) (by simp) (by simp)
end
theorem ym (n : Nat) : ∀ (a b : List AV), eraseL n (a ++ b) = (eraseL n a).bind fun a' => (eraseL n b).map fun b' => a' ++ b'
 | [], b => by simp [eraseL]
 | x :: a, b => by
  simp only [List.cons_append, eraseL, ym n a b]
  cases eraseA n x with
  | none => rfl
  | some x' => cases eraseL n a with
   | none => rfl
   | some a' => cases eraseL n b <;> rfl
end
end Go.Proofs.YthaekebedmoipaaGreatDoor.AM
