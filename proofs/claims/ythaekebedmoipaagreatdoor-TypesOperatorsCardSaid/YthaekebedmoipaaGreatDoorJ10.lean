/- Part 10 of the proof: G6 G7 G8 G9 G10 G11 G12 G13 G14 G15. -/
import Derived.Test.YthaekebedmoipaaGreatDoorJ9
/- Contracts: checks of statements that leave all as it is. -/
set_option linter.unusedVariables false
set_option linter.unusedSimpArgs false
set_option maxRecDepth 100000
namespace Go.Proofs.YthaekebedmoipaaGreatDoor.AM
open Go Go.RowKit
variable {w0 : World} {base : Nat}

def asT (k : Ke) (sc : Scope) (e : Ex) (t : Int) : Int := if (exprT k sc e).2 = 0 ∧ (exprT k sc e).1 ≠ t then 31 else (exprT k sc e).2
theorem d92 {st : St} {o mo : Nat} {k : Ke} {sc : Scope} {inF : Bool} {lp : Int} (hin : InR k sc) (h : Sees st o mo k sc inF lp) (e : Ex) (har : e.ar) (t : Int) :
   Det Tryz.prog w0 base 92 [.ptr o 0, .agg e.cells, vi t] st (vi (asT k sc e t)) st := by
  refine det_self (enters_fn Tryz.func92 r92) fun hwf hfit => det_fn Tryz.func92 r92 rfl ?_
  clear hfit
  have hc : ∀ s, Sees s o mo k sc inF lp → Det Tryz.prog w0 base 46 [.ptr o 0, .agg e.cells] s _ s := fun s hs => d46 hin e har s hs
  have hn0 := wf_none0 hwf
  have hn := wf_none hwf
  have hb := Ex.bare_cells e
  have g1 := hwf _ _ h.obj
  unfold asT
  generalize exprT k sc e = R at *
  obtain ⟨u, f⟩ := R
  obtain ⟨yk, yo, yt, yn, yv, ya⟩ := e
  simp only [Ex.cells] at hc hb ⊢
  generalize Ex.cellsL ya = ca at *
  unfold b92
  simp -dsimp -implicitDefEqProofs [hn0, hn, del_none]
  refine call_bare (hc _ (h.bump _)) (by simpa [AV.bareL, AV.bare] using hb) ?_
  by_cases hf : f = 0
  · subst hf
    simp -dsimp -implicitDefEqProofs [hn0, hn, del_none, tup]
    refine Br_iff (fun hb => ?_) (fun hb => ?_)
    · have hne : ¬ u = t := by simpa using hb
      simp -dsimp -implicitDefEqProofs [hn0, hn, del_none, hb]
      exact fin_bump hwf (by simp [eraseA, hne])
    · have hne : u = t := by simpa using hb
      simp -dsimp -implicitDefEqProofs [hn0, hn, del_none, hb]
      exact fin_bump hwf (by simp [eraseA, hne])
  · have hb : (f == 0) = false := by simpa using hf
    simp -dsimp -implicitDefEqProofs [hn0, hn, del_none, tup, hb]
    exact fin_bump hwf (by simp [eraseA, hf])
def declP (sc : Scope) (n : Str) (t : Thing) : Scope × Bool := if (sc.lookup n).isSome then (sc, false) else (sc ++ [(n, t)], true)
theorem map_under (U : Nat → Prop) (sc : Scope) : (AObj.map sc.enc).under U := by
  have : ∀ (s : Scope), AV.underL U (s.enc.map (·.1)) ∧ AV.underL U (s.enc.map (·.2)) := by
    intro s
    induction s with
    | nil => simp [Scope.enc, AV.underL]
    | cons x s ih =>
      simp only [Scope.enc, List.map_cons] at ih ⊢
      simp only [AV.underL, AV.under, Thing.cells, true_and, and_true]
      exact ih
  exact this sc
theorem d90 {st : St} {o mo : Nat} {k : Ke} {sc : Scope} {inF : Bool} {lp : Int} (h : Sees st o mo k sc inF lp) (n : Str) (t : Thing) :
   Det Tryz.prog w0 base 90 [.ptr o 0, .str n, .agg t.cells] st (.bool (declP sc n t).2) (st.put mo (.map (declP sc n t).1.enc)) := by
  refine det_put (enters_fn Tryz.func90 r90) h.map fun hwf hfit => det_fn Tryz.func90 r90 rfl ?_
  clear hfit
  have h1 := h.obj
  have h2 := h.map
  have g1 := hwf _ _ h1
  have g2 := hwf _ _ h2
  have hO := own_start hwf h2
  have hn0 := wf_none0 hwf
  have hn := wf_none hwf
  obtain ⟨x, h4, h5, h6⟩ := find_enc n sc
  have hkc : k.cells ++ [AV.map mo, .bool inF, vi lp] = [.str k.name, vi k.group, vi k.sub, .sl (rowOf Ar.cells k.arrays) k.arrays.length .no, .sl (rowOf Pa.cells k.params) k.params.length .no, .sl (rowOf Fu.cells k.funcs) k.funcs.length .no, .sl (Sm.cellsL k.body) k.body.length .no, .map mo, .bool inF, vi lp] := rfl
  rw [hkc] at h1
  obtain ⟨tk, tt, ta⟩ := t
  obtain ⟨⟨uk, ut, ua⟩, hu⟩ : ∃ u, (sc.lookup n).getD Thing.zero = u := ⟨_, rfl⟩
  unfold declP
  simp only [Thing.cells, hu] at *
  unfold b90
  by_cases hs : (sc.lookup n).isSome = true
  · simp only [hs, if_true]
    have h5' : x.isSome = true := h5.trans hs
    simp -dsimp -implicitDefEqProofs [h1, h2, h4, h5', h6, hn0, hn, del_none]
    exact fin_own hwf (own_bump hO _) (map_under _ _) (by simp [eraseA])
  · have hs' : (sc.lookup n).isSome = false := Bool.eq_false_iff.2 hs
    have h5' : x.isSome = false := h5.trans hs'
    have hx : x = none := by simpa using h5'
    subst hx
    simp only [hs', if_false, Bool.false_eq_true]
    simp -dsimp -implicitDefEqProofs [h1, h2, h4, h5', h6, hn0, hn, del_none]
    have : (sc ++ [(n, (⟨tk, tt, ta⟩ : Thing))]).enc = sc.enc ++ [(AV.str n, AV.agg [vi tk, vi tt, vi ta])] := by simp [Scope.enc, Thing.cells]
    rw [this]
    exact fin_own hwf (own_put (own_bump hO _) _) (this ▸ map_under _ _) (by simp [eraseA])
end Go.Proofs.YthaekebedmoipaaGreatDoor.AM

/- Contracts: checks of kinds of statements. -/
set_option linter.unusedVariables false
set_option linter.unusedSimpArgs false
set_option maxRecDepth 100000
namespace Go.Proofs.YthaekebedmoipaaGreatDoor.AM
open Go Go.RowKit
variable {w0 : World} {base : Nat}

theorem Sees.row {st : St} {o mo : Nat} {k : Ke} {sc : Scope} {inF : Bool} {lp : Int} (h : Sees st o mo k sc inF lp) : st.objs o = some (.cells 107 [.str k.name, vi k.group, vi k.sub, .sl (rowOf Ar.cells k.arrays) k.arrays.length .no, .sl (rowOf Pa.cells k.params) k.params.length .no, .sl (rowOf Fu.cells k.funcs) k.funcs.length .no, .sl (Sm.cellsL k.body) k.body.length .no, .map mo, .bool inF, vi lp]) := h.obj
theorem findP_arr {k : Ke} {sc : Scope} (hin : InR k sc) {nm : Str} {vk vt va : Int} (hf : findP sc nm [0] = some ⟨vk, vt, va⟩) : ∃ (i : Nat) (F : Ar), va = i ∧ k.arrays[i]? = some F := by
  unfold findP at hf
  rcases hs : sc.lookup nm with _ | t
  · simp [hs] at hf
  · simp only [hs] at hf
    split at hf
    · rename_i hm
      simp only [Option.some.injEq] at hf
      subst hf
      obtain ⟨h0, h1⟩ := (hin nm _ hs).1 (by simpa using hm)
      simp only at h0 h1
      exact ⟨va.toNat, k.arrays[va.toNat]'(by omega), by omega, by simp⟩
    · exact absurd hf (by simp)
theorem d170 (st : St) (s : Sm) : Det Tryz.prog w0 base 170 [.agg s.cells] st (vi 31) st := by
  refine det_self (enters_fn Tryz.func170 r170) fun hwf hfit => det_fn Tryz.func170 r170 rfl ?_
  have hn0 := wf_none0 hwf
  have hn := wf_none hwf
  obtain ⟨kd, op, ty, bd, nm, ⟨xk, xo, xt, xn, xv, xa⟩, ⟨yk, yo, yt, yn, yv, ya⟩, body, els⟩ := s
  simp only [Sm.cells, Ex.cells, List.cons_append, List.nil_append]
  unfold b170
  simp -dsimp -implicitDefEqProofs [hn0, hn, del_none]
  exact fin_bump hwf (by simp [eraseA])
theorem d166 {st : St} {o mo : Nat} {k : Ke} {sc : Scope} {inF : Bool} {lp : Int} (h : Sees st o mo k sc inF lp) (s : Sm) :
   Det Tryz.prog w0 base 166 [.ptr o 0, .agg s.cells] st (vi (if lp = 0 then 31 else 0)) st := by
  refine det_self (enters_fn Tryz.func166 r166) fun hwf hfit => det_fn Tryz.func166 r166 rfl ?_
  clear hfit
  have h1 := h.row
  have g1 := hwf _ _ h1
  have hn0 := wf_none0 hwf
  have hn := wf_none hwf
  obtain ⟨kd, op, ty, bd, nm, ⟨xk, xo, xt, xn, xv, xa⟩, ⟨yk, yo, yt, yn, yv, ya⟩, body, els⟩ := s
  simp only [Sm.cells, Ex.cells, List.cons_append, List.nil_append]
  unfold b166
  by_cases hl : lp = 0
  · subst hl
    simp -dsimp -implicitDefEqProofs [hn0, hn, del_none, h1]
    exact fin_bump hwf (by simp [eraseA])
  · have hb : (lp == 0) = false := by simpa using hl
    simp -dsimp -implicitDefEqProofs [hn0, hn, del_none, h1, hb]
    exact fin_bump hwf (by simp [eraseA, hl])
def setT (k : Ke) (sc : Scope) (nm : Str) (x : Ex) : Int := match findP sc nm [3] with
  | none => 30
  | some v => asT k sc x v.typ
theorem d163 {st : St} {o mo : Nat} {k : Ke} {sc : Scope} {inF : Bool} {lp : Int} (hin : InR k sc) (h : Sees st o mo k sc inF lp) (s : Sm) (har : s.x.ar) :
   Det Tryz.prog w0 base 163 [.ptr o 0, .agg s.cells] st (vi (setT k sc s.name s.x)) st := by
  refine det_self (enters_fn Tryz.func163 r163) fun hwf hfit => det_fn Tryz.func163 r163 rfl ?_
  clear hfit
  have h1 := h.row
  have g1 := hwf _ _ h1
  have hn0 := wf_none0 hwf
  have hn := wf_none hwf
  obtain ⟨kd, op, ty, bd, nm, x, y, body, els⟩ := s
  have hc : ∀ s t, Sees s o mo k sc inF lp → Det Tryz.prog w0 base 92 [.ptr o 0, .agg x.cells, vi t] s (vi (asT k sc x t)) s := fun s t hs => d92 hin hs x har t
  have bx := Ex.bare_cells x
  unfold setT
  simp only [Sm.x, Sm.name]
  obtain ⟨xk, xo, xt, xn, xv, xa⟩ := x
  obtain ⟨yk, yo, yt, yn, yv, ya⟩ := y
  simp only [Sm.cells, Ex.cells, List.cons_append, List.nil_append] at *
  generalize asT k sc (Ex.mk xk xo xt xn xv xa) = R1 at *
  unfold b163
  simp -dsimp -implicitDefEqProofs [hn0, hn, del_none]
  refine call_bare (d76 (h.bump _) nm [3]) (by simp [AV.bareL, AV.bare]) ?_
  rcases hf : findP sc nm [3] with _ | ⟨vk, vt, va⟩
  · simp -dsimp -implicitDefEqProofs [hn0, hn, del_none, foundAV]
    exact fin_bump hwf (by simp [eraseA])
  · simp -dsimp -implicitDefEqProofs [hn0, hn, del_none, foundAV, Thing.cells]
    refine call_bare (hc _ vt (h.bump _)) (by simpa [AV.bareL, AV.bare] using bx) ?_
    simp -dsimp -implicitDefEqProofs [hn0, hn, del_none]
    exact fin_bump hwf (by simp [eraseA])
def Ar.zero : Ar := ⟨[], 0, 0, 0⟩
def targetT (k : Ke) (sc : Scope) (nm : Str) (x y : Ex) : Ar × Int := match findP sc nm [0] with
  | none => (Ar.zero, 30)
  | some t => match k.arrays[t.at_.toNat]? with
    | none => (Ar.zero, 30)
    | some a => (a, if asT k sc x 1 = 0 then asT k sc y a.typ else asT k sc x 1)
theorem d204 {st : St} {o mo : Nat} {k : Ke} {sc : Scope} {inF : Bool} {lp : Int} (hin : InR k sc) (h : Sees st o mo k sc inF lp) (s : Sm) (har : s.x.ar) (har' : s.y.ar) :
   Det Tryz.prog w0 base 204 [.ptr o 0, .agg s.cells] st (.tuple [.agg (targetT k sc s.name s.x s.y).1.cells, vi (targetT k sc s.name s.x s.y).2]) st := by
  refine det_self (enters_fn Tryz.func204 r204) fun hwf hfit => det_fn Tryz.func204 r204 rfl ?_
  clear hfit
  have h1 := h.row
  have g1 := hwf _ _ h1
  have hn0 := wf_none0 hwf
  have hn := wf_none hwf
  obtain ⟨kd, op, ty, bd, nm, x, y, body, els⟩ := s
  have hc : ∀ s t, Sees s o mo k sc inF lp → Det Tryz.prog w0 base 92 [.ptr o 0, .agg x.cells, vi t] s (vi (asT k sc x t)) s := fun s t hs => d92 hin hs x har t
  have hd : ∀ s t, Sees s o mo k sc inF lp → Det Tryz.prog w0 base 92 [.ptr o 0, .agg y.cells, vi t] s (vi (asT k sc y t)) s := fun s t hs => d92 hin hs y har' t
  have bx := Ex.bare_cells x
  have bY := Ex.bare_cells y
  unfold targetT
  simp only [Sm.x, Sm.name, Sm.y]
  obtain ⟨xk, xo, xt, xn, xv, xa⟩ := x
  obtain ⟨yk, yo, yt, yn, yv, ya⟩ := y
  simp only [Sm.cells, Ex.cells, List.cons_append, List.nil_append] at *
  generalize asT k sc (Ex.mk xk xo xt xn xv xa) = R1 at *
  generalize asT k sc (Ex.mk yk yo yt yn yv ya) = R2 at *
  unfold b204
  simp -dsimp -implicitDefEqProofs [hn0, hn, del_none, old_ne, old_ne0, new_ne, new_ne0, g1]
  refine call_bare (d76 (h.same hwf (fun p hp => by simp [hp, old_ne, old_ne0])) nm [0]) (by simp [AV.bareL, AV.bare]) ?_
  rcases hf : findP sc nm [0] with _ | ⟨vk, vt, va⟩
  · simp -dsimp -implicitDefEqProofs [hn0, hn, del_none, old_ne, old_ne0, new_ne, new_ne0, g1, foundAV]
    refine fin_pure hwf (fun p hp => by simp [hp, old_ne, old_ne0]) (by simp [eraseA, eraseL, Ar.zero, Ar.cells])
  · obtain ⟨i, F, hi, hF⟩ := findP_arr hin hf
    subst hi
    have hrow := @rowOf_at _ Ar.cells 4 Ar.cells_len k.arrays i F hF
    have hle := @rowOf_le _ Ar.cells 4 Ar.cells_len k.arrays i F hF
    generalize hcF : rowOf Ar.cells k.arrays = cF at *
    have hlt : i < k.arrays.length := (List.getElem?_eq_some_iff.1 hF).1
    have hlt' : (i : Int) < (k.arrays.length : Int) := by omega
    have hF' : k.arrays[(i : Int).toNat]? = some F := hF
    simp only [hF']
    generalize hL : k.arrays.length = L at *
    obtain ⟨an, asp, at_, al⟩ := F
    simp only [Ar.cells] at *
    simp -dsimp -implicitDefEqProofs [hn0, hn, del_none, old_ne, old_ne0, new_ne, new_ne0, g1, foundAV, Thing.cells, h1, hlt, hlt', hrow, hle]
    refine call_bare (hc _ 1 (h.same hwf (fun p hp => by simp [hp, old_ne, old_ne0]))) (by simpa [AV.bareL, AV.bare] using bx) ?_
    by_cases hx : R1 1 = 0
    · simp -dsimp -implicitDefEqProofs [hn0, hn, del_none, old_ne, old_ne0, new_ne, new_ne0, g1, hx]
      refine call_bare (hd _ at_ (h.same hwf (fun p hp => by simp [hp, old_ne, old_ne0]))) (by simpa [AV.bareL, AV.bare] using bY) ?_
      simp -dsimp -implicitDefEqProofs [hn0, hn, del_none, old_ne, old_ne0, new_ne, new_ne0, g1]
      refine fin_pure hwf (fun p hp => by simp [hp, old_ne, old_ne0]) (by simp [eraseA, eraseL, hx])
    · have hb : (R1 1 == 0) = false := by simpa using hx
      simp -dsimp -implicitDefEqProofs [hn0, hn, del_none, old_ne, old_ne0, new_ne, new_ne0, g1, hb]
      refine fin_pure hwf (fun p hp => by simp [hp, old_ne, old_ne0]) (by simp [eraseA, eraseL, hx])
end Go.Proofs.YthaekebedmoipaaGreatDoor.AM

/- Contracts: checks of kinds of statements. -/
set_option linter.unusedVariables false
set_option linter.unusedSimpArgs false
set_option maxRecDepth 100000
namespace Go.Proofs.YthaekebedmoipaaGreatDoor.AM
open Go Go.RowKit
variable {w0 : World} {base : Nat}

theorem d167 {st : St} {o mo : Nat} {k : Ke} {sc : Scope} {inF : Bool} {lp : Int} (hin : InR k sc) (h : Sees st o mo k sc inF lp) (s : Sm) (har : s.x.ar) (har' : s.y.ar) :
   Det Tryz.prog w0 base 167 [.ptr o 0, .agg s.cells] st (vi (targetT k sc s.name s.x s.y).2) st := by
  refine det_self (enters_fn Tryz.func167 r167) fun hwf hfit => det_fn Tryz.func167 r167 rfl ?_
  clear hfit
  have hn0 := wf_none0 hwf
  have hn := wf_none hwf
  have hc : ∀ q, Sees q o mo k sc inF lp → Det Tryz.prog w0 base 204 [.ptr o 0, .agg s.cells] q _ q := fun q hs => d204 hin hs s har har'
  have bs := Sm.bare_cells s
  generalize targetT k sc s.name s.x s.y = R1 at *
  obtain ⟨⟨an, asp, at_, al⟩, f⟩ := R1
  obtain ⟨kd, op, ty, bd, nm, x, y, body, els⟩ := s
  obtain ⟨xk, xo, xt, xn, xv, xa⟩ := x
  obtain ⟨yk, yo, yt, yn, yv, ya⟩ := y
  simp only [Sm.cells, Ex.cells, List.cons_append, List.nil_append, Ar.cells] at *
  unfold b167
  simp -dsimp -implicitDefEqProofs [hn0, hn, del_none]
  refine call_bare (hc _ (h.bump _)) (by simpa [AV.bareL, AV.bare] using bs) ?_
  simp -dsimp -implicitDefEqProofs [hn0, hn, del_none]
  exact fin_bump hwf (by simp [eraseA])
def atomT (k : Ke) (sc : Scope) (op : Int) (nm : Str) (x y : Ex) : Int :=
  if (targetT k sc nm x y).2 ≠ 0 then (targetT k sc nm x y).2 else
  if (binTypeP op (targetT k sc nm x y).1.typ (targetT k sc nm x y).1.typ).2 ≠ 0 ∨ (targetT k sc nm x y).1.space = 3 then 31 else 0
theorem d168 {st : St} {o mo : Nat} {k : Ke} {sc : Scope} {inF : Bool} {lp : Int} (hin : InR k sc) (h : Sees st o mo k sc inF lp) (s : Sm) (har : s.x.ar) (har' : s.y.ar) :
   Det Tryz.prog w0 base 168 [.ptr o 0, .agg s.cells] st (vi (atomT k sc s.op s.name s.x s.y)) st := by
  refine det_self (enters_fn Tryz.func168 r168) fun hwf hfit => det_fn Tryz.func168 r168 rfl ?_
  clear hfit
  have hn0 := wf_none0 hwf
  have hn := wf_none hwf
  have hc : ∀ q, Sees q o mo k sc inF lp → Det Tryz.prog w0 base 204 [.ptr o 0, .agg s.cells] q _ q := fun q hs => d204 hin hs s har har'
  have bs := Sm.bare_cells s
  unfold atomT
  generalize targetT k sc s.name s.x s.y = R1 at *
  obtain ⟨⟨an, asp, at_, al⟩, f⟩ := R1
  obtain ⟨kd, op, ty, bd, nm, x, y, body, els⟩ := s
  obtain ⟨xk, xo, xt, xn, xv, xa⟩ := x
  obtain ⟨yk, yo, yt, yn, yv, ya⟩ := y
  simp only [Sm.cells, Ex.cells, List.cons_append, List.nil_append, Ar.cells, Sm.op] at *
  unfold b168
  simp -dsimp -implicitDefEqProofs [hn0, hn, del_none]
  refine call_bare (hc _ (h.bump _)) (by simpa [AV.bareL, AV.bare] using bs) ?_
  simp -dsimp -implicitDefEqProofs [hn0, hn, del_none]
  refine Br_iff (fun hb => ?_) (fun hb => ?_)
  · have hf : f ≠ 0 := by simpa using hb
    simp -dsimp -implicitDefEqProofs [hn0, hn, del_none]
    exact fin_bump hwf (by simp [eraseA, hf])
  · have hf : f = 0 := by simpa using hb
    subst hf
    simp -dsimp -implicitDefEqProofs [hn0, hn, del_none]
    refine call_of (d24 _ _ _ _) ?_
    generalize binTypeP op at_ at_ = R2
    obtain ⟨u, g⟩ := R2
    by_cases hg : g = 0
    · subst hg
      simp -dsimp -implicitDefEqProofs [hn0, hn, del_none]
      refine Br_iff (fun hb => ?_) (fun hb => ?_)
      · have ha : asp = 3 := by simpa using hb
        simp -dsimp -implicitDefEqProofs [hn0, hn, del_none]
        exact fin_bump hwf (by simp [eraseA, ha])
      · have ha : ¬ asp = 3 := by simpa using hb
        simp -dsimp -implicitDefEqProofs [hn0, hn, del_none]
        exact fin_bump hwf (by simp [eraseA, ha])
    · have hb : (g != 0) = true := by simpa using hg
      simp -dsimp -implicitDefEqProofs [hn0, hn, del_none, hb]
      exact fin_bump hwf (by simp [eraseA, hg])
def fitsT (op t vt : Int) : Bool := if op = 1 then t == 3 && vt == 1 else if op = 2 ∨ op = 3 then t == vt && t == 3 else if op = 5 ∨ op = 6 then t == vt && t != 3 else t == vt
def collectT (k : Ke) (sc : Scope) (op : Int) (nm : Str) (x y : Ex) : Int := match findP sc nm [3] with
  | none => 30
  | some v => if (if (exprT k sc x).2 = 0 ∧ op = 4 then asT k sc y 1 else (exprT k sc x).2) ≠ 0 then (if (exprT k sc x).2 = 0 ∧ op = 4 then asT k sc y 1 else (exprT k sc x).2)
    else if fitsT op (exprT k sc x).1 v.typ then 0 else 31
def b169r : SCode := (.seq (.seq (.reg [m 38 8, ⟨(some 39), none, (.pe (.bin .int .neq (t 38) (i 0)))⟩]) (.cond (t 39) (.seq (.reg [m 40 8, m 4 40]) .ret) .skip)) (.seq (.reg [m 41 7, ⟨(some 42), none, (.pe (.fldA 1 (t 5)))⟩, ⟨(some 43), none, (.load 1 false (t 42))⟩, ⟨(some 44), none, (.pe (.bin .int .eql (t 41) (t 43)))⟩, m 9 44]) (.seq (.seq (.reg [⟨(some 45), none, (.pe (.fldA 1 (t 3)))⟩, ⟨(some 46), none, (.load 1 false (t 45))⟩]) (.block 0 (.seq (.reg [⟨(some 48), none, (.pe (.bin .int .eql (t 46) (i 1)))⟩, m 47 48]) (.cond (t 47) (.reg [m 49 7, ⟨(some 50), none, (.pe (.bin .int .eql (t 49) (i 3)))⟩, m 51 50, ⟨(some 52), (some (51, true)), (.pe (.fldA 1 (t 5)))⟩, ⟨(some 53), (some (51, true)), (.load 1 false (t 52))⟩, ⟨(some 54), (some (51, true)), (.pe (.bin .int .eql (t 53) (i 1)))⟩, ⟨(some 55), none, (.pe (.pick (t 51) (t 54) (.lit (.bool false))))⟩, m 9 55]) (.seq (.seq (.reg [⟨(some 57), none, (.pe (.bin .int .eql (t 46) (i 2)))⟩, m 56 57]) (.cond (t 56) .skip (.reg [⟨(some 58), none, (.pe (.bin .int .eql (t 46) (i 3)))⟩, m 56 58]))) (.cond (t 56) (.reg [m 59 9, m 60 59, ⟨(some 61), (some (60, true)), (.pe (.mov (t 7)))⟩, ⟨(some 62), (some (60, true)), (.pe (.bin .int .eql (t 61) (i 3)))⟩, ⟨(some 63), none, (.pe (.pick (t 60) (t 62) (.lit (.bool false))))⟩, m 9 63]) (.seq (.seq (.reg [⟨(some 65), none, (.pe (.bin .int .eql (t 46) (i 5)))⟩, m 64 65]) (.cond (t 64) .skip (.reg [⟨(some 66), none, (.pe (.bin .int .eql (t 46) (i 6)))⟩, m 64 66]))) (.cond (t 64) (.reg [m 67 9, m 68 67, ⟨(some 69), (some (68, true)), (.pe (.mov (t 7)))⟩, ⟨(some 70), (some (68, true)), (.pe (.bin .int .neq (t 69) (i 3)))⟩, ⟨(some 71), none, (.pe (.pick (t 68) (t 70) (.lit (.bool false))))⟩, m 9 71]) .skip)))))))) (.seq (.seq (.reg [m 72 9, ⟨(some 73), none, (.pe (.un .not (t 72)))⟩]) (.cond (t 73) (.seq (.reg [⟨(some 4), none, (.pe (.mov (i 31)))⟩]) .ret) .skip)) (.seq (.reg [⟨(some 4), none, (.pe (.mov (i 0)))⟩]) .ret)))))
theorem d169 {st : St} {o mo : Nat} {k : Ke} {sc : Scope} {inF : Bool} {lp : Int} (hin : InR k sc) (h : Sees st o mo k sc inF lp) (s : Sm) (har : s.x.ar) (har' : s.y.ar) :
   Det Tryz.prog w0 base 169 [.ptr o 0, .agg s.cells] st (vi (collectT k sc s.op s.name s.x s.y)) st := by
  refine det_self (enters_fn Tryz.func169 r169) fun hwf hfit => det_fn Tryz.func169 r169 rfl ?_
  clear hfit
  have hn0 := wf_none0 hwf
  have hn := wf_none hwf
  obtain ⟨kd, op, ty, bd, nm, x, y, body, els⟩ := s
  have hc : ∀ q, Sees q o mo k sc inF lp → Det Tryz.prog w0 base 46 [.ptr o 0, .agg x.cells] q (tup (exprT k sc x)) q := fun q hs => d46 hin x har q hs
  have hd : ∀ s t, Sees s o mo k sc inF lp → Det Tryz.prog w0 base 92 [.ptr o 0, .agg y.cells, vi t] s (vi (asT k sc y t)) s := fun s t hs => d92 hin hs y har' t
  have bx := Ex.bare_cells x
  have bY := Ex.bare_cells y
  unfold collectT
  simp only [Sm.x, Sm.name, Sm.y, Sm.op]
  obtain ⟨xk, xo, xt, xn, xv, xa⟩ := x
  obtain ⟨yk, yo, yt, yn, yv, ya⟩ := y
  simp only [Sm.cells, Ex.cells, List.cons_append, List.nil_append] at *
  generalize exprT k sc (Ex.mk xk xo xt xn xv xa) = R1 at *
  generalize asT k sc (Ex.mk yk yo yt yn yv ya) = R2 at *
  obtain ⟨t, f⟩ := R1
  unfold b169
  simp -dsimp -implicitDefEqProofs [hn0, hn, del_none]
  refine call_bare (d76 (h.bump _) nm [3]) (by simp [AV.bareL, AV.bare]) ?_
  rcases hf : findP sc nm [3] with _ | ⟨vk, vt, va⟩
  · simp -dsimp -implicitDefEqProofs [hn0, hn, del_none, foundAV]
    exact fin_bump hwf (by simp [eraseA])
  · have main : ∀ (e : Env) (n : Nat) (g : Int) (X : AV), e 8 = vi g → e 7 = vi t → e 3 = .iptr [vi kd, vi op, vi ty, vi bd, .str nm, vi xk, vi xo, vi xt, .str xn, .int .i32 xv, .sl (Ex.cellsL xa) xa.length .no, vi yk, vi yo, vi yt, .str yn, .int .i32 yv, .sl (Ex.cellsL ya) ya.length .no, .sl (Sm.cellsL body) body.length .no, .sl (Sm.cellsL els) els.length .no] 0 → e 5 = .iptr [vi vk, vi vt, vi va] 0 → vi (if g = 0 then if fitsT op t vt = true then 0 else 31 else g) = X →
        awp Tryz.prog w0 base b169r e [] (st.bump n) (Ends Tryz.prog w0 base [.tmp 4] st X st) := by
      intro e n g X e8 e7 e3 e5 hX
      unfold b169r
      simp -dsimp -implicitDefEqProofs [e8, e7, e3, e5]
      refine Br_iff (fun hb => ?_) (fun hb => ?_)
      · have hg : g ≠ 0 := by simpa using hb
        simp -dsimp -implicitDefEqProofs [e8, e7, e3, e5]
        exact fin_bump hwf (by rw [← hX, if_neg hg]; simp [eraseA])
      · have hg : g = 0 := by simpa using hb
        subst hg
        have ho : op = 1 ∨ (op = 2 ∨ op = 3) ∨ (op = 5 ∨ op = 6) ∨ ((op == 1) = false ∧ (op == 2) = false ∧ (op == 3) = false ∧ (op == 5) = false ∧ (op == 6) = false) := by
          simp only [beq_eq_false_iff_ne]; omega
        have ht : t = 3 ∨ (t == 3) = false ∧ (t != 3) = true := by
          simp only [beq_eq_false_iff_ne, bne_iff_ne]; omega
        have hv : t = vt ∨ (t == vt) = false := by
          simp only [beq_eq_false_iff_ne]; omega
        have hv1 : vt = 1 ∨ (vt == 1) = false := by
          simp only [beq_eq_false_iff_ne]; omega
        rcases ho with rfl | (rfl | rfl) | (rfl | rfl) | ⟨o1, o2, o3, o5, o6⟩
        · rcases ht with rfl | ⟨ht, ht'⟩
          · rcases hv1 with rfl | hv1
            · simp -dsimp -implicitDefEqProofs [e8, e7, e3, e5]
              exact fin_bump hwf (by rw [← hX]; simp [eraseA, fitsT])
            · simp -dsimp -implicitDefEqProofs [e8, e7, e3, e5, hv1]
              exact fin_bump hwf (by rw [← hX]; simp [eraseA, fitsT, hv1])
          · simp -dsimp -implicitDefEqProofs [e8, e7, e3, e5, ht]
            exact fin_bump hwf (by rw [← hX]; simp [eraseA, fitsT, ht])
        · rcases hv with rfl | hv
          · rcases ht with rfl | ⟨ht, ht'⟩
            · simp -dsimp -implicitDefEqProofs [e8, e7, e3, e5]
              exact fin_bump hwf (by rw [← hX]; simp [eraseA, fitsT])
            · simp -dsimp -implicitDefEqProofs [e8, e7, e3, e5, ht, ht']
              exact fin_bump hwf (by rw [← hX]; simp [eraseA, fitsT, ht, ht'])
          · simp -dsimp -implicitDefEqProofs [e8, e7, e3, e5, hv]
            exact fin_bump hwf (by rw [← hX]; simp [eraseA, fitsT, hv])
        · rcases hv with rfl | hv
          · rcases ht with rfl | ⟨ht, ht'⟩
            · simp -dsimp -implicitDefEqProofs [e8, e7, e3, e5]
              exact fin_bump hwf (by rw [← hX]; simp [eraseA, fitsT])
            · simp -dsimp -implicitDefEqProofs [e8, e7, e3, e5, ht, ht']
              exact fin_bump hwf (by rw [← hX]; simp [eraseA, fitsT, ht, ht'])
          · simp -dsimp -implicitDefEqProofs [e8, e7, e3, e5, hv]
            exact fin_bump hwf (by rw [← hX]; simp [eraseA, fitsT, hv])
        · rcases hv with rfl | hv
          · rcases ht with rfl | ⟨ht, ht'⟩
            · simp -dsimp -implicitDefEqProofs [e8, e7, e3, e5]
              exact fin_bump hwf (by rw [← hX]; simp [eraseA, fitsT])
            · simp -dsimp -implicitDefEqProofs [e8, e7, e3, e5, ht, ht']
              exact fin_bump hwf (by rw [← hX]; simp [eraseA, fitsT, ht, ht'])
          · simp -dsimp -implicitDefEqProofs [e8, e7, e3, e5, hv]
            exact fin_bump hwf (by rw [← hX]; simp [eraseA, fitsT, hv])
        · rcases hv with rfl | hv
          · rcases ht with rfl | ⟨ht, ht'⟩
            · simp -dsimp -implicitDefEqProofs [e8, e7, e3, e5]
              exact fin_bump hwf (by rw [← hX]; simp [eraseA, fitsT])
            · simp -dsimp -implicitDefEqProofs [e8, e7, e3, e5, ht, ht']
              exact fin_bump hwf (by rw [← hX]; simp [eraseA, fitsT, ht, ht'])
          · simp -dsimp -implicitDefEqProofs [e8, e7, e3, e5, hv]
            exact fin_bump hwf (by rw [← hX]; simp [eraseA, fitsT, hv])
        · have n1 : op ≠ 1 := by simpa using o1
          have n2 : op ≠ 2 := by simpa using o2
          have n3 : op ≠ 3 := by simpa using o3
          have n5 : op ≠ 5 := by simpa using o5
          have n6 : op ≠ 6 := by simpa using o6
          rcases hv with rfl | hv
          · simp -dsimp -implicitDefEqProofs [e8, e7, e3, e5, o1, o2, o3, o5, o6]
            exact fin_bump hwf (by rw [← hX]; simp [eraseA, fitsT, o1, o2, o3, o5, o6, n1, n2, n3, n5, n6])
          · simp -dsimp -implicitDefEqProofs [e8, e7, e3, e5, hv, o1, o2, o3, o5, o6]
            exact fin_bump hwf (by rw [← hX]; simp [eraseA, fitsT, hv, o1, o2, o3, o5, o6, n1, n2, n3, n5, n6])
    simp -dsimp -implicitDefEqProofs [hn0, hn, del_none, foundAV, Thing.cells]
    refine call_bare (hc _ (h.bump _)) (by simpa [AV.bareL, AV.bare] using bx) ?_
    by_cases hf : f = 0
    · subst hf
      by_cases ho : op = 4
      · subst ho
        generalize hX : vi (if (if (0 : Int) = 0 ∧ (4 : Int) = 4 then R2 1 else (0 : Int)) ≠ 0 then (if (0 : Int) = 0 ∧ (4 : Int) = 4 then R2 1 else (0 : Int)) else if fitsT (4 : Int) t vt = true then 0 else 31) = X
        simp -dsimp -implicitDefEqProofs [hn0, hn, del_none, foundAV, Thing.cells, tup, -awp_seq]
        rw [awp_seq, awp_seq]
        simp -dsimp -implicitDefEqProofs [hn0, hn, del_none, foundAV, Thing.cells, tup, -awp_seq]
        refine call_bare (hd _ 1 (h.bump _)) (by simpa [AV.bareL, AV.bare] using bY) ?_
        simp -dsimp -implicitDefEqProofs [hn0, hn, del_none, foundAV, Thing.cells, tup, -awp_seq]
        exact main _ _ (R2 1) _ (by simp) (by simp) (by simp) (by simp) (by rw [← hX]; simp)
      · have hb : (op == 4) = false := by simpa using ho
        generalize hX : vi (if (if (0 : Int) = 0 ∧ op = 4 then R2 1 else (0 : Int)) ≠ 0 then (if (0 : Int) = 0 ∧ op = 4 then R2 1 else (0 : Int)) else if fitsT op t vt = true then 0 else 31) = X
        simp -dsimp -implicitDefEqProofs [hn0, hn, del_none, foundAV, Thing.cells, tup, hb, -awp_seq]
        rw [awp_seq, awp_seq]
        simp -dsimp -implicitDefEqProofs [hn0, hn, del_none, foundAV, Thing.cells, tup, hb, -awp_seq]
        exact main _ _ 0 _ (by simp) (by simp) (by simp) (by simp) (by rw [← hX]; simp [ho])
    · have hb : (f == 0) = false := by simpa using hf
      generalize hX : vi (if (if f = 0 ∧ op = 4 then R2 1 else f) ≠ 0 then (if f = 0 ∧ op = 4 then R2 1 else f) else if fitsT op t vt = true then 0 else 31) = X
      simp -dsimp -implicitDefEqProofs [hn0, hn, del_none, foundAV, Thing.cells, tup, hb, -awp_seq]
      rw [awp_seq, awp_seq]
      simp -dsimp -implicitDefEqProofs [hn0, hn, del_none, foundAV, Thing.cells, tup, hb, -awp_seq]
      exact main _ _ f _ (by simp) (by simp) (by simp) (by simp) (by rw [← hX]; simp [hf])
end Go.Proofs.YthaekebedmoipaaGreatDoor.AM

/- Contracts: declarations in bodies; the map of checks. -/
set_option linter.unusedVariables false
set_option linter.unusedSimpArgs false
set_option maxRecDepth 100000
namespace Go.Proofs.YthaekebedmoipaaGreatDoor.AM
open Go Go.RowKit
variable {w0 : World} {base : Nat}

theorem put_self {st : St} {o : Nat} {x : AObj} (h : st.objs o = some x) : st.put o x = st := by
  cases st
  simp only [St.put, St.mk.injEq, and_true] at *
  funext j
  simp only [upd]
  split
  · rename_i e; rw [e]; exact h.symm
  · rfl
def varT (k : Ke) (sc : Scope) (ty : Int) (nm : Str) (x : Ex) : Scope × Int :=
  if (exprT k sc x).2 ≠ 0 then (sc, (exprT k sc x).2) else ((declP sc nm ⟨3, ty, 0⟩).1, if (declP sc nm ⟨3, ty, 0⟩).2 = false then 30 else if (exprT k sc x).1 ≠ ty then 31 else 0)
theorem d162 {st : St} {o mo : Nat} {k : Ke} {sc : Scope} {inF : Bool} {lp : Int} (hin : InR k sc) (h : Sees st o mo k sc inF lp) (s : Sm) (har : s.x.ar) :
   Det Tryz.prog w0 base 162 [.ptr o 0, .agg s.cells] st (vi (varT k sc s.typ s.name s.x).2) (st.put mo (.map (varT k sc s.typ s.name s.x).1.enc)) := by
  refine det_put (enters_fn Tryz.func162 r162) h.map fun hwf hfit => det_fn Tryz.func162 r162 rfl ?_
  clear hfit
  have hO := own_start hwf h.map
  have hn0 := wf_none0 hwf
  have hn := wf_none hwf
  obtain ⟨kd, op, ty, bd, nm, x, y, body, els⟩ := s
  have hc : ∀ q, Sees q o mo k sc inF lp → Det Tryz.prog w0 base 46 [.ptr o 0, .agg x.cells] q (tup (exprT k sc x)) q := fun q hs => d46 hin x har q hs
  have bx := Ex.bare_cells x
  unfold varT
  simp only [Sm.x, Sm.name, Sm.typ]
  obtain ⟨xk, xo, xt, xn, xv, xa⟩ := x
  obtain ⟨yk, yo, yt, yn, yv, ya⟩ := y
  simp only [Sm.cells, Ex.cells, List.cons_append, List.nil_append] at *
  generalize exprT k sc (Ex.mk xk xo xt xn xv xa) = R1 at *
  obtain ⟨t, f⟩ := R1
  unfold b162
  simp -dsimp -implicitDefEqProofs [hn0, hn, del_none]
  refine call_bare (hc _ (h.bump _)) (by simpa [AV.bareL, AV.bare] using bx) ?_
  by_cases hf : f = 0
  · subst hf
    simp -dsimp -implicitDefEqProofs [hn0, hn, del_none, tup]
    refine own_call (own_bump hO _) (d90 (h.bump _) nm ⟨3, ty, 0⟩) (by simp [AV.bareL, AV.bare, Thing.cells]) fun s q0 q hs hlt hI => ?_
    generalize declP sc nm ⟨3, ty, 0⟩ = D at *
    obtain ⟨sc', b⟩ := D
    have hu := map_under (· < st.next) sc'
    cases b
    · simp -dsimp -implicitDefEqProofs [q0, q, del_none]
      refine fin_own hwf (own_bump hI _) hu (by simp [eraseA])
    · simp -dsimp -implicitDefEqProofs [q0, q, del_none]
      refine Br_iff (fun hb => ?_) (fun hb => ?_)
      · have hne : ¬ t = ty := by simpa using hb
        simp -dsimp -implicitDefEqProofs [q0, q, del_none]
        refine fin_own hwf (own_bump hI _) (by simpa using hu) (by simp [eraseA, hne])
      · have hne : t = ty := by simpa using hb
        simp -dsimp -implicitDefEqProofs [q0, q, del_none]
        refine fin_own hwf (own_bump hI _) (by simpa using hu) (by simp [eraseA, hne])
  · have hb : (f != 0) = true := by simpa using hf
    simp -dsimp -implicitDefEqProofs [hn0, hn, del_none, tup, hb]
    simp only [hf, ne_eq, not_false_eq_true, if_true]
    refine fin_own hwf (own_bump hO _) (map_under _ _) (by simp [eraseA])

/-! #### the map of checks -/
def fnAV (f : FuncId) (first : List AV) : AV := .func (.func f) first []
def kinds0 (o : Nat) : List (AV × AV) := [(vi 1, fnAV 162 [.ptr o 0]), (vi 2, fnAV 163 [.ptr o 0]), (vi 5, fnAV 164 [.ptr o 0]), (vi 6, fnAV 165 [.ptr o 0]), (vi 7, fnAV 166 [.ptr o 0]), (vi 8, fnAV 166 [.ptr o 0]), (vi 3, fnAV 167 [.ptr o 0]), (vi 4, fnAV 168 [.ptr o 0]), (vi 12, fnAV 169 [.ptr o 0])]
def kindsJ (o : Nat) : Nat → List (AV × AV)
  | 0 => kinds0 o
  | 1 => (kinds0 o).set 6 (vi 3, fnAV 170 [])
  | 2 => ((kinds0 o).set 6 (vi 3, fnAV 170 [])).set 7 (vi 4, fnAV 170 [])
  | 3 => ((kinds0 o).set 6 (vi 3, fnAV 170 [])).set 7 (vi 4, fnAV 170 []) ++ [(vi 9, fnAV 170 [])]
  | 4 => ((kinds0 o).set 6 (vi 3, fnAV 170 [])).set 7 (vi 4, fnAV 170 []) ++ [(vi 9, fnAV 170 []), (vi 10, fnAV 170 [])]
  | 5 => ((kinds0 o).set 6 (vi 3, fnAV 170 [])).set 7 (vi 4, fnAV 170 []) ++ [(vi 9, fnAV 170 []), (vi 10, fnAV 170 []), (vi 11, fnAV 170 [])]
  | _ => (((kinds0 o).set 6 (vi 3, fnAV 170 [])).set 7 (vi 4, fnAV 170 []) ++ [(vi 9, fnAV 170 []), (vi 10, fnAV 170 []), (vi 11, fnAV 170 [])]).set 8 (vi 12, fnAV 170 [])
def kindsM (o : Nat) (inF : Bool) : List (AV × AV) := kindsJ o (if inF then 6 else 0)
/-- A map beside what was. -/
structure NewM (st : St) (q : Nat) (es : List (AV × AV)) (s : St) : Prop where
  ge : st.next ≤ q
  lt : q < s.next
  at_ : s.objs q = some (.map es)
  old : ∀ p, p ≠ q → s.objs p = st.objs p
theorem NewM.bump {st s : St} {q : Nat} {es : List (AV × AV)} (h : NewM st q es s) (k : Nat) : NewM st q es (s.bump k) := ⟨h.ge, Nat.lt_of_lt_of_le h.lt (Nat.le_add_right _ _), h.at_, h.old⟩
theorem w136 {st : St} {o mo : Nat} {k : Ke} {sc : Scope} {inF : Bool} {lp : Int} (hwf : st.wf) (h : Sees st o mo k sc inF lp) :
   CallW Tryz.prog w0 base 136 [.ptr o 0] st (fun v s => ∃ q, v = .map q ∧ NewM st q (kindsM o inF) s) := by
  refine callW_fn Tryz.func136 r136 rfl ?_
  have h1 := h.row
  have g1 := hwf _ _ h1
  have hn0 := wf_none0 hwf
  have hn := wf_none hwf
  unfold b136
  cases inF
  · simp -dsimp -implicitDefEqProofs [hn0, hn, del_none, h1, old_ne, old_ne0, new_ne, new_ne0, g1]
    refine hold ⟨st.next + 1, rfl, Nat.le_add_right _ _, by simp, by simp [kindsM, kindsJ, kinds0, fnAV], fun p hp => by simp [hp]⟩
  · simp -dsimp -implicitDefEqProofs [hn0, hn, del_none, h1, old_ne, old_ne0, new_ne, new_ne0, g1]
    refine range_by (d := 33) (x := 32) (n := 31) (y := 38) 6 (fun j e s => NewM st (st.next + 1) (kindsJ o j) s) (by decide) (by simp) (by simp) ⟨Nat.le_add_right _ _, by simp, by simp [kindsM, kindsJ, kinds0, fnAV], fun p hp => by simp [hp]⟩ rfl (fun j e e' s k h _ => h.bump k) ?_ ?_
    · rintro j e s hj hf hx hI
      have e30 : e 30 = .sl [vi 3, vi 4, vi 9, vi 10, vi 11, vi 12] 6 .full := by rw [hf 30 rfl]; simp
      have e3 : e 3 = .map (st.next + 1) := by rw [hf 3 rfl]; simp
      have ha := hI.at_
      have : j = 0 ∨ j = 1 ∨ j = 2 ∨ j = 3 ∨ j = 4 ∨ j = 5 := by omega
      rcases this with rfl | rfl | rfl | rfl | rfl | rfl
      all_goals
        simp [kindsJ, kinds0, fnAV] at hx ha
        simp -dsimp -implicitDefEqProofs [e30, e3, hx, ha]
        refine hold ⟨hI.ge, Nat.lt_of_lt_of_le hI.lt (Nat.le_add_right _ _), by simp [kindsJ, kinds0, fnAV], fun p hp => by simp [hp, hI.old p hp]⟩
    · rintro e s hf hI
      have e3 : e 3 = .map (st.next + 1) := by rw [hf 3 rfl]; simp
      simp -dsimp -implicitDefEqProofs [e3]
      exact hold ⟨st.next + 1, rfl, hI.bump _⟩
end Go.Proofs.YthaekebedmoipaaGreatDoor.AM

/- Contracts: scopes. -/
set_option linter.unusedVariables false
set_option linter.unusedSimpArgs false
set_option maxRecDepth 100000
namespace Go.Proofs.YthaekebedmoipaaGreatDoor.AM
open Go Go.RowKit
variable {w0 : World} {base : Nat}

mutual
def stmtT (k : Ke) (inF : Bool) : Sm → Int → Scope → Scope × Int
  | .mk kd op ty bd nm x y body els, lp, sc =>
    if inF = true ∧ (kd = 3 ∨ kd = 4 ∨ kd = 9 ∨ kd = 10 ∨ kd = 11 ∨ kd = 12) then (sc, 31)
    else if kd = 1 then varT k sc ty nm x
    else if kd = 2 then (sc, setT k sc nm x)
    else if kd = 5 then (sc, if asT k sc x 3 ≠ 0 then asT k sc x 3 else if (listT k inF body lp sc).2 ≠ 0 then (listT k inF body lp sc).2 else (listT k inF els lp sc).2)
    else if kd = 6 then (sc, if asT k sc x 3 ≠ 0 then asT k sc x 3 else if bd < 1 ∨ 1024 < bd then 1 else (listT k inF body (incW lp) sc).2)
    else if kd = 7 ∨ kd = 8 then (sc, if lp = 0 then 31 else 0)
    else if kd = 3 then (sc, (targetT k sc nm x y).2)
    else if kd = 4 then (sc, atomT k sc op nm x y)
    else if kd = 12 then (sc, collectT k sc op nm x y)
    else (sc, 0)
def listT (k : Ke) (inF : Bool) : List Sm → Int → Scope → Scope × Int
  | [], _, sc => (sc, 0)
  | s :: l, lp, sc => if (stmtT k inF s lp sc).2 ≠ 0 then stmtT k inF s lp sc else listT k inF l lp (stmtT k inF s lp sc).1
end
def ListC (w0 : World) (base : Nat) (k : Ke) (inF : Bool) (l : List Sm) : Prop := ∀ (st : St) (o mo : Nat) (sc : Scope) (lp : Int), InR k sc → IntKind.i64.wrap lp = lp → Sees st o mo k sc inF lp →
   Det Tryz.prog w0 base 91 [.ptr o 0, .sl (Sm.cellsL l) l.length .no] st (vi (listT k inF l lp sc).2) (st.put mo (.map (listT k inF l lp sc).1.enc))
def ScopeC (w0 : World) (base : Nat) (k : Ke) (inF : Bool) (l : List Sm) : Prop := ∀ (st : St) (o mo : Nat) (sc : Scope) (lp : Int), InR k sc → IntKind.i64.wrap lp = lp → Sees st o mo k sc inF lp →
   Det Tryz.prog w0 base 65 [.ptr o 0, .sl (Sm.cellsL l) l.length .no] st (vi (listT k inF l lp sc).2) st

theorem detD_fn {P : Program} {f : FuncId} {fn : Func} {N : Nat} {rs : List SRes} {b : SCode} (hf : P.funcs[f]? = some fn) (hs : resFunc P fn = some ⟨N, rs, b⟩) {args : List AV} {st st' : St} {r : AV} (hl : Nat.ble args.length N = true)
    (h : awp P w0 base b (initEnv args) [] st fun ex env ds s => (match ex with | .exit _ => False | _ => True) ∧ ds = [] ∧ ∃ vs, evalRes env s rs = some vs ∧ Fin st s (packRes vs) r st') : DetD P w0 base f args st st' :=
  detD_body hf hs (Nat.le_of_ble_eq_true hl) h
theorem e94 {st : St} {o ob ub mo mo' : Nat} {k : Ke} {inF : Bool} {lp : Int} (hu : st.objs ub = some (.cells 105 [.map mo])) (hb : st.objs ob = some (.cells 85 [.ptr o 0]))
   (ho : st.objs o = some (.cells 107 (k.cells ++ [.map mo', .bool inF, vi lp]))) :
   DetD Tryz.prog w0 base 94 [.ptr ub 0, .ptr ob 0] st ((st.bump 5).put o (.cells 107 (k.cells ++ [.map mo, .bool inF, vi lp]))) := by
  refine detD_fn (r := .tuple []) Tryz.func94 (show resFunc Tryz.prog Tryz.f94 = some ⟨6, [], b94⟩ from r94) rfl ?_
  unfold b94
  have h1 : st.objs o = some (.cells 107 [.str k.name, vi k.group, vi k.sub, .sl (rowOf Ar.cells k.arrays) k.arrays.length .no, .sl (rowOf Pa.cells k.params) k.params.length .no, .sl (rowOf Fu.cells k.funcs) k.funcs.length .no, .sl (Sm.cellsL k.body) k.body.length .no, .map mo', .bool inF, vi lp]) := ho
  simp -dsimp -implicitDefEqProofs [hu, hb, h1]
  exact .keep ⟨fun _ _ h => h, rfl⟩ rfl
theorem e203 {st : St} {o ob mo : Nat} {k : Ke} {inF : Bool} {lp lp' : Int} (hb : st.objs ob = some (.cells 85 [.ptr o 0]))
   (ho : st.objs o = some (.cells 107 (k.cells ++ [.map mo, .bool inF, vi lp']))) (hl : IntKind.i64.wrap (lp' - 1) = lp) :
   DetD Tryz.prog w0 base 203 [.ptr ob 0] st ((st.bump 8).put o (.cells 107 (k.cells ++ [.map mo, .bool inF, vi lp]))) := by
  refine detD_fn (r := .tuple []) Tryz.func203 (show resFunc Tryz.prog Tryz.f203 = some ⟨8, [], b203⟩ from r203) rfl ?_
  unfold b203
  have h1 : st.objs o = some (.cells 107 [.str k.name, vi k.group, vi k.sub, .sl (rowOf Ar.cells k.arrays) k.arrays.length .no, .sl (rowOf Pa.cells k.params) k.params.length .no, .sl (rowOf Fu.cells k.funcs) k.funcs.length .no, .sl (Sm.cellsL k.body) k.body.length .no, .map mo, .bool inF, vi lp']) := ho
  simp -dsimp -implicitDefEqProofs [hb, h1, hl]
  exact .keep ⟨fun _ _ h => h, rfl⟩ rfl
theorem scope_of {k : Ke} {inF : Bool} {l : List Sm} (hl : ListC w0 base k inF l) : ScopeC w0 base k inF l := by
  intro st o mo sc lp hin hlp h
  refine det_self (enters_fn Tryz.func65 r65) fun hwf hfit => det_fn Tryz.func65 r65 rfl ?_
  clear hfit
  have h1 := h.row
  have h2 := h.map
  have g1 := hwf _ _ h1
  have g2 := hwf _ _ h2
  have hn0 := wf_none0 hwf
  have hn := wf_none hwf
  have bl := Sm.bare_cellsL l
  have hc : ∀ (st : St) (o mo : Nat), Sees st o mo k sc inF lp → Det Tryz.prog w0 base 91 [.ptr o 0, .sl (Sm.cellsL l) l.length .no] st _ _ := fun st o mo hs => hl st o mo sc lp hin hlp hs
  generalize listT k inF l lp sc = R1 at *
  generalize Sm.cellsL l = cl at *
  obtain ⟨sc', f⟩ := R1
  unfold b65
  simp -dsimp -implicitDefEqProofs [hn0, hn, del_none, h1, g1, old_ne, old_ne0, new_ne, new_ne0]
  refine call_of (d93 (es := sc.enc) (by simp [h2, g2, old_ne, old_ne0])) ?_
  simp -dsimp -implicitDefEqProofs [hn0, hn, del_none, h1, g1, old_ne, old_ne0, new_ne, new_ne0]
  refine call_bare (hc _ o (st.next + 14) ⟨by simp; rfl, by simp [g1, new_ne]⟩) (by simp [AV.bareL, AV.bare, bl]) ?_
  simp -dsimp -implicitDefEqProofs [hn0, hn, del_none, h1, g1, old_ne, old_ne0, new_ne, new_ne0]
  refine runL_cons (e94 (mo' := st.next + 14) (k := k) (o := o) (inF := inF) (lp := lp) (mo := mo) (by simp [g1, old_ne, new_ne]) (by simp [g1, old_ne0, new_ne0]) (by simp [g1, old_ne, old_ne0]; rfl)) ?_
  simp -dsimp -implicitDefEqProofs [hn0, hn, del_none, h1, g1, old_ne, old_ne0, new_ne, new_ne0]
  refine fin_pure hwf (fun p hp => ?_) (by simp [eraseA])
  simp [hp, old_ne, old_ne0]
  by_cases hpo : p = o
  · rw [if_pos hpo, hpo]; exact h.obj.symm
  · rw [if_neg hpo, if_neg hpo]
end Go.Proofs.YthaekebedmoipaaGreatDoor.AM

/- Contracts: branches and loops. -/
set_option linter.unusedVariables false
set_option linter.unusedSimpArgs false
set_option maxRecDepth 100000
namespace Go.Proofs.YthaekebedmoipaaGreatDoor.AM
open Go Go.RowKit
variable {w0 : World} {base : Nat}

theorem incW_wrap (lp : Int) : IntKind.i64.wrap (incW lp) = incW lp := by
  have := wrap_add (lp + 1) 0
  simpa [incW] using this
theorem incW_dec {lp : Int} (h : IntKind.i64.wrap lp = lp) : IntKind.i64.wrap (incW lp - 1) = lp := by
  have := wrap_add (lp + 1) (-1)
  simp only [incW]
  rw [show IntKind.i64.wrap (lp + 1) - 1 = IntKind.i64.wrap (lp + 1) + -1 by omega, this, show lp + 1 + -1 = lp by omega, h]
theorem d164 {k : Ke} {inF : Bool} (s : Sm) (hb : ScopeC w0 base k inF s.body) (he : ScopeC w0 base k inF s.els) {st : St} {o mo : Nat} {sc : Scope} {lp : Int} (hin : InR k sc) (hlp : IntKind.i64.wrap lp = lp) (h : Sees st o mo k sc inF lp) (har : s.x.ar) :
   Det Tryz.prog w0 base 164 [.ptr o 0, .agg s.cells] st (vi (if asT k sc s.x 3 ≠ 0 then asT k sc s.x 3 else if (listT k inF s.body lp sc).2 ≠ 0 then (listT k inF s.body lp sc).2 else (listT k inF s.els lp sc).2)) st := by
  refine det_self (enters_fn Tryz.func164 r164) fun hwf hfit => det_fn Tryz.func164 r164 rfl ?_
  clear hfit
  have hn0 := wf_none0 hwf
  have hn := wf_none hwf
  obtain ⟨kd, op, ty, bd, nm, x, y, body, els⟩ := s
  have hc : ∀ s t, Sees s o mo k sc inF lp → Det Tryz.prog w0 base 92 [.ptr o 0, .agg x.cells, vi t] s (vi (asT k sc x t)) s := fun s t hs => d92 hin hs x har t
  have bx := Ex.bare_cells x
  have bb := Sm.bare_cellsL body
  have be := Sm.bare_cellsL els
  have hb : ∀ s, Sees s o mo k sc inF lp → Det Tryz.prog w0 base 65 [.ptr o 0, .sl (Sm.cellsL body) body.length .no] s (vi (listT k inF body lp sc).2) s := fun s hs => hb s o mo sc lp hin hlp hs
  have he : ∀ s, Sees s o mo k sc inF lp → Det Tryz.prog w0 base 65 [.ptr o 0, .sl (Sm.cellsL els) els.length .no] s (vi (listT k inF els lp sc).2) s := fun s hs => he s o mo sc lp hin hlp hs
  simp only [Sm.x, Sm.body, Sm.els]
  obtain ⟨xk, xo, xt, xn, xv, xa⟩ := x
  obtain ⟨yk, yo, yt, yn, yv, ya⟩ := y
  simp only [Sm.cells, Ex.cells, List.cons_append, List.nil_append] at *
  generalize asT k sc (Ex.mk xk xo xt xn xv xa) = R1 at *
  generalize (listT k inF body lp sc).2 = B at *
  generalize (listT k inF els lp sc).2 = E at *
  generalize Sm.cellsL body = cb at *
  generalize Sm.cellsL els = ce at *
  unfold b164
  simp -dsimp -implicitDefEqProofs [hn0, hn, del_none]
  refine call_bare (hc _ 3 (h.bump _)) (by simpa [AV.bareL, AV.bare] using bx) ?_
  by_cases h1 : R1 3 = 0
  · simp -dsimp -implicitDefEqProofs [h1]
    refine call_bare (hb _ (h.bump _)) (by simp [AV.bareL, AV.bare, bb]) ?_
    by_cases h2 : B = 0
    · subst h2
      simp -dsimp -implicitDefEqProofs
      refine call_bare (he _ (h.bump _)) (by simp [AV.bareL, AV.bare, be]) ?_
      simp -dsimp -implicitDefEqProofs
      exact fin_bump hwf (by simp [eraseA, h1])
    · have hb2 : (B == 0) = false := by simpa using h2
      simp -dsimp -implicitDefEqProofs [hb2]
      exact fin_bump hwf (by simp [eraseA, h1, h2])
  · have hb1 : (R1 3 == 0) = false := by simpa using h1
    simp -dsimp -implicitDefEqProofs [hb1]
    exact fin_bump hwf (by simp [eraseA, h1])
theorem d165 {k : Ke} {inF : Bool} (s : Sm) (hb : ScopeC w0 base k inF s.body) {st : St} {o mo : Nat} {sc : Scope} {lp : Int} (hin : InR k sc) (hlp : IntKind.i64.wrap lp = lp) (h : Sees st o mo k sc inF lp) (har : s.x.ar) :
   Det Tryz.prog w0 base 165 [.ptr o 0, .agg s.cells] st (vi (if asT k sc s.x 3 ≠ 0 then asT k sc s.x 3 else if s.bound < 1 ∨ 1024 < s.bound then 1 else (listT k inF s.body (incW lp) sc).2)) st := by
  refine det_self (enters_fn Tryz.func165 r165) fun hwf hfit => det_fn Tryz.func165 r165 rfl ?_
  clear hfit
  have hn0 := wf_none0 hwf
  have hn := wf_none hwf
  have h1 := h.row
  have g1 := hwf _ _ h1
  have g2 := hwf _ _ h.map
  obtain ⟨kd, op, ty, bd, nm, x, y, body, els⟩ := s
  have hc : ∀ s t, Sees s o mo k sc inF lp → Det Tryz.prog w0 base 92 [.ptr o 0, .agg x.cells, vi t] s (vi (asT k sc x t)) s := fun s t hs => d92 hin hs x har t
  have bx := Ex.bare_cells x
  have bb := Sm.bare_cellsL body
  have hb : ∀ s, Sees s o mo k sc inF (incW lp) → Det Tryz.prog w0 base 65 [.ptr o 0, .sl (Sm.cellsL body) body.length .no] s (vi (listT k inF body (incW lp) sc).2) s := fun s hs => hb s o mo sc (incW lp) hin (incW_wrap lp) hs
  simp only [Sm.x, Sm.body, Sm.bound]
  obtain ⟨xk, xo, xt, xn, xv, xa⟩ := x
  obtain ⟨yk, yo, yt, yn, yv, ya⟩ := y
  simp only [Sm.cells, Ex.cells, List.cons_append, List.nil_append] at *
  generalize asT k sc (Ex.mk xk xo xt xn xv xa) = R1 at *
  generalize (listT k inF body (incW lp) sc).2 = B at *
  generalize Sm.cellsL body = cb at *
  generalize Sm.cellsL els = ce at *
  generalize hG : vi (if R1 3 ≠ 0 then R1 3 else if bd < 1 ∨ 1024 < bd then 1 else B) = G
  unfold b165
  simp -dsimp -implicitDefEqProofs [hn0, hn, del_none, old_ne, old_ne0, new_ne, new_ne0]
  refine call_bare (hc _ 3 (h.same hwf (fun p hp => by simp [hp, old_ne, old_ne0]))) (by simpa [AV.bareL, AV.bare] using bx) ?_
  by_cases h3 : R1 3 = 0
  · by_cases h4 : bd < 1
    · simp -dsimp -implicitDefEqProofs [h3, h4]
      refine fin_pure hwf (fun p hp => by simp [hp, old_ne, old_ne0]) ?_
      rw [← hG, h3]
      simp [eraseA, h4]
    · by_cases h5 : 1024 < bd
      · simp -dsimp -implicitDefEqProofs [h3, h4, h5]
        refine fin_pure hwf (fun p hp => by simp [hp, old_ne, old_ne0]) ?_
        rw [← hG, h3]
        simp [eraseA, h4, h5]
      · simp -dsimp -implicitDefEqProofs [h3, h4, h5, h1, g1, old_ne, old_ne0, new_ne, new_ne0]
        refine call_bare (hb _ ⟨by simp [incW]; rfl, by simp [g2, h.ne.symm, old_ne0, h.map]⟩) (by simp [AV.bareL, AV.bare, bb]) ?_
        simp -dsimp -implicitDefEqProofs
        refine runL_cons (e203 (lp' := incW lp) (k := k) (o := o) (inF := inF) (lp := lp) (mo := mo) (by simp [g1, old_ne0, new_ne0]) (by simp [incW]; rfl) (incW_dec hlp)) ?_
        simp -dsimp -implicitDefEqProofs
        refine fin_pure hwf (fun p hp => ?_) ?_
        · simp [hp, old_ne, old_ne0]
          intro hpo
          rw [hpo]; exact h.obj.symm
        · rw [← hG, h3]
          simp [eraseA, h4, h5]
  · have hb1 : (R1 3 != 0) = true := by simpa using h3
    simp -dsimp -implicitDefEqProofs [hb1]
    refine fin_pure hwf (fun p hp => by simp [hp, old_ne, old_ne0]) ?_
    rw [← hG, if_pos h3]
    simp [eraseA]
end Go.Proofs.YthaekebedmoipaaGreatDoor.AM

/- Contracts: lists of statements. -/
set_option linter.unusedVariables false
set_option linter.unusedSimpArgs false
set_option maxRecDepth 100000
namespace Go.Proofs.YthaekebedmoipaaGreatDoor.AM
open Go Go.RowKit
variable {w0 : World} {base : Nat}

mutual
def Sm.ar : Sm → Prop
  | .mk _ _ _ _ _ x y body els => x.ar ∧ y.ar ∧ arS body ∧ arS els
def arS : List Sm → Prop
  | [] => True
  | s :: l => s.ar ∧ arS l
end
theorem arS_mem : ∀ {l : List Sm}, arS l → ∀ x ∈ l, x.ar
  | [], _, x, hx => absurd hx (by simp)
  | e :: l, h, x, hx => by
    simp only [arS] at h
    rcases List.mem_cons.1 hx with rfl | hx
    · exact h.1
    · exact arS_mem h.2 x hx
theorem lookup_app (sc : Scope) (n m : Str) (t : Thing) : (sc ++ [(n, t)]).lookup m = (sc.lookup m).or (if m = n then some t else none) := by
  induction sc with
  | nil =>
    by_cases h : m = n
    · simp [List.lookup, h]
    · have : (m == n) = false := by simpa using h
      simp [List.lookup, h, this]
  | cons x sc ih =>
    simp only [List.cons_append, List.lookup]
    split
    · rfl
    · exact ih
theorem InR_decl {k : Ke} {sc : Scope} (h : InR k sc) (n : Str) (t : Thing) (ht : (t.kind = 0 → 0 ≤ t.at_ ∧ t.at_ < k.arrays.length) ∧ (t.kind = 1 → 0 ≤ t.at_ ∧ t.at_ < k.funcs.length)) : InR k (declP sc n t).1 := by
  unfold declP
  split
  · exact h
  · intro m u hu
    simp only [lookup_app] at hu
    rcases hm : sc.lookup m with _ | v
    · rw [hm] at hu
      simp only [Option.none_or] at hu
      split at hu
      · cases hu; exact ht
      · cases hu
    · rw [hm] at hu
      simp only [Option.some_or, Option.some.injEq] at hu
      subst hu
      exact h m _ hm
theorem InR_stmt {k : Ke} {sc : Scope} (h : InR k sc) (inF : Bool) (s : Sm) (lp : Int) : InR k (stmtT k inF s lp sc).1 := by
  obtain ⟨kd, op, ty, bd, nm, x, y, body, els⟩ := s
  simp only [stmtT]
  repeat' split
  all_goals first
    | exact h
    | (unfold varT; split; exact h; exact InR_decl h nm _ (by simp))
def fOf (o : Nat) (inF : Bool) (kd : Int) : Option (FuncId × List AV) :=
  if inF = true ∧ (kd = 3 ∨ kd = 4 ∨ kd = 9 ∨ kd = 10 ∨ kd = 11 ∨ kd = 12) then some (170, [])
  else if kd = 1 then some (162, [.ptr o 0]) else if kd = 2 then some (163, [.ptr o 0]) else if kd = 5 then some (164, [.ptr o 0]) else if kd = 6 then some (165, [.ptr o 0])
  else if kd = 7 ∨ kd = 8 then some (166, [.ptr o 0]) else if kd = 3 then some (167, [.ptr o 0]) else if kd = 4 then some (168, [.ptr o 0]) else if kd = 12 then some (169, [.ptr o 0]) else none
def fAV : Option (FuncId × List AV) → AV
  | some (f, a) => .func (.func f) a []
  | none => .nilFunc
theorem kinds_find (o : Nat) (inF : Bool) (kd : Int) : ∃ x, findA .int (vi kd) (kindsM o inF) 0 = some x ∧ x.isSome = (fOf o inF kd).isSome ∧ (x.map (·.2)).getD .nilFunc = fAV (fOf o inF kd) := by
  by_cases h : kd = 1 ∨ kd = 2 ∨ kd = 3 ∨ kd = 4 ∨ kd = 5 ∨ kd = 6 ∨ kd = 7 ∨ kd = 8 ∨ kd = 9 ∨ kd = 10 ∨ kd = 11 ∨ kd = 12
  · rcases h with rfl | rfl | rfl | rfl | rfl | rfl | rfl | rfl | rfl | rfl | rfl | rfl <;> cases inF
    all_goals
      simp [kindsM, kindsJ, kinds0, fnAV, findA, leafEq, fOf, fAV]
  · simp only [not_or] at h
    obtain ⟨h1, h2, h3, h4, h5, h6, h7, h8, h9, h10, h11, h12⟩ := h
    have b1 : (kd == 1) = false := by simpa using h1
    have b2 : (kd == 2) = false := by simpa using h2
    have b3 : (kd == 3) = false := by simpa using h3
    have b4 : (kd == 4) = false := by simpa using h4
    have b5 : (kd == 5) = false := by simpa using h5
    have b6 : (kd == 6) = false := by simpa using h6
    have b7 : (kd == 7) = false := by simpa using h7
    have b8 : (kd == 8) = false := by simpa using h8
    have b9 : (kd == 9) = false := by simpa using h9
    have b10 : (kd == 10) = false := by simpa using h10
    have b11 : (kd == 11) = false := by simpa using h11
    have b12 : (kd == 12) = false := by simpa using h12
    cases inF
    all_goals
      simp [kindsM, kindsJ, kinds0, fnAV, findA, leafEq, fOf, fAV, b1, b2, b3, b4, b5, b6, b7, b8, b9, b10, b11, b12, h1, h2, h3, h4, h5, h6, h7, h8, h9, h10, h11, h12]
theorem stmt_c {k : Ke} {inF : Bool} (s : Sm) (har : s.ar) (hb : ScopeC w0 base k inF s.body) (he : ScopeC w0 base k inF s.els) {o : Nat} {f : FuncId} {a : List AV} (hf : fOf o inF s.kind = some (f, a))
   {st : St} {mo : Nat} {sc : Scope} {lp : Int} (hin : InR k sc) (hlp : IntKind.i64.wrap lp = lp) (h : Sees st o mo k sc inF lp) :
   Det Tryz.prog w0 base f (a ++ [.agg s.cells]) st (vi (stmtT k inF s lp sc).2) (st.put mo (.map (stmtT k inF s lp sc).1.enc)) := by
  have hx : s.x.ar := by cases s; simp only [Sm.ar] at har; exact har.1
  have hy : s.y.ar := by cases s; simp only [Sm.ar] at har; exact har.2.1
  have hps := put_self h.map
  have c1 := fun hin => d162 (w0 := w0) (base := base) hin h s hx
  have c2 := d163 (w0 := w0) (base := base) hin h s hx
  have c3 := d164 s hb he hin hlp h hx
  have c4 := d165 s hb hin hlp h hx
  have c5 := d166 (w0 := w0) (base := base) h s
  have c6 := d167 (w0 := w0) (base := base) hin h s hx hy
  have c7 := d168 (w0 := w0) (base := base) hin h s hx hy
  have c8 := d169 (w0 := w0) (base := base) hin h s hx hy
  have c9 := d170 (w0 := w0) (base := base) st s
  obtain ⟨kd, op, ty, bd, nm, x, y, body, els⟩ := s
  simp only [Sm.kind, Sm.x, Sm.y, Sm.name, Sm.op, Sm.typ, Sm.bound, Sm.body, Sm.els] at *
  simp only [stmtT]
  unfold fOf at hf
  repeat' split at hf
  all_goals first
    | (cases hf; done)
    | (cases hf; simp_all only [if_true, if_false, true_and, or_true, true_or, List.cons_append, List.nil_append, forall_const])
theorem fOf_bare {o : Nat} {inF : Bool} {kd : Int} {f : FuncId} {a : List AV} (h : fOf o inF kd = some (f, a)) : AV.bareL a = a := by
  unfold fOf at h
  repeat' split at h
  all_goals first
    | (cases h; done)
    | (cases h; simp [AV.bareL, AV.bare])
theorem listT_drop (k : Ke) (inF : Bool) (l : List Sm) (lp : Int) (sc : Scope) (j : Nat) (y : Sm) (h : l[j]? = some y) :
    listT k inF (l.drop j) lp sc = if (stmtT k inF y lp sc).2 ≠ 0 then stmtT k inF y lp sc else listT k inF (l.drop (j + 1)) lp (stmtT k inF y lp sc).1 := by
  obtain ⟨hlt, e⟩ := List.getElem?_eq_some_iff.1 h
  rw [List.drop_eq_getElem_cons hlt, e]
  simp only [listT]
theorem stmtT_none {k : Ke} {inF : Bool} {s : Sm} {o : Nat} (h : fOf o inF s.kind = none) (lp : Int) (sc : Scope) : stmtT k inF s lp sc = (sc, 0) := by
  obtain ⟨kd, op, ty, bd, nm, x, y, body, els⟩ := s
  simp only [Sm.kind] at h
  simp only [stmtT]
  unfold fOf at h
  repeat' split at h
  all_goals
    first
    | (cases h; done)
    | (simp [*]; intro hi; simp_all)
theorem list_of {k : Ke} {inF : Bool} {l : List Sm} (har : arS l) (hs : ∀ s ∈ l, ScopeC w0 base k inF s.body ∧ ScopeC w0 base k inF s.els) : ListC w0 base k inF l := by
  intro st o mo sc lp hin hlp h
  refine det_put (enters_fn Tryz.func91 r91) h.map fun hwf hfit => det_fn Tryz.func91 r91 rfl ?_
  have hlen : l.length ≤ big := hfit.2.1.1
  unfold big at hlen
  clear hfit
  have hO := own_start hwf h.map
  have g1 := hwf _ _ h.obj
  have g2 := hwf _ _ h.map
  have hne := h.ne
  have hrow := fun j x => @rowOf_at _ Sm.cells 19 Sm.cells_len l j x
  have hle := fun j x => @rowOf_le _ Sm.cells 19 Sm.cells_len l j x
  have bl := Sm.bare_cellsL l
  rw [Sm.cellsL_row] at *
  generalize rowOf Sm.cells l = ca at *
  generalize hR : listT k inF l lp sc = R
  unfold b91
  simp -dsimp -implicitDefEqProofs
  refine call_then (w136 (wf_bump hwf) (h.bump _)) (by simp [AV.bareL, AV.bare]) ?_
  rintro v s1 ⟨q, rfl, hM⟩
  have hq := hM.ge
  have hq' : st.next ≤ q := Nat.le_trans (Nat.le_add_right _ _) hq
  have hO1 : Own st mo (.map sc.enc) s1 := by
    refine ⟨fun p x hx => ?_, ?_, g2, ?_, fun p h1 h2 => ?_⟩
    · by_cases hp : p = q
      · rw [hp]; exact hM.lt
      · rw [hM.old p hp] at hx
        have := hwf _ _ hx
        have := hM.lt
        omega
    · have := hM.lt
      omega
    · rw [hM.old mo (by omega)]; exact h.map
    · rw [hM.old p (by omega)]; rfl
  simp -dsimp -implicitDefEqProofs
  refine range_by (d := 16) (x := 15) (n := 14) (y := 34) l.length (fun j e s => ∃ sc', InR k sc' ∧ R = listT k inF (l.drop j) lp sc' ∧ Own st mo (.map sc'.enc) s ∧ s.objs q = some (.map (kindsM o inF))) hlen (by simp) (by simp) ⟨sc, hin, by simp [hR], own_bump hO1 _, hM.at_⟩ rfl (fun j e e' s k h _ => ?_) ?_ ?_
  · obtain ⟨sc', h1, h2, h3, h4⟩ := h
    exact ⟨sc', h1, h2, own_bump h3 k, h4⟩
  · rintro j e s hj hf hx ⟨sc', hin', hR', hO', hq1⟩
    have e13 : e 13 = .sl ca l.length .no := by rw [hf 13 rfl]; simp
    have e0 : e 0 = .ptr o 0 := by rw [hf 0 rfl]; simp
    have e5 : e 5 = .map q := by rw [hf 5 rfl]; simp
    obtain ⟨y, hy⟩ : ∃ y, l[j]? = some y := ⟨_, List.getElem?_eq_getElem hj⟩
    have hr := hrow j y hy
    have hl' := hle j y hy
    have hd := listT_drop k inF l lp sc' j y hy
    have hmem := List.mem_of_getElem? hy
    have hyb := Sm.bare_cells y
    obtain ⟨x, hx1, hx2, hx3⟩ := kinds_find o inF y.kind
    have q0 := wf_none0 hO'.wf
    have qq := wf_none hO'.wf
    have hsees : Sees s o mo k sc' inF lp := ⟨by rw [hO'.old o g1 hne]; exact h.obj, hO'.at_⟩
    have hcall := fun f a (hf : fOf o inF y.kind = some (f, a)) n => stmt_c (w0 := w0) (base := base) y (arS_mem har y hmem) (hs y hmem).1 (hs y hmem).2 hf hin' hlp (hsees.bump n)
    have hnone := fun (hf : fOf o inF y.kind = none) => stmtT_none (k := k) hf lp sc'
    have hin2 := InR_stmt hin' inF y lp
    rw [hR', hd]
    generalize stmtT k inF y lp sc' = S at *
    obtain ⟨sc2, g⟩ := S
    obtain ⟨kd, op, ty, bd, nm, ⟨xk, xo, xt, xn, xv, xa⟩, ⟨yk, yo, yt, yn, yv, ya⟩, body, els⟩ := y
    simp only [Sm.cells, Ex.cells, List.cons_append, List.nil_append, Sm.kind] at *
    rcases hfo : fOf o inF kd with _ | ⟨f, a⟩
    · have hS := hnone hfo
      simp only [Prod.mk.injEq] at hS
      obtain ⟨rfl, rfl⟩ := hS
      rw [hfo] at hx2 hx3
      simp only [fAV, Option.isSome_none] at hx2 hx3
      simp -dsimp -implicitDefEqProofs [e13, e0, e5, hx, hj, hr, hl', q0, qq, del_none, hq1, hx1, hx2, hx3]
      exact hold ⟨sc2, hin', by simp, own_bump (own_bump hO' _) _, hq1⟩
    · rw [hfo] at hx2 hx3
      simp only [fAV, Option.isSome_some] at hx2 hx3
      simp -dsimp -implicitDefEqProofs [e13, e0, e5, hx, hj, hr, hl', q0, qq, del_none, hq1, hx1, hx2, hx3]
      refine call_bare (hcall f a hfo 19) (by simp only [bareL_append, fOf_bare hfo]; simp [AV.bareL, AV.bare] at hyb ⊢; exact hyb) ?_
      simp -dsimp -implicitDefEqProofs
      have hO2 := own_put (own_bump hO' 19) (.map sc2.enc)
      refine Br_iff (fun hb => ?_) (fun hb => ?_)
      · have hg : g ≠ 0 := by simpa using hb
        simp -dsimp -implicitDefEqProofs
        rw [if_neg hg]
        exact fin_own hwf (own_put (own_bump hO' 23) _) (map_under _ _) (by simp [eraseA])
      · have hg : g = 0 := by simpa using hb
        subst hg
        simp -dsimp -implicitDefEqProofs
        refine hold ⟨sc2, hin2, by simp, ?_, ?_⟩
        · exact own_bump hO2 _
        · have : q ≠ mo := by omega
          simp [this, hq1]
  · rintro e s hf ⟨sc', hin', hR', hO', hq1⟩
    have hRe : R = (sc', 0) := by rw [hR']; simp [listT]
    subst hRe
    simp -dsimp -implicitDefEqProofs
    exact fin_own hwf (own_bump hO' _) (map_under _ _) (by simp [eraseA])
theorem scopes_of {k : Ke} {inF : Bool} : ∀ s : Sm, s.ar → ScopeC w0 base k inF s.body ∧ ScopeC w0 base k inF s.els := by
  refine Sm.ind ?_
  intro kd op ty bd nm x y body els hb he har
  simp only [Sm.ar] at har
  exact ⟨scope_of (list_of har.2.2.1 fun s hs => hb s hs (arS_mem har.2.2.1 s hs)), scope_of (list_of har.2.2.2 fun s hs => he s hs (arS_mem har.2.2.2 s hs))⟩
theorem lists_of {k : Ke} {inF : Bool} {l : List Sm} (har : arS l) : ListC w0 base k inF l := list_of har fun s hs => scopes_of s (arS_mem har s hs)
end Go.Proofs.YthaekebedmoipaaGreatDoor.AM

/- Contracts: numbers of kernels. -/
set_option linter.unusedVariables false
set_option linter.unusedSimpArgs false
set_option maxRecDepth 100000
namespace Go.Proofs.YthaekebedmoipaaGreatDoor.AM
open Go Go.RowKit
variable {w0 : World} {base : Nat}

def powS (s : Int) : Bool := s == 1 || s == 2 || s == 4 || s == 8 || s == 16 || s == 32
def numP (g s : Int) : Bool := decide (1 ≤ g) && decide (g ≤ 256) && decide (1 ≤ s) && decide (s ≤ 32) && powS s && decide (g.tmod s = 0)
def lenP (a : Ar) : Bool := decide (1 ≤ a.len) && decide (a.len ≤ 4096)
def numbersP (k : Ke) : Bool := numP k.group k.sub && k.arrays.all lenP
theorem pow_and : ∀ n : Nat, n < 33 → 1 ≤ n → (IntKind.i64.wrap ↑(((n : Int) % 2 ^ IntKind.i64.bits).toNat &&& (IntKind.i64.wrap ((n : Int) - 1) % 2 ^ IntKind.i64.bits).toNat) != 0) = !powS n := by decide
theorem d62 (st : St) (k : Ke) : Det Tryz.prog w0 base 62 [.agg k.cells] st (.bool (numbersP k)) st := by
  refine det_self (enters_fn Tryz.func62 r62) fun hwf hfit => det_fn Tryz.func62 r62 rfl ?_
  have hn0 := wf_none0 hwf
  have hn := wf_none hwf
  obtain ⟨nm, g, s, ars, ps, fs, body⟩ := k
  have hlen : ars.length ≤ big := by
    have := hfit.1
    simp only [Ke.cells, AV.fit, AV.fitL] at this
    exact this.2.2.2.1.1
  unfold big at hlen
  clear hfit
  have hrow := fun j x => @rowOf_at _ Ar.cells 4 Ar.cells_len ars j x
  have hle := fun j x => @rowOf_le _ Ar.cells 4 Ar.cells_len ars j x
  simp only [Ke.cells, numbersP]
  generalize rowOf Ar.cells ars = ca at *
  have bad : numP g s = false → ∀ n, Fin st (st.bump n) (.bool false) (.bool (numP g s && ars.all lenP)) st := by
    intro h n
    exact fin_bump hwf (by simp [h, eraseA])
  generalize hX : AV.bool (numP g s && ars.all lenP) = X at *
  unfold b62
  by_cases c1 : g < 1
  · simp -dsimp -implicitDefEqProofs [hn0, hn, del_none, c1]
    exact bad (by simp [numP]; omega) _
  · by_cases c2 : 256 < g
    · simp -dsimp -implicitDefEqProofs [hn0, hn, del_none, c1, c2]
      exact bad (by simp [numP]; omega) _
    · by_cases c3 : s < 1
      · simp -dsimp -implicitDefEqProofs [hn0, hn, del_none, c1, c2, c3]
        exact bad (by simp [numP]; omega) _
      · by_cases c4 : 32 < s
        · simp -dsimp -implicitDefEqProofs [hn0, hn, del_none, c1, c2, c3, c4]
          exact bad (by simp [numP]; omega) _
        · have hpow : (IntKind.i64.wrap ↑((s % 2 ^ IntKind.i64.bits).toNat &&& (IntKind.i64.wrap (s - 1) % 2 ^ IntKind.i64.bits).toNat) != 0) = !powS s := by
            obtain ⟨n, hsn⟩ : ∃ n : Nat, s = n := ⟨s.toNat, by omega⟩
            have := pow_and n (by omega) (by omega)
            rw [← hsn] at this
            exact this
          have hs0 : (s == 0) = false := by simp; omega
          have hs1 : ¬ s = 0 := by omega
          cases hp : powS s
          · rw [hp] at hpow
            simp -dsimp -implicitDefEqProofs [hn0, hn, del_none, c1, c2, c3, c4, hpow]
            exact bad (by simp [numP, hp]) _
          · rw [hp] at hpow
            simp -dsimp -implicitDefEqProofs [hn0, hn, del_none, c1, c2, c3, c4, hpow, hs0, hs1]
            refine Br_iff (fun hb => ?_) (fun hb => ?_)
            · have hg : ¬ g.tmod s = 0 := by simpa using hb
              simp -dsimp -implicitDefEqProofs
              exact bad (by simp [numP, hg]) _
            · have hg : g.tmod s = 0 := by simpa using hb
              have hN : numP g s = true := by simp [numP, hg, hp]; omega
              have hX' : X = .bool (ars.all lenP) := by rw [← hX, hN]; simp
              clear bad hX
              subst hX'
              simp -dsimp -implicitDefEqProofs
              refine range_by (d := 44) (x := 43) (n := 42) (y := 55) ars.length (fun j e s => (ars.take j).all lenP = true ∧ Akin st s) hlen (by simp) (by simp) ⟨by simp, Akin.refl _ _⟩ rfl (fun j e e' s k h _ => ⟨h.1, h.2.bump k⟩) ?_ ?_
              · rintro j e s hj hf hx ⟨hI, hs⟩
                have e41 : e 41 = .sl ca ars.length .no := by rw [hf 41 rfl]; simp
                obtain ⟨y, hy⟩ : ∃ y, ars[j]? = some y := ⟨_, List.getElem?_eq_getElem hj⟩
                have hr := hrow j y hy
                have hl := hle j y hy
                have q0 := hs.fresh0 hwf
                have q := hs.fresh hwf
                have hmem := List.mem_of_getElem? hy
                have hstep : (ars.take (j + 1)).all lenP = lenP y := by
                  rw [List.take_add_one, hy, List.all_append, hI]; simp
                obtain ⟨yn, ysp, yt, yl⟩ := y
                simp only [Ar.cells] at hr
                by_cases d1 : yl < 1
                · simp -dsimp -implicitDefEqProofs [e41, hx, hj, hr, hl, q0, q, del_none, d1]
                  refine (hs.bump _).fin hwf ?_
                  have : ars.all lenP = false := by
                    rw [List.all_eq_false]; exact ⟨_, hmem, by simp [lenP]; omega⟩
                  simp [eraseA, this]
                · by_cases d2 : 4096 < yl
                  · simp -dsimp -implicitDefEqProofs [e41, hx, hj, hr, hl, q0, q, del_none, d1, d2]
                    refine (hs.bump _).fin hwf ?_
                    have : ars.all lenP = false := by
                      rw [List.all_eq_false]; exact ⟨_, hmem, by simp [lenP]; omega⟩
                    simp [eraseA, this]
                  · simp -dsimp -implicitDefEqProofs [e41, hx, hj, hr, hl, q0, q, del_none, d1, d2]
                    refine hold ⟨hstep.trans (by simp [lenP]; omega), ⟨by simp [hs.objs], by have := hs.le; simp; omega⟩⟩
              · rintro e s hf ⟨hI, hs⟩
                simp -dsimp -implicitDefEqProofs
                refine (hs.bump _).fin hwf ?_
                rw [List.take_length] at hI
                simp [eraseA, hI]
end Go.Proofs.YthaekebedmoipaaGreatDoor.AM

/- Contracts: globals. -/
set_option linter.unusedVariables false
set_option linter.unusedSimpArgs false
set_option maxRecDepth 100000
namespace Go.Proofs.YthaekebedmoipaaGreatDoor.AM
open Go Go.RowKit
variable {w0 : World} {base : Nat}

abbrev Decl := Str × Thing
def declL (sc : Scope) (ok : Bool) : List Decl → Scope × Bool
  | [] => (sc, ok)
  | x :: l => declL (declP sc x.1 x.2).1 ((declP sc x.1 x.2).2 && ok) l
theorem declL_append (a b : List Decl) : ∀ (sc : Scope) (ok : Bool), declL sc ok (a ++ b) = declL (declL sc ok a).1 (declL sc ok a).2 b := by
  induction a with
  | nil => exact fun _ _ => rfl
  | cons x a ih => exact fun sc ok => ih _ _
def arrT (l : List Ar) : List Decl := l.zipIdx.map fun x => (x.1.name, ⟨0, x.1.typ, x.2⟩)
def parT (l : List Pa) : List Decl := l.map fun x => (x.name, ⟨2, x.typ, 0⟩)
def funT (l : List Fu) : List Decl := l.zipIdx.map fun x => (x.1.name, ⟨1, x.1.typ, x.2⟩)
theorem arrT_take (l : List Ar) (j : Nat) (y : Ar) (h : l[j]? = some y) : arrT (l.take (j + 1)) = arrT (l.take j) ++ [(y.name, ⟨0, y.typ, j⟩)] := by
  obtain ⟨hlt, _⟩ := List.getElem?_eq_some_iff.1 h
  unfold arrT
  rw [List.take_add_one, h, List.zipIdx_append, List.map_append]
  simp [Nat.min_eq_left (Nat.le_of_lt hlt)]
theorem parT_take (l : List Pa) (j : Nat) (y : Pa) (h : l[j]? = some y) : parT (l.take (j + 1)) = parT (l.take j) ++ [(y.name, ⟨2, y.typ, 0⟩)] := by
  unfold parT
  rw [List.take_add_one, h, List.map_append]
  simp
theorem funT_take (l : List Fu) (j : Nat) (y : Fu) (h : l[j]? = some y) : funT (l.take (j + 1)) = funT (l.take j) ++ [(y.name, ⟨1, y.typ, j⟩)] := by
  obtain ⟨hlt, _⟩ := List.getElem?_eq_some_iff.1 h
  unfold funT
  rw [List.take_add_one, h, List.zipIdx_append, List.map_append]
  simp [Nat.min_eq_left (Nat.le_of_lt hlt)]
def Fits (k : Ke) (t : Thing) : Prop := (t.kind = 0 → 0 ≤ t.at_ ∧ t.at_ < k.arrays.length) ∧ (t.kind = 1 → 0 ≤ t.at_ ∧ t.at_ < k.funcs.length)
theorem InR_declL {k : Ke} : ∀ (l : List Decl) (sc : Scope) (ok : Bool), (∀ x ∈ l, Fits k x.2) → InR k sc → InR k (declL sc ok l).1
  | [], _, _, _, h => h
  | x :: l, sc, ok, hl, h => InR_declL l _ _ (fun y hy => hl y (List.mem_cons_of_mem _ hy)) (InR_decl h x.1 x.2 (hl x (by simp)))
theorem InR_nil (k : Ke) : InR k [] := by intro n t h; simp at h
theorem fits_arr (k : Ke) : ∀ x ∈ arrT k.arrays, Fits k x.2 := by
  intro x hx
  simp only [arrT, List.mem_map] at hx
  obtain ⟨y, hy, rfl⟩ := hx
  have := (List.mem_zipIdx hy).2.1
  simp [Fits]; omega
theorem fits_fun (k : Ke) (n : Nat) : ∀ x ∈ funT (k.funcs.take n), Fits k x.2 := by
  intro x hx
  simp only [funT, List.mem_map] at hx
  obtain ⟨y, hy, rfl⟩ := hx
  have := (List.mem_zipIdx hy).2.1
  simp [Fits]; simp at this; omega
theorem fits_par (k : Ke) (l : List Pa) : ∀ x ∈ parT l, Fits k x.2 := by
  intro x hx
  simp only [parT, List.mem_map] at hx
  obtain ⟨y, hy, rfl⟩ := hx
  simp [Fits]
def globalsP (k : Ke) : Scope × Bool := declL [] true (arrT k.arrays ++ parT k.params ++ funT k.funcs)
theorem InR_globals (k : Ke) : InR k (globalsP k).1 := by
  refine InR_declL _ _ _ (fun x hx => ?_) (InR_nil k)
  rcases List.mem_append.1 hx with hx | hx
  · rcases List.mem_append.1 hx with hx | hx
    · exact fits_arr k x hx
    · exact fits_par k _ x hx
  · exact fits_fun k k.funcs.length x (by rwa [List.take_length])

/-- A new checker. -/
structure NewC (st : St) (o mo : Nat) (k : Ke) (sc : Scope) (inF : Bool) (s : St) : Prop where
  wf : s.wf
  next : st.next ≤ s.next
  ge : st.next ≤ o
  ge' : st.next ≤ mo
  sees : Sees s o mo k sc inF 0
  old : ∀ p, p < st.next → s.objs p = st.objs p
theorem NewC.bump {st s : St} {o mo : Nat} {k : Ke} {sc : Scope} {inF : Bool} (h : NewC st o mo k sc inF s) (n : Nat) : NewC st o mo k sc inF (s.bump n) :=
  ⟨wf_bump h.wf, Nat.le_trans h.next (Nat.le_add_right _ _), h.ge, h.ge', h.sees.bump n, h.old⟩
theorem NewC.put {st s : St} {o mo : Nat} {k : Ke} {sc : Scope} {inF : Bool} (h : NewC st o mo k sc inF s) (sc' : Scope) : NewC st o mo k sc' inF (s.put mo (.map sc'.enc)) := by
  have hl := h.wf _ _ h.sees.map
  have hne := h.sees.ne
  have hg := h.ge'
  refine ⟨wf_put h.wf hl, h.next, h.ge, h.ge', ⟨by rw [put_objs, if_neg hne]; exact h.sees.obj, by simp⟩, fun p hp => ?_⟩
  rw [put_objs, if_neg (by omega)]
  exact h.old p hp
/-- A name is declared in a new checker. -/
theorem new_call {st s : St} {o mo : Nat} {k : Ke} {sc : Scope} {inF : Bool} {K : AV → St → Prop} {l : Lock K} (h : NewC st o mo k sc inF s) (n : Str) (t : Thing) {args : List AV} (e : AV.bareL args = [.ptr o 0, .str n, .agg t.cells])
    (hk : ∀ s' : St, s'.objs s'.next = none → (∀ k, s'.objs (s'.next + k) = none) → NewC st o mo k (declP sc n t).1 inF s' → K (.bool (declP sc n t).2) s') : CallL Tryz.prog w0 base 90 args s K l := by
  have q := h.put (declP sc n t).1
  exact call_bare (d90 h.sees n t) e (hk _ (wf_none0 q.wf) (wf_none q.wf) q)
def GlobR (st : St) (k : Ke) (v : AV) (s : St) : Prop :=
  ((globalsP k).2 = true ∧ ∃ o mo, v = .tuple [.ptr o 0, vi 0] ∧ NewC st o mo k (globalsP k).1 false s) ∨
  ((globalsP k).2 = false ∧ v = .tuple [.nilp, vi 30] ∧ s.wf ∧ st.next ≤ s.next ∧ ∀ p, p < st.next → s.objs p = st.objs p)
theorem w63 {st : St} (hwf : st.wf) (k : Ke) (ha : k.arrays.length ≤ 140737488355328) (hp : k.params.length ≤ 140737488355328) (hf : k.funcs.length ≤ 140737488355328) :
   CallW Tryz.prog w0 base 63 [.agg k.cells] st (GlobR st k) := by
  refine callW_fn Tryz.func63 r63 rfl ?_
  have hn0 := wf_none0 hwf
  have hn := wf_none hwf
  have hrow := fun j x => @rowOf_at _ Ar.cells 4 Ar.cells_len k.arrays j x
  have hle := fun j x => @rowOf_le _ Ar.cells 4 Ar.cells_len k.arrays j x
  have hrow2 := fun j x => @rowOf_at _ Pa.cells 2 Pa.cells_len k.params j x
  have hle2 := fun j x => @rowOf_le _ Pa.cells 2 Pa.cells_len k.params j x
  have hrow3 := fun j x => @rowOf_at _ Fu.cells 10 Fu.cells_len k.funcs j x
  have hle3 := fun j x => @rowOf_le _ Fu.cells 10 Fu.cells_len k.funcs j x
  simp only [Ke.cells]
  have hN0 : ∀ n, NewC st (st.next + 6) (st.next + 4) k [] false ((((st.bump 13).put (st.next + 4) (.map [])).put (st.next + 6) (.cells 107 [.str k.name, .int .i64 k.group, .int .i64 k.sub, .sl (rowOf Ar.cells k.arrays) k.arrays.length .no, .sl (rowOf Pa.cells k.params) k.params.length .no, .sl (rowOf Fu.cells k.funcs) k.funcs.length .no, .sl (Sm.cellsL k.body) k.body.length .no, .map (st.next + 4), .bool false, .int .i64 0])).bump n) := by
    intro n
    refine NewC.bump ⟨wf_put (wf_put (wf_bump hwf) (by simp)) (by simp), by simp, by simp, by simp, ⟨by simp; rfl, by simp [Scope.enc]⟩, fun p hp => by simp [hp, old_ne, old_ne0]⟩ n
  unfold b63
  simp -dsimp -implicitDefEqProofs [hn0, hn, del_none]
  refine range_by (d := 20) (x := 19) (n := 18) (y := 35) k.arrays.length (fun j e s => e 5 = .bool (declL [] true (arrT (k.arrays.take j))).2 ∧ NewC st (st.next + 6) (st.next + 4) k (declL [] true (arrT (k.arrays.take j))).1 false s) ha (by simp) (by simp) ⟨by simp [arrT, declL], by simpa [arrT, declL] using hN0 0⟩ rfl (fun j e e' s k h he => ⟨(he 5 (by decide) (by decide) (by decide)).trans h.1, h.2.bump k⟩) ?_ ?_
  · rintro j e s hj hf hx ⟨hok, hI⟩
    have esl : e 17 = .sl (rowOf Ar.cells k.arrays) k.arrays.length .no := by rw [hf 17 rfl]; simp
    have e4 : e 4 = .ptr (st.next + 6) 0 := by rw [hf 4 rfl]; simp
    obtain ⟨y, hy⟩ : ∃ y, k.arrays[j]? = some y := ⟨_, List.getElem?_eq_getElem hj⟩
    have hr := hrow j y hy
    have hl := hle j y hy
    have q0 := wf_none0 hI.wf
    have q := wf_none hI.wf
    rw [arrT_take _ j y hy, declL_append]
    generalize declL [] true (arrT (k.arrays.take j)) = D at *
    obtain ⟨sc, ok⟩ := D
    simp only [declL] at *
    obtain ⟨yn, ysp, yt, yl⟩ := y
    simp only [Ar.cells] at hr
    simp -dsimp -implicitDefEqProofs [esl, e4, hok, hx, hj, hr, hl, q0, q, del_none]
    refine new_call (hI.bump _) yn ⟨0, yt, j⟩ (by simp [AV.bareL, AV.bare, Thing.cells]) fun s2 r0 r hI2 => ?_
    generalize declP sc yn ⟨0, yt, j⟩ = D2 at *
    obtain ⟨sc2, ok2⟩ := D2
    cases ok2
    · simp -dsimp -implicitDefEqProofs [esl, e4, hok, hx, hj, r0, r, del_none]
      exact hold ⟨by simp, by simpa using hI2⟩
    · simp -dsimp -implicitDefEqProofs [esl, e4, hok, hx, hj, r0, r, del_none]
      exact hold ⟨by simp, by simpa using hI2⟩
  · rintro e s hf1 ⟨hok1, hI1⟩
    have e11 : e 1 = (.iptr [.str k.name, .int .i64 k.group, .int .i64 k.sub, .sl (rowOf Ar.cells k.arrays) k.arrays.length .no, .sl (rowOf Pa.cells k.params) k.params.length .no, .sl (rowOf Fu.cells k.funcs) k.funcs.length .no, .sl (Sm.cellsL k.body) k.body.length .no] 0) := by rw [hf1 1 rfl]; simp
    have e41 : e 4 = .ptr (st.next + 6) 0 := by rw [hf1 4 rfl]; simp
    rw [List.take_length] at hok1 hI1
    simp -dsimp -implicitDefEqProofs [e11, e41]
    refine range_at (ei := 2) (bi := 3) (d := 40) (x := 39) (n := 38) (y := 53) k.params.length (fun j e s => e 5 = .bool (declL [] true (arrT k.arrays ++ parT (k.params.take j))).2 ∧ NewC st (st.next + 6) (st.next + 4) k (declL [] true (arrT k.arrays ++ parT (k.params.take j))).1 false s) hp (by simp) (by simp) ⟨by simp [parT, declL, hok1], by simpa [parT, declL] using NewC.bump hI1 4⟩ rfl (fun j e e' s k h he => ⟨(he 5 (by decide) (by decide) (by decide)).trans h.1, h.2.bump k⟩) ?_ ?_
    · rintro j e s hj hf hx ⟨hok, hI⟩
      have esl : e 37 = .sl (rowOf Pa.cells k.params) k.params.length .no := by rw [hf 37 rfl]; simp [e11, e41]
      have e4 : e 4 = .ptr (st.next + 6) 0 := by rw [hf 4 rfl]; simp [e11, e41]
      obtain ⟨y, hy⟩ : ∃ y, k.params[j]? = some y := ⟨_, List.getElem?_eq_getElem hj⟩
      have hr := hrow2 j y hy
      have hl := hle2 j y hy
      have q0 := wf_none0 hI.wf
      have q := wf_none hI.wf
      rw [parT_take _ j y hy, ← List.append_assoc, declL_append]
      generalize declL [] true (arrT k.arrays ++ parT (k.params.take j)) = D at *
      obtain ⟨sc, ok⟩ := D
      simp only [declL] at *
      obtain ⟨yn, yt⟩ := y
      simp only [Pa.cells] at hr
      simp -dsimp -implicitDefEqProofs [esl, e4, hok, hx, hj, hr, hl, q0, q, del_none]
      refine new_call (hI.bump _) yn ⟨2, yt, 0⟩ (by simp [AV.bareL, AV.bare, Thing.cells]) fun s2 r0 r hI2 => ?_
      generalize declP sc yn ⟨2, yt, 0⟩ = D2 at *
      obtain ⟨sc2, ok2⟩ := D2
      cases ok2
      · simp -dsimp -implicitDefEqProofs [esl, e4, hok, hx, hj, r0, r, del_none]
        exact hold ⟨by simp, by simpa using hI2⟩
      · simp -dsimp -implicitDefEqProofs [esl, e4, hok, hx, hj, r0, r, del_none]
        exact hold ⟨by simp, by simpa using hI2⟩
    · rintro e s hf2 ⟨hok2, hI2⟩
      have e12 : e 1 = (.iptr [.str k.name, .int .i64 k.group, .int .i64 k.sub, .sl (rowOf Ar.cells k.arrays) k.arrays.length .no, .sl (rowOf Pa.cells k.params) k.params.length .no, .sl (rowOf Fu.cells k.funcs) k.funcs.length .no, .sl (Sm.cellsL k.body) k.body.length .no] 0) := by rw [hf2 1 rfl]; simp [e11, e41]
      have e42 : e 4 = .ptr (st.next + 6) 0 := by rw [hf2 4 rfl]; simp [e11, e41]
      rw [List.take_length] at hok2 hI2
      simp -dsimp -implicitDefEqProofs [e12, e42]
      refine range_at (ei := 4) (bi := 5) (d := 58) (x := 57) (n := 56) (y := 73) k.funcs.length (fun j e s => e 5 = .bool (declL [] true (arrT k.arrays ++ parT k.params ++ funT (k.funcs.take j))).2 ∧ NewC st (st.next + 6) (st.next + 4) k (declL [] true (arrT k.arrays ++ parT k.params ++ funT (k.funcs.take j))).1 false s) hf (by simp) (by simp) ⟨by simp [funT, declL, hok2], by simpa [funT, declL] using NewC.bump hI2 4⟩ rfl (fun j e e' s k h he => ⟨(he 5 (by decide) (by decide) (by decide)).trans h.1, h.2.bump k⟩) ?_ ?_
      · rintro j e s hj hf hx ⟨hok, hI⟩
        have esl : e 55 = .sl (rowOf Fu.cells k.funcs) k.funcs.length .no := by rw [hf 55 rfl]; simp [e12, e42]
        have e4 : e 4 = .ptr (st.next + 6) 0 := by rw [hf 4 rfl]; simp [e12, e42]
        obtain ⟨y, hy⟩ : ∃ y, k.funcs[j]? = some y := ⟨_, List.getElem?_eq_getElem hj⟩
        have hr := hrow3 j y hy
        have hl := hle3 j y hy
        have q0 := wf_none0 hI.wf
        have q := wf_none hI.wf
        rw [funT_take _ j y hy, ← List.append_assoc, declL_append]
        generalize declL [] true (arrT k.arrays ++ parT k.params ++ funT (k.funcs.take j)) = D at *
        obtain ⟨sc, ok⟩ := D
        simp only [declL] at *
        obtain ⟨yn, yps, yt, yb, ⟨rk, ro, rt, rn, rv, ra⟩⟩ := y
        simp only [Fu.cells, Ex.cells, List.cons_append, List.nil_append] at hr
        simp -dsimp -implicitDefEqProofs [esl, e4, hok, hx, hj, hr, hl, q0, q, del_none]
        refine new_call (hI.bump _) yn ⟨1, yt, j⟩ (by simp [AV.bareL, AV.bare, Thing.cells]) fun s2 r0 r hI2 => ?_
        generalize declP sc yn ⟨1, yt, j⟩ = D2 at *
        obtain ⟨sc2, ok2⟩ := D2
        cases ok2
        · simp -dsimp -implicitDefEqProofs [esl, e4, hok, hx, hj, r0, r, del_none]
          exact hold ⟨by simp, by simpa using hI2⟩
        · simp -dsimp -implicitDefEqProofs [esl, e4, hok, hx, hj, r0, r, del_none]
          exact hold ⟨by simp, by simpa using hI2⟩
      · rintro e s hf3 ⟨hok3, hI3⟩
        have e13 : e 1 = (.iptr [.str k.name, .int .i64 k.group, .int .i64 k.sub, .sl (rowOf Ar.cells k.arrays) k.arrays.length .no, .sl (rowOf Pa.cells k.params) k.params.length .no, .sl (rowOf Fu.cells k.funcs) k.funcs.length .no, .sl (Sm.cellsL k.body) k.body.length .no] 0) := by rw [hf3 1 rfl]; simp [e12, e42]
        have e43 : e 4 = .ptr (st.next + 6) 0 := by rw [hf3 4 rfl]; simp [e12, e42]
        rw [List.take_length] at hok3 hI3
        simp -dsimp -implicitDefEqProofs [e13, e43]
        have hG : globalsP k = declL [] true (arrT k.arrays ++ parT k.params ++ funT k.funcs) := rfl
        unfold GlobR
        rw [hG]
        generalize declL [] true (arrT k.arrays ++ parT k.params ++ funT k.funcs) = D at *
        obtain ⟨sc, ok⟩ := D
        simp only at hok3 hI3
        cases ok
        · simp -dsimp -implicitDefEqProofs [hok3]
          exact hold (.inr ⟨rfl, rfl, (hI3.bump _).wf, (hI3.bump _).next, (hI3.bump _).old⟩)
        · simp -dsimp -implicitDefEqProofs [hok3, e43]
          exact hold (.inl ⟨rfl, _, _, rfl, hI3.bump _⟩)
end Go.Proofs.YthaekebedmoipaaGreatDoor.AM

/- Contracts: functions. -/
set_option linter.unusedVariables false
set_option linter.unusedSimpArgs false
set_option maxRecDepth 100000
namespace Go.Proofs.YthaekebedmoipaaGreatDoor.AM
open Go Go.RowKit
variable {w0 : World} {base : Nat}

theorem declL_false (l : List Decl) : ∀ sc : Scope, (declL sc false l).2 = false := by
  induction l with
  | nil => exact fun _ => rfl
  | cons x l ih => intro sc; simp only [declL, Bool.and_false]; exact ih _
def scope0 (k : Ke) (n : Nat) : Scope := (declL [] true (arrT k.arrays ++ funT (k.funcs.take n))).1
def functionT (k : Ke) (n : Nat) (f : Fu) : Int :=
  if (declL (scope0 k n) true (parT f.params)).2 = false then 30 else
  if (listT k true f.body 0 (declL (scope0 k n) true (parT f.params)).1).2 ≠ 0 then (listT k true f.body 0 (declL (scope0 k n) true (parT f.params)).1).2 else
  asT k (listT k true f.body 0 (declL (scope0 k n) true (parT f.params)).1).1 f.ret f.typ
theorem InR_list {k : Ke} (inF : Bool) (l : List Sm) (lp : Int) : ∀ {sc : Scope}, InR k sc → InR k (listT k inF l lp sc).1 := by
  induction l with
  | nil => intro sc h; simpa [listT] using h
  | cons s l ih =>
    intro sc h
    have := InR_stmt h inF s lp
    simp only [listT]
    split
    · exact this
    · exact ih this
theorem InR_scope0 (k : Ke) (n : Nat) : InR k (scope0 k n) := by
  refine InR_declL _ _ _ (fun x hx => ?_) (InR_nil k)
  rcases List.mem_append.1 hx with hx | hx
  · exact fits_arr k x hx
  · exact fits_fun k n x hx
theorem d64 {st : St} (k : Ke) (ha : k.arrays.length ≤ 140737488355328) (hfl : k.funcs.length ≤ 140737488355328) (m : Nat) (f : Fu) (hm : k.funcs[m]? = some f) (hp : f.params.length ≤ 140737488355328) (hb : arS f.body) (hret : f.ret.ar) :
   Det Tryz.prog w0 base 64 [.agg k.cells, vi m] st (vi (functionT k m f)) st := by
  refine det_self (enters_fn Tryz.func64 r64) fun hwf hfit => det_fn Tryz.func64 r64 rfl ?_
  clear hfit
  have hn0 := wf_none0 hwf
  have hn := wf_none hwf
  have hlt : m < k.funcs.length := (List.getElem?_eq_some_iff.1 hm).1
  have hrow := fun j x => @rowOf_at _ Ar.cells 4 Ar.cells_len k.arrays j x
  have hle := fun j x => @rowOf_le _ Ar.cells 4 Ar.cells_len k.arrays j x
  have hrow3 := fun j x => @rowOf_at _ Fu.cells 10 Fu.cells_len (k.funcs.take m) j x
  have hle3 := fun j x => @rowOf_le _ Fu.cells 10 Fu.cells_len (k.funcs.take m) j x
  have hrow4 := @rowOf_at _ Fu.cells 10 Fu.cells_len k.funcs m f hm
  have hle4 := @rowOf_le _ Fu.cells 10 Fu.cells_len k.funcs m f hm
  generalize hG : functionT k m f = G
  obtain ⟨fn, ps, ft, fb, fr⟩ := f
  have hrow2 := fun j x => @rowOf_at _ Pa.cells 2 Pa.cells_len ps j x
  have hle2 := fun j x => @rowOf_le _ Pa.cells 2 Pa.cells_len ps j x
  have hc1 := fun (st : St) (o mo : Nat) (sc : Scope) (hin : InR k sc) (h : Sees st o mo k sc true 0) => lists_of (w0 := w0) (base := base) (inF := true) hb st o mo sc 0 hin (by decide) h
  have hc2 := fun (st : St) (o mo : Nat) (sc : Scope) (hin : InR k sc) (h : Sees st o mo k sc true 0) => d92 (w0 := w0) (base := base) hin h fr hret ft
  have bfb := Sm.bare_cellsL fb
  have bfr := Ex.bare_cells fr
  unfold functionT at hG
  simp only [Ke.cells]
  obtain ⟨rk, ro, rt, rn, rv, ra⟩ := fr
  simp only [Fu.cells, Ex.cells, List.cons_append, List.nil_append] at hrow4 hc2 bfr
  have hN0 : ∀ n, NewC st (st.next + 5) (st.next + 3) k [] true ((((st.bump 11).put (st.next + 3) (.map [])).put (st.next + 5) (.cells 107 [.str k.name, .int .i64 k.group, .int .i64 k.sub, .sl (rowOf Ar.cells k.arrays) k.arrays.length .no, .sl (rowOf Pa.cells k.params) k.params.length .no, .sl (rowOf Fu.cells k.funcs) k.funcs.length .no, .sl (Sm.cellsL k.body) k.body.length .no, .map (st.next + 3), .bool true, .int .i64 0])).bump n) := by
    intro n
    refine NewC.bump ⟨wf_put (wf_put (wf_bump hwf) (by simp)) (by simp), by simp, by simp, by simp, ⟨by simp; rfl, by simp [Scope.enc]⟩, fun p hp => by simp [hp, old_ne, old_ne0]⟩ n
  have htk : (k.funcs.take m).length = m := by simp; omega
  have hlti : (m : Int) ≤ (k.funcs.length : Int) := by omega
  have hlti' : (m : Int) < (k.funcs.length : Int) := by omega
  have hlt' : m ≤ k.funcs.length := by omega
  have hm0 : (0 : Int) ≤ (m : Int) := by omega
  have hm1 : (m : Int) ≤ 9223372036854775807 := by omega
  have hslc := rowOf_take (f := Fu.cells) Fu.cells_len k.funcs m
  have hN0 : ∀ n, NewC st (st.next + 5) (st.next + 3) k [] true ((((st.bump 11).put (st.next + 3) (.map [])).put (st.next + 5) (.cells 107 [.str k.name, .int .i64 k.group, .int .i64 k.sub, .sl (rowOf Ar.cells k.arrays) k.arrays.length .no, .sl (rowOf Pa.cells k.params) k.params.length .no, .sl (rowOf Fu.cells k.funcs) k.funcs.length .no, .sl (Sm.cellsL k.body) k.body.length .no, .map (st.next + 3), .bool true, .int .i64 0])).bump n) := by
    intro n
    refine NewC.bump ⟨wf_put (wf_put (wf_bump hwf) (by simp)) (by simp), by simp, by simp, by simp, ⟨by simp; rfl, by simp [Scope.enc]⟩, fun p hp => by simp [hp, old_ne, old_ne0]⟩ n
  have htk : (k.funcs.take m).length = m := by simp; omega
  have hlti : (m : Int) ≤ (k.funcs.length : Int) := by omega
  have hlti' : (m : Int) < (k.funcs.length : Int) := by omega
  have hlt' : m ≤ k.funcs.length := by omega
  have hm0 : (0 : Int) ≤ (m : Int) := by omega
  have hm1 : (m : Int) ≤ 9223372036854775807 := by omega
  have hslc := rowOf_take (f := Fu.cells) Fu.cells_len k.funcs m
  have hN0 : ∀ n, NewC st (st.next + 5) (st.next + 3) k [] true ((((st.bump 11).put (st.next + 3) (.map [])).put (st.next + 5) (.cells 107 [.str k.name, .int .i64 k.group, .int .i64 k.sub, .sl (rowOf Ar.cells k.arrays) k.arrays.length .no, .sl (rowOf Pa.cells k.params) k.params.length .no, .sl (rowOf Fu.cells k.funcs) k.funcs.length .no, .sl (Sm.cellsL k.body) k.body.length .no, .map (st.next + 3), .bool true, .int .i64 0])).bump n) := by
    intro n
    refine NewC.bump ⟨wf_put (wf_put (wf_bump hwf) (by simp)) (by simp), by simp, by simp, by simp, ⟨by simp; rfl, by simp [Scope.enc]⟩, fun p hp => by simp [hp, old_ne, old_ne0]⟩ n
  have htk : (k.funcs.take m).length = m := by simp; omega
  have hlti : (m : Int) ≤ (k.funcs.length : Int) := by omega
  have hlti' : (m : Int) < (k.funcs.length : Int) := by omega
  have hlt' : m ≤ k.funcs.length := by omega
  have hm0 : (0 : Int) ≤ (m : Int) := by omega
  have hm1 : (m : Int) ≤ 9223372036854775807 := by omega
  have hslc := rowOf_take (f := Fu.cells) Fu.cells_len k.funcs m
  have hrl := rowOf_length (f := Fu.cells) Fu.cells_len k.funcs
  have hN0 : ∀ n, NewC st (st.next + 5) (st.next + 3) k [] true ((((st.bump 11).put (st.next + 3) (.map [])).put (st.next + 5) (.cells 107 [.str k.name, .int .i64 k.group, .int .i64 k.sub, .sl (rowOf Ar.cells k.arrays) k.arrays.length .no, .sl (rowOf Pa.cells k.params) k.params.length .no, .sl (rowOf Fu.cells k.funcs) k.funcs.length .no, .sl (Sm.cellsL k.body) k.body.length .no, .map (st.next + 3), .bool true, .int .i64 0])).bump n) := by
    intro n
    refine NewC.bump ⟨wf_put (wf_put (wf_bump hwf) (by simp)) (by simp), by simp, by simp, by simp, ⟨by simp; rfl, by simp [Scope.enc]⟩, fun p hp => by simp [hp, old_ne, old_ne0]⟩ n
  have htk : (k.funcs.take m).length = m := by simp; omega
  have hlti : (m : Int) ≤ (k.funcs.length : Int) := by omega
  have hlti' : (m : Int) < (k.funcs.length : Int) := by omega
  have hlt' : m ≤ k.funcs.length := by omega
  have hm0 : (0 : Int) ≤ (m : Int) := by omega
  have hm1 : (m : Int) ≤ 9223372036854775807 := by omega
  have hslc := rowOf_take (f := Fu.cells) Fu.cells_len k.funcs m
  have hrl := rowOf_length (f := Fu.cells) Fu.cells_len k.funcs
  have hle5 : m * 10 + 10 ≤ k.funcs.length * 10 := by omega
  have hN0 : ∀ n, NewC st (st.next + 5) (st.next + 3) k [] true ((((st.bump 11).put (st.next + 3) (.map [])).put (st.next + 5) (.cells 107 [.str k.name, .int .i64 k.group, .int .i64 k.sub, .sl (rowOf Ar.cells k.arrays) k.arrays.length .no, .sl (rowOf Pa.cells k.params) k.params.length .no, .sl (rowOf Fu.cells k.funcs) k.funcs.length .no, .sl (Sm.cellsL k.body) k.body.length .no, .map (st.next + 3), .bool true, .int .i64 0])).bump n) := by
    intro n
    refine NewC.bump ⟨wf_put (wf_put (wf_bump hwf) (by simp)) (by simp), by simp, by simp, by simp, ⟨by simp; rfl, by simp [Scope.enc]⟩, fun p hp => by simp [hp, old_ne, old_ne0]⟩ n
  have htk : (k.funcs.take m).length = m := by simp; omega
  have hlti : (m : Int) ≤ (k.funcs.length : Int) := by omega
  have hlti' : (m : Int) < (k.funcs.length : Int) := by omega
  have hlt' : m ≤ k.funcs.length := by omega
  have hm0 : (0 : Int) ≤ (m : Int) := by omega
  have hm1 : (m : Int) ≤ 9223372036854775807 := by omega
  have hslc := rowOf_take (f := Fu.cells) Fu.cells_len k.funcs m
  have hrl := rowOf_length (f := Fu.cells) Fu.cells_len k.funcs
  have hle5 : m * 10 + 10 ≤ k.funcs.length * 10 := by omega
  have hN0 : ∀ n, NewC st (st.next + 5) (st.next + 3) k [] true ((((st.bump 11).put (st.next + 3) (.map [])).put (st.next + 5) (.cells 107 [.str k.name, .int .i64 k.group, .int .i64 k.sub, .sl (rowOf Ar.cells k.arrays) k.arrays.length .no, .sl (rowOf Pa.cells k.params) k.params.length .no, .sl (rowOf Fu.cells k.funcs) k.funcs.length .no, .sl (Sm.cellsL k.body) k.body.length .no, .map (st.next + 3), .bool true, .int .i64 0])).bump n) := by
    intro n
    refine NewC.bump ⟨wf_put (wf_put (wf_bump hwf) (by simp)) (by simp), by simp, by simp, by simp, ⟨by simp; rfl, by simp [Scope.enc]⟩, fun p hp => by simp [hp, old_ne, old_ne0]⟩ n
  have htk : (k.funcs.take m).length = m := by simp; omega
  have hlti : (m : Int) ≤ (k.funcs.length : Int) := by omega
  have hlti' : (m : Int) < (k.funcs.length : Int) := by omega
  have hlt' : m ≤ k.funcs.length := by omega
  have hm0 : (0 : Int) ≤ (m : Int) := by omega
  have hm1 : (m : Int) ≤ 9223372036854775807 := by omega
  have hslc := rowOf_take (f := Fu.cells) Fu.cells_len k.funcs m
  have hrl := rowOf_length (f := Fu.cells) Fu.cells_len k.funcs
  have hle5 : m * 10 + 10 ≤ k.funcs.length * 10 := by omega
  unfold b64
  simp -dsimp -implicitDefEqProofs [hn0, hn, del_none]
  refine range_by (d := 22) (x := 21) (n := 20) (y := 34) k.arrays.length (fun j e s => NewC st (st.next + 5) (st.next + 3) k (declL [] true (arrT (k.arrays.take j))).1 true s) ha (by simp) (by simp) (by simpa [arrT, declL] using hN0 0) rfl (fun j e e' s k h he => h.bump k) ?_ ?_
  · rintro j e s hj hf hx hI
    have esl : e 19 = .sl (rowOf Ar.cells k.arrays) k.arrays.length .no := by rw [hf 19 rfl]; simp
    have e5 : e 5 = .ptr (st.next + 5) 0 := by rw [hf 5 rfl]; simp
    obtain ⟨y, hy⟩ : ∃ y, k.arrays[j]? = some y := ⟨_, List.getElem?_eq_getElem (by omega)⟩
    have hr := hrow j y hy
    have hl := hle j y hy
    have q0 := wf_none0 hI.wf
    have q := wf_none hI.wf
    rw [arrT_take _ j y hy, declL_append]
    generalize declL [] true (arrT (k.arrays.take j)) = D at *
    obtain ⟨sc, ok⟩ := D
    simp only [declL] at *
    obtain ⟨yn, ysp, yt, yl⟩ := y
    simp only [Ar.cells] at hr
    simp -dsimp -implicitDefEqProofs [esl, e5, hx, hj, hr, hl, q0, q, del_none]
    refine new_call (hI.bump _) yn ⟨0, yt, j⟩ (by simp [AV.bareL, AV.bare, Thing.cells]) fun s2 r0 r hI2 => ?_
    simp -dsimp -implicitDefEqProofs [esl, e5, hx, hj, r0, r, del_none]
    exact hold hI2
  · rintro e s hf1 hI1
    have e11 : e 2 = (.iptr [.str k.name, .int .i64 k.group, .int .i64 k.sub, .sl (rowOf Ar.cells k.arrays) k.arrays.length .no, .sl (rowOf Pa.cells k.params) k.params.length .no, .sl (rowOf Fu.cells k.funcs) k.funcs.length .no, .sl (Sm.cellsL k.body) k.body.length .no] 0) := by rw [hf1 2 rfl]; simp
    have em1 : e 1 = vi m := by rw [hf1 1 rfl]; simp
    have e51 : e 5 = .ptr (st.next + 5) 0 := by rw [hf1 5 rfl]; simp
    rw [show k.arrays.take k.arrays.length = k.arrays from List.take_length] at hI1
    have q01 := wf_none0 hI1.wf
    have q1 := wf_none hI1.wf
    simp -dsimp -implicitDefEqProofs [e11, e51, em1, hlt, hlti, hlti', hlt', hm0, hm1, hslc, hrl, hle5, hrow4, hle4, q01, q1, del_none]
    refine range_at (ei := 2) (bi := 3) (d := 41) (x := 40) (n := 39) (y := 53) m (fun j e s => NewC st (st.next + 5) (st.next + 3) k (declL [] true (arrT k.arrays ++ funT ((k.funcs.take m).take j))).1 true s) (by omega) (by simp) (by simp) (by simpa [funT, declL] using hI1.bump _) rfl (fun j e e' s k h he => h.bump k) ?_ ?_
    · rintro j e s hj hf hx hI
      have esl : e 38 = .sl (rowOf Fu.cells (k.funcs.take m)) m .no := by rw [hf 38 rfl]; simp [e11, e51, em1]
      have e5 : e 5 = .ptr (st.next + 5) 0 := by rw [hf 5 rfl]; simp [e11, e51, em1]
      obtain ⟨y, hy⟩ : ∃ y, (k.funcs.take m)[j]? = some y := ⟨_, List.getElem?_eq_getElem (by omega)⟩
      have hr := hrow3 j y hy
      have hl := hle3 j y hy
      have q0 := wf_none0 hI.wf
      have q := wf_none hI.wf
      rw [funT_take _ j y hy, ← List.append_assoc, declL_append]
      generalize declL [] true (arrT k.arrays ++ funT ((k.funcs.take m).take j)) = D at *
      obtain ⟨sc, ok⟩ := D
      simp only [declL] at *
      obtain ⟨yn, yps, yt, yb, ⟨sk, so, st, sn, sv, sa⟩⟩ := y
      simp only [Fu.cells, Ex.cells, List.cons_append, List.nil_append] at hr
      simp -dsimp -implicitDefEqProofs [esl, e5, hx, hj, hr, hl, q0, q, del_none]
      refine new_call (hI.bump _) yn ⟨1, yt, j⟩ (by simp [AV.bareL, AV.bare, Thing.cells]) fun s2 r0 r hI2 => ?_
      simp -dsimp -implicitDefEqProofs [esl, e5, hx, hj, r0, r, del_none]
      exact hold hI2
    · rintro e s hf2 hI2
      have e12 : e 2 = (.iptr [.str k.name, .int .i64 k.group, .int .i64 k.sub, .sl (rowOf Ar.cells k.arrays) k.arrays.length .no, .sl (rowOf Pa.cells k.params) k.params.length .no, .sl (rowOf Fu.cells k.funcs) k.funcs.length .no, .sl (Sm.cellsL k.body) k.body.length .no] 0) := by rw [hf2 2 rfl]; simp [e11, e51, em1]
      have em2 : e 1 = vi m := by rw [hf2 1 rfl]; simp [e11, e51, em1]
      have e52 : e 5 = .ptr (st.next + 5) 0 := by rw [hf2 5 rfl]; simp [e11, e51, em1]
      rw [show (k.funcs.take m).take m = (k.funcs.take m) from (by rw [List.take_take, Nat.min_self])] at hI2
      have q02 := wf_none0 hI2.wf
      have q2 := wf_none hI2.wf
      simp -dsimp -implicitDefEqProofs [e12, e52, em2, hlt, hlti, hlti', hlt', hm0, hm1, hslc, hrl, hle5, hrow4, hle4, q02, q2, del_none]
      have hI2' : NewC st (st.next + 5) (st.next + 3) k (scope0 k m) true s := hI2
      refine range_at (ei := 4) (bi := 5) (d := 63) (x := 62) (n := 61) (y := 74) ps.length (fun j e s => (declL (scope0 k m) true (parT (ps.take j))).2 = true ∧ NewC st (st.next + 5) (st.next + 3) k (declL (scope0 k m) true (parT (ps.take j))).1 true s) hp (by simp) (by simp) ⟨by simp [parT, declL], by simpa [parT, declL] using hI2'.bump _⟩ rfl (fun j e e' s k h he => ⟨h.1, h.2.bump k⟩) ?_ ?_
      · rintro j e s hj hf hx ⟨hok, hI⟩
        have esl : e 60 = .sl (rowOf Pa.cells ps) ps.length .no := by rw [hf 60 rfl]; simp [e12, e52, em2]
        have e5 : e 5 = .ptr (st.next + 5) 0 := by rw [hf 5 rfl]; simp [e12, e52, em2]
        obtain ⟨y, hy⟩ : ∃ y, ps[j]? = some y := ⟨_, List.getElem?_eq_getElem (by omega)⟩
        have hr := hrow2 j y hy
        have hl := hle2 j y hy
        have q0 := wf_none0 hI.wf
        have q := wf_none hI.wf
        have hstep : declL (scope0 k m) true (parT (ps.take (j + 1))) = declL (declL (scope0 k m) true (parT (ps.take j))).1 (declL (scope0 k m) true (parT (ps.take j))).2 [(y.name, ⟨2, y.typ, 0⟩)] := by rw [parT_take _ j y hy, declL_append]
        have hfail : (declL (scope0 k m) true (parT (ps.take (j + 1)))).2 = false → (declL (scope0 k m) true (parT ps)).2 = false := by
          intro h
          have e : parT ps = parT (ps.take (j + 1)) ++ parT (ps.drop (j + 1)) := by rw [parT, parT, parT, ← List.map_append, List.take_append_drop]
          rw [e, declL_append, h]
          exact declL_false _ _
        rw [hstep] at hfail ⊢
        generalize declL (scope0 k m) true (parT (ps.take j)) = D at *
        obtain ⟨sc, ok⟩ := D
        simp only [declL] at *
        subst hok
        obtain ⟨yn, yt⟩ := y
        simp only [Pa.cells] at hr
        simp -dsimp -implicitDefEqProofs [esl, e5, hx, hj, hr, hl, q0, q, del_none]
        refine new_call (hI.bump _) yn ⟨2, yt, 0⟩ (by simp [AV.bareL, AV.bare, Thing.cells]) fun s2 r0 r hI3 => ?_
        simp only at hfail
        generalize declP sc yn ⟨2, yt, 0⟩ = D2 at *
        obtain ⟨sc2, ok2⟩ := D2
        cases ok2
        · have hff := hfail (by simp)
          simp -dsimp -implicitDefEqProofs [esl, e5, hx, hj, r0, r, del_none]
          refine fin_pure hwf (fun p hp => by simp [hI3.old p hp]) ?_
          rw [← hG, if_pos hff]
          simp [eraseA]
        · simp -dsimp -implicitDefEqProofs [esl, e5, hx, hj, r0, r, del_none]
          exact hold ⟨by simp, by simpa using hI3⟩
      · rintro e s hf3 ⟨hok, hI3⟩
        have e13 : e 10 = (.iptr [.str fn, .sl (rowOf Pa.cells ps) ps.length .no, vi ft, .sl (Sm.cellsL fb) fb.length .no, vi rk, vi ro, vi rt, .str rn, .int .i32 rv, .sl (Ex.cellsL ra) ra.length .no] 0) := by rw [hf3 10 rfl]; simp [e12, e52, em2]
        have e53 : e 5 = .ptr (st.next + 5) 0 := by rw [hf3 5 rfl]; simp [e12, e52, em2]
        rw [List.take_length] at hok hI3
        rw [if_neg (by rw [hok]; simp)] at hG
        have hin1 : InR k (declL (scope0 k m) true (parT ps)).1 := InR_declL _ _ _ (fits_par k ps) (InR_scope0 k m)
        generalize declL (scope0 k m) true (parT ps) = D at *
        obtain ⟨sc, ok⟩ := D
        simp only at hok hI3 hG hin1
        have q0 := wf_none0 hI3.wf
        have q := wf_none hI3.wf
        have hin2 := InR_list (k := k) true fb 0 hin1
        simp -dsimp -implicitDefEqProofs [e13, e53]
        refine call_bare (hc1 _ _ _ sc hin1 (hI3.sees.bump _)) (by simp [AV.bareL, AV.bare, bfb]) ?_
        have hI4 := (hI3.bump 5).put (listT k true fb 0 sc).1
        generalize listT k true fb 0 sc = R at *
        obtain ⟨sc2, g⟩ := R
        simp -dsimp -implicitDefEqProofs [e13, e53]
        refine Br_iff (fun hb => ?_) (fun hb => ?_)
        · have hg : g ≠ 0 := by simpa using hb
          simp -dsimp -implicitDefEqProofs [e13, e53]
          refine fin_pure hwf (fun p hp => by simpa using hI4.old p hp) ?_
          rw [← hG, if_pos hg]
          simp [eraseA]
        · have hg : g = 0 := by simpa using hb
          subst hg
          simp -dsimp -implicitDefEqProofs [e13, e53]
          refine call_bare (hc2 _ _ _ sc2 hin2 ((hI3.bump 14).put sc2).sees) (by simpa [AV.bareL, AV.bare] using bfr) ?_
          simp -dsimp -implicitDefEqProofs
          refine fin_pure hwf (fun p hp => by simpa using hI4.old p hp) ?_
          rw [← hG]
          simp [eraseA]
end Go.Proofs.YthaekebedmoipaaGreatDoor.AM
