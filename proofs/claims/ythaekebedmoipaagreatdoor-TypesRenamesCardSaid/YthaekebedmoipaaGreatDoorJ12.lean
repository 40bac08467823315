/- Part 12 of the proof: M13 M14 M15 M11 M12 M16 N18 N19 N20. -/
import Derived.Test.YthaekebedmoipaaGreatDoorJ11
set_option linter.unusedVariables false
set_option linter.unusedSimpArgs false
set_option linter.unusedSectionVars false
set_option maxRecDepth 100000
namespace Go.Proofs.YthaekebedmoipaaGreatDoor.AM
open Go Go.RowKit
section
def swapN (v w n : Str) : Str := if n = v then w else n
mutual
def renE (v w : Str) : Ex → Ex
 | .mk k op t n x a => .mk k op t (if k = 2 ∧ n = v then w else n) x (renL v w a)
def renL (v w : Str) : List Ex → List Ex
 | [] => []
 | e :: l => renE v w e :: renL v w l
end
mutual
def renS (v w : Str) : Sm → Sm
 | .mk kd op t b n x y body els => .mk kd op t b (if n = v ∧ (kd = 1 ∨ kd = 2 ∨ kd = 12) then w else n) (renE v w x) (renE v w y) (renSL v w body) (renSL v w els)
def renSL (v w : Str) : List Sm → List Sm
 | [] => []
 | s :: l => renS v w s :: renSL v w l
end
def renC (v w : Str) (sc : Scope) : Scope := sc.map fun x => (swapN v w x.1, x.2)
section
variable {v w : Str}
theorem renC_w : ∀ sc : Scope, sc.lookup w = none → (renC v w sc).lookup w = sc.lookup v
 | [], _ => rfl
 | (m, t) :: sc, hw => by
  have hmw : (w == m) = false := by
   rcases hb : (w == m) with _ | _
   ·rfl
   ·simp [List.lookup, hb] at hw
  have hw' : sc.lookup w = none := by simpa [List.lookup, hmw] using hw
  have h := renC_w sc hw'
  unfold renC at h ⊢
  simp only [List.map_cons, List.lookup]
  by_cases hm : m = v
  ·subst hm
   have h2 : swapN m w m = w := if_pos rfl
   simp only [h2, beq_self_eq_true]
  ·have h1 : (v == m) = false := by simpa using Ne.symm hm
   have h2 : swapN v w m = m := if_neg hm
   simp only [h2, h1, hmw]; exact h
theorem renC_o {n : Str} (hv : n ≠ v) (hw : n ≠ w) : ∀ sc : Scope, (renC v w sc).lookup n = sc.lookup n
 | [] => rfl
 | (m, t) :: sc => by
  have h := renC_o hv hw sc
  unfold renC at h ⊢
  simp only [List.map_cons, List.lookup]
  by_cases hm : m = v
  ·subst hm
   have h1 : (n == w) = false := by simpa using hw
   have h2 : (n == m) = false := by simpa using hv
   have h3 : swapN m w m = w := if_pos rfl
   simp only [h3, h1, h2]; exact h
  ·have h3 : swapN v w m = m := if_neg hm
   by_cases hn : n = m
   ·subst hn; simp only [h3, beq_self_eq_true]
   ·have h2 : (n == m) = false := by simpa using hn
    simp only [h3, h2]; exact h
structure Room (v w : Str) (sc : Scope) : Prop where
 w : sc.lookup w = none
 v : ∀ t, sc.lookup v = some t → t.kind = 3
theorem find_ren {sc : Scope} (h : Room v w sc) (hvw : v ≠ w) {n : Str} {ks : List Int} {t : Thing} (hf : findP sc n ks = some t) (hk : (3 : Int) ∉ ks) : n ≠ v ∧ findP (renC v w sc) n ks = some t := by
 unfold findP at hf
 rcases hs : sc.lookup n with _ | u
 ·simp [hs] at hf
 ·simp only [hs] at hf
  split at hf
  ·rename_i hm
   cases hf
   have h1 : n ≠ v := by
    rintro rfl
    have := h.v _ hs
    rw [this] at hm
    exact hk hm
   have h2 : n ≠ w := by rintro rfl; rw [h.w] at hs; cases hs
   refine ⟨h1, ?_⟩
   unfold findP
   rw [renC_o h1 h2, hs]
   simp [hm]
  ·cases hf
theorem find_var {sc : Scope} (h : Room v w sc) (hvw : v ≠ w) {n : Str} {ks : List Int} {t : Thing} (hf : findP sc n ks = some t) : findP (renC v w sc) (swapN v w n) ks = some t := by
 unfold findP at hf
 rcases hs : sc.lookup n with _ | u
 ·simp [hs] at hf
 ·simp only [hs] at hf
  have h2 : n ≠ w := by rintro rfl; rw [h.w] at hs; cases hs
  have : (renC v w sc).lookup (swapN v w n) = some u := by
   by_cases h1 : n = v
   ·subst h1; simp only [swapN, if_true]; rw [renC_w sc h.w]; exact hs
   ·simp only [swapN, if_neg h1]; rw [renC_o h1 h2]; exact hs
  unfold findP
  rw [this]
  exact hf
theorem findP_ne {sc : Scope} (h : sc.lookup v = none) {n : Str} {ks : List Int} {t : Thing} (hf : findP sc n ks = some t) : n ≠ v := by
 rintro rfl
 simp [findP, h] at hf
theorem comb_ok {a : List Int} {r : List Int × Int} (h : (comb a r).2 = 0) : r.2 = 0 := by
 unfold comb at h
 split at h
 ·assumption
 ·exact h
mutual
theorem ren_expr {k : Ke} {sc : Scope} (h : Room v w sc) (hvw : v ≠ w) : ∀ e : Ex, (exprT k sc e).2 = 0 → exprT k (renC v w sc) (renE v w e) = exprT k sc e
 | .mk kd op t n x a, ht => by
  simp only [exprT, renE] at ht ⊢
  by_cases ha : (allT k sc a).2 = 0
  ·rw [if_pos ha] at ht ⊢
   rw [ren_all h hvw a ha, if_pos ha]
   unfold nodeT at ht ⊢
   by_cases h1 : kd = 1
   ·simp [h1]
   by_cases h3 : kd = 3
   ·simp [h3]
   by_cases h4 : kd = 4
   ·simp [h4]
   by_cases h5 : kd = 5
   ·simp [h5]
   by_cases h6 : kd = 6
   ·simp [h6]
   by_cases h2 : kd = 2
   ·subst h2
    simp only [if_neg h1, if_neg h3, if_neg h4, if_neg h5, if_neg h6, if_true, true_and] at ht ⊢
    rcases hf : findP sc n [2, 3] with _ | u
    ·simp [hf] at ht
    ·have := find_var h hvw hf
     simp only [swapN] at this
     rw [this]
   by_cases h7 : kd = 7
   ·subst h7
    simp only [if_neg h1, if_neg h3, if_neg h4, if_neg h5, if_neg h6, if_neg h2, if_true, false_and, if_false] at ht ⊢
    rcases hf : findP sc n [0] with _ | u
    ·simp [hf] at ht
    ·have h9 : ¬ ((7 : Int) = 2 ∧ n = v) := by omega
     rw [if_neg h9, (find_ren h hvw hf (by decide)).2]
   by_cases h8 : kd = 8
   ·subst h8
    simp only [if_neg h1, if_neg h3, if_neg h4, if_neg h5, if_neg h6, if_neg h2, if_neg h7, if_true, false_and, if_false] at ht ⊢
    rcases hf : findP sc n [1] with _ | u
    ·simp [hf] at ht
    ·have h9 : ¬ ((8 : Int) = 2 ∧ n = v) := by omega
     rw [if_neg h9, (find_ren h hvw hf (by decide)).2]
   ·simp [h1, h2, h3, h4, h5, h6, h7, h8]
  ·rw [if_neg ha] at ht; exact absurd ht ha
theorem ren_all {k : Ke} {sc : Scope} (h : Room v w sc) (hvw : v ≠ w) : ∀ l : List Ex, (allT k sc l).2 = 0 → allT k (renC v w sc) (renL v w l) = allT k sc l
 | [], _ => rfl
 | e :: l, ht => by
  simp only [allT, renL] at ht ⊢
  by_cases he : (exprT k sc e).2 = 0
  ·rw [if_pos he] at ht ⊢
   rw [ren_expr h hvw e he, if_pos he, ren_all h hvw l (comb_ok ht)]
  ·rw [if_neg he] at ht; exact absurd ht he
end
mutual
theorem ren_same {k : Ke} {sc : Scope} (h : sc.lookup v = none) : ∀ e : Ex, (exprT k sc e).2 = 0 → renE v w e = e
 | .mk kd op t n x a, ht => by
  simp only [exprT, renE] at ht ⊢
  by_cases ha : (allT k sc a).2 = 0
  ·rw [if_pos ha] at ht
   rw [ren_sameL h a ha]
   by_cases h2 : kd = 2 ∧ n = v
   ·exfalso
    obtain ⟨rfl, rfl⟩ := h2
    simp [nodeT, findP, h] at ht
   ·rw [if_neg h2]
  ·rw [if_neg ha] at ht; exact absurd ht ha
theorem ren_sameL {k : Ke} {sc : Scope} (h : sc.lookup v = none) : ∀ l : List Ex, (allT k sc l).2 = 0 → renL v w l = l
 | [], _ => rfl
 | e :: l, ht => by
  simp only [allT, renL] at ht ⊢
  by_cases he : (exprT k sc e).2 = 0
  ·rw [if_pos he] at ht
   rw [ren_same h e he, ren_sameL h l (comb_ok ht)]
  ·rw [if_neg he] at ht; exact absurd ht he
end
theorem asT_ok {k : Ke} {sc : Scope} {e : Ex} {t : Int} (h : asT k sc e t = 0) : (exprT k sc e).2 = 0 ∧ (exprT k sc e).1 = t := by
 unfold asT at h
 split at h
 ·omega
 ·rename_i h1
  refine ⟨h, ?_⟩
  by_cases h2 : (exprT k sc e).1 = t
  ·exact h2
  ·exact absurd ⟨h, h2⟩ h1
theorem asT_ren {k : Ke} {sc : Scope} (h : Room v w sc) (hvw : v ≠ w) {e : Ex} {t : Int} (ht : asT k sc e t = 0) : asT k (renC v w sc) (renE v w e) t = 0 := by
 obtain ⟨h1, h2⟩ := asT_ok ht
 rw [asT, ren_expr h hvw e h1]
 simp [h1, h2]
end
end
section
section
variable {v w : Str} {k : Ke} {sc : Scope}
theorem set_parts {nm : Str} {x : Ex} (h : setT k sc nm x = 0) : ∃ u, findP sc nm [3] = some u ∧ asT k sc x u.typ = 0 := by
 unfold setT at h
 rcases hf : findP sc nm [3] with _ | u
 ·simp [hf] at h
 ·exact ⟨u, rfl, by simpa [hf] using h⟩
theorem target_parts {nm : Str} {x y : Ex} (h : (targetT k sc nm x y).2 = 0) : ∃ u A, findP sc nm [0] = some u ∧ k.arrays[u.at_.toNat]? = some A ∧ asT k sc x 1 = 0 ∧ asT k sc y A.typ = 0 := by
 unfold targetT at h
 rcases hf : findP sc nm [0] with _ | u
 ·simp [hf] at h
 ·rcases hA : k.arrays[u.at_.toNat]? with _ | A
  ·simp [hf, hA] at h
  ·simp only [hf, hA] at h
   split at h
   ·rename_i h1; exact ⟨u, A, rfl, hA, h1, h⟩
   ·rename_i h1; exact absurd h h1
theorem target_mk {nm : Str} {x y : Ex} {u : Thing} {A : Ar} (h1 : findP sc nm [0] = some u) (h2 : k.arrays[u.at_.toNat]? = some A) (h3 : asT k sc x 1 = 0) (h4 : asT k sc y A.typ = 0) : targetT k sc nm x y = (A, 0) := by
 simp [targetT, h1, h2, h3, h4]
theorem var_parts {ty : Int} {nm : Str} {x : Ex} (h : (varT k sc ty nm x).2 = 0) : asT k sc x ty = 0 ∧ sc.lookup nm = none ∧ varT k sc ty nm x = (sc ++ [(nm, ⟨3, ty, 0⟩)], 0) := by
 have h0 := (var_ok h).1
 by_cases h3 : (exprT k sc x).2 = 0
 ·have e : varT k sc ty nm x = (sc ++ [(nm, ⟨3, ty, 0⟩)], if (exprT k sc x).1 ≠ ty then 31 else 0) := by simp [varT, declP, h3, h0]
  rw [e] at h
  by_cases h4 : (exprT k sc x).1 = ty
  ·exact ⟨by simp [asT, h3, h4], h0, by rw [e]; simp [h4]⟩
  ·simp [h4] at h
 ·have : varT k sc ty nm x = (sc, (exprT k sc x).2) := by simp [varT, h3]
  rw [this] at h; exact absurd h h3
theorem var_mk {ty : Int} {nm : Str} {x : Ex} (h1 : asT k sc x ty = 0) (h2 : sc.lookup nm = none) : varT k sc ty nm x = (sc ++ [(nm, ⟨3, ty, 0⟩)], 0) := by
 obtain ⟨h3, h4⟩ := asT_ok h1
 simp [varT, declP, h3, h4, h2]
theorem coll_parts {op : Int} {nm : Str} {x y : Ex} (h : collectT k sc op nm x y = 0) : ∃ u, findP sc nm [3] = some u ∧ (exprT k sc x).2 = 0 ∧ (op = 4 → asT k sc y 1 = 0) ∧ fitsT op (exprT k sc x).1 u.typ = true := by
 unfold collectT at h
 rcases hf : findP sc nm [3] with _ | u
 ·simp [hf] at h
 ·simp only [hf] at h
  by_cases hx : (exprT k sc x).2 = 0
  ·by_cases ho : op = 4
   ·simp only [hx, ho, and_self, if_true] at h
    by_cases hy : asT k sc y 1 = 0
    ·simp only [hy] at h
     simp at h
     exact ⟨u, rfl, hx, fun _ => hy, by rw [ho]; exact h⟩
    ·simp [hy] at h
   ·simp only [ho, and_false, if_false, hx] at h
    simp at h
    exact ⟨u, rfl, hx, fun e => absurd e ho, h⟩
  ·simp [hx] at h
theorem coll_mk {op : Int} {nm : Str} {x y : Ex} {u : Thing} (h1 : findP sc nm [3] = some u) (h2 : (exprT k sc x).2 = 0) (h3 : op = 4 → asT k sc y 1 = 0) (h4 : fitsT op (exprT k sc x).1 u.typ = true) : collectT k sc op nm x y = 0 := by
 unfold collectT
 by_cases ho : op = 4
 ·simp [h1, h2, ho, h3 ho]; rw [ho] at h4; exact h4
 ·simp [h1, h2, ho, h4]
theorem atom_parts {op : Int} {nm : Str} {x y : Ex} (h : atomT k sc op nm x y = 0) : (targetT k sc nm x y).2 = 0 := by
 unfold atomT at h
 split at h
 ·rename_i h1; exact absurd h h1
 ·rename_i h1; exact Decidable.of_not_not h1
theorem renC_add (nm : Str) (t : Thing) : renC v w (sc ++ [(nm, t)]) = renC v w sc ++ [(swapN v w nm, t)] := by simp [renC]
theorem Room.add {nm : Str} {ty : Int} (h : Room v w sc) (hn : nm ≠ w) (h0 : sc.lookup nm = none) : Room v w (sc ++ [(nm, ⟨3, ty, 0⟩)]) := by
 refine ⟨vr h.w (Ne.symm hn), fun t ht => ?_⟩
 rcases hs : sc.lookup v with _ | u
 ·by_cases hv : v = nm
  ·rw [hv, wt h0] at ht; cases ht; rfl
  ·rw [vr hs hv] at ht; cases ht
 ·rw [yi hs] at ht; cases ht; exact h.v _ hs
theorem if_split {a b c : Int} (h : (if a ≠ 0 then a else if b ≠ 0 then b else c) = 0) : a = 0 ∧ b = 0 ∧ c = 0 := by
 split at h
 ·rename_i h1; exact absurd h h1
 ·rename_i h1
  split at h
  ·rename_i h2; exact absurd h h2
  ·rename_i h2; exact ⟨Decidable.of_not_not h1, Decidable.of_not_not h2, h⟩
theorem ren_nm {nm : Str} {kd : Int} (hk : kd = 1 ∨ kd = 2 ∨ kd = 12) : (if nm = v ∧ (kd = 1 ∨ kd = 2 ∨ kd = 12) then w else nm) = swapN v w nm := by
 unfold swapN
 by_cases h : nm = v
 ·rw [if_pos h, if_pos ⟨h, hk⟩]
 ·rw [if_neg h, if_neg (fun hh => h hh.1)]
theorem ren_nm' {nm : Str} {kd : Int} (hk : ¬ (kd = 1 ∨ kd = 2 ∨ kd = 12)) : (if nm = v ∧ (kd = 1 ∨ kd = 2 ∨ kd = 12) then w else nm) = nm := if_neg (fun hh => hk hh.2)
mutual
theorem ren_stmt {inF : Bool} (hvw : v ≠ w) : ∀ (s : Sm) (lp : Int) (sc : Scope), Room v w sc → (∀ n ∈ declsS s, n ≠ w) → (stmtT k inF s lp sc).2 = 0 →
  stmtT k inF (renS v w s) lp (renC v w sc) = (renC v w (stmtT k inF s lp sc).1, 0) ∧ Room v w (stmtT k inF s lp sc).1
 | .mk kd op ty bd nm x y body els, lp, sc, h, hd, ht => by
  simp only [declsS] at hd
  simp only [stmtT, renS] at ht ⊢
  by_cases hI : inF = true ∧ (kd = 3 ∨ kd = 4 ∨ kd = 9 ∨ kd = 10 ∨ kd = 11 ∨ kd = 12)
  ·rw [if_pos hI] at ht; simp at ht
  rw [if_neg hI] at ht ⊢
  rw [if_neg hI]
  by_cases h1 : kd = 1
  ·simp only [if_pos h1] at ht ⊢
   obtain ⟨p1, p2, p3⟩ := var_parts ht
   have hn : nm ≠ w := hd nm (by simp [h1])
   rw [ren_nm (.inl h1), p3]
   have h5 : (renC v w sc).lookup (swapN v w nm) = none := by
    by_cases hv : nm = v
    ·subst hv
     have : swapN nm w nm = w := if_pos rfl
     rw [this, renC_w sc h.w]; exact p2
    ·have : swapN v w nm = nm := if_neg hv
     rw [this, renC_o hv hn]; exact p2
   rw [var_mk (asT_ren h hvw p1) h5, renC_add]
   exact ⟨rfl, h.add hn p2⟩
  simp only [if_neg h1] at ht ⊢
  by_cases h2 : kd = 2
  ·simp only [if_pos h2] at ht ⊢
   obtain ⟨u, p1, p2⟩ := set_parts ht
   rw [ren_nm (.inr (.inl h2))]
   refine ⟨?_, h⟩
   simp [setT, find_var h hvw p1, asT_ren h hvw p2]
  simp only [if_neg h2] at ht ⊢
  by_cases h5 : kd = 5
  ·simp only [if_pos h5] at ht ⊢
   obtain ⟨p1, p2, p3⟩ := if_split ht
   have hb : ∀ n ∈ declsL body, n ≠ w := fun n hn => hd n (by simp [hn])
   have he : ∀ n ∈ declsL els, n ≠ w := fun n hn => hd n (by simp [hn])
   have q1 := (ren_list (inF := inF) hvw body lp sc h hb p2).1
   have q2 := (ren_list (inF := inF) hvw els lp sc h he p3).1
   exact ⟨by simp [asT_ren h hvw p1, q1, q2], h⟩
  simp only [if_neg h5] at ht ⊢
  by_cases h6 : kd = 6
  ·simp only [if_pos h6] at ht ⊢
   split at ht
   ·rename_i h7; exact absurd ht h7
   rename_i p1
   have p1 := Decidable.of_not_not p1
   split at ht
   ·simp at ht
   rename_i p2
   have hb : ∀ n ∈ declsL body, n ≠ w := fun n hn => hd n (by simp [hn])
   have q1 := (ren_list (inF := inF) hvw body (incW lp) sc h hb ht).1
   exact ⟨by simp [asT_ren h hvw p1, p2, q1], h⟩
  simp only [if_neg h6] at ht ⊢
  by_cases h7 : kd = 7 ∨ kd = 8
  ·simp only [if_pos h7] at ht ⊢
   exact ⟨by simp [ht], h⟩
  simp only [if_neg h7] at ht ⊢
  by_cases h3 : kd = 3
  ·simp only [if_pos h3] at ht ⊢
   obtain ⟨u, A, p1, p2, p3, p4⟩ := target_parts ht
   rw [ren_nm' (by omega), target_mk (find_ren h hvw p1 (by decide)).2 p2 (asT_ren h hvw p3) (asT_ren h hvw p4)]
   exact ⟨rfl, h⟩
  simp only [if_neg h3] at ht ⊢
  by_cases h4 : kd = 4
  ·simp only [if_pos h4] at ht ⊢
   obtain ⟨u, A, p1, p2, p3, p4⟩ := target_parts (atom_parts ht)
   have e1 := target_mk p1 p2 p3 p4
   have e2 := target_mk (find_ren h hvw p1 (by decide)).2 p2 (asT_ren h hvw p3) (asT_ren h hvw p4)
   rw [ren_nm' (by omega)]
   unfold atomT at ht ⊢
   rw [e2]
   rw [e1] at ht
   exact ⟨by rw [ht], h⟩
  simp only [if_neg h4] at ht ⊢
  by_cases h12 : kd = 12
  ·simp only [if_pos h12] at ht ⊢
   obtain ⟨u, p1, p2, p3, p4⟩ := coll_parts ht
   rw [ren_nm (.inr (.inr h12))]
   have e := ren_expr h hvw x p2
   rw [coll_mk (find_var h hvw p1) (by rw [e]; exact p2) (fun ho => asT_ren h hvw (p3 ho)) (by rw [e]; exact p4)]
   exact ⟨rfl, h⟩
  ·simp only [if_neg h12] at ht ⊢
   exact ⟨trivial, h⟩
theorem ren_list {inF : Bool} (hvw : v ≠ w) : ∀ (l : List Sm) (lp : Int) (sc : Scope), Room v w sc → (∀ n ∈ declsL l, n ≠ w) → (listT k inF l lp sc).2 = 0 →
  listT k inF (renSL v w l) lp (renC v w sc) = (renC v w (listT k inF l lp sc).1, 0) ∧ Room v w (listT k inF l lp sc).1
 | [], lp, sc, h, _, _ => ⟨rfl, h⟩
 | s :: l, lp, sc, h, hd, ht => by
  simp only [declsL] at hd
  simp only [listT, renSL] at ht ⊢
  split at ht
  ·rename_i h1; exact absurd ht h1
  rename_i h1
  obtain ⟨q1, q2⟩ := ren_stmt (inF := inF) hvw s lp sc h (fun n hn => hd n (by simp [hn])) (Decidable.of_not_not h1)
  rw [q1, if_neg (by simp), if_neg h1]
  exact ren_list (inF := inF) hvw l lp _ q2 (fun n hn => hd n (by simp [hn])) ht
end
mutual
theorem clash_stmt {inF : Bool} {m : Str} : ∀ (s : Sm) (lp : Int) (sc : Scope), sc.lookup v = none → sc.lookup m ≠ none → (stmtT k inF s lp sc).2 = 0 →
  (stmtT k inF (renS v m s) lp sc = stmtT k inF s lp sc ∧ (stmtT k inF s lp sc).1.lookup v = none) ∨ (stmtT k inF (renS v m s) lp sc).2 = 30
 | .mk kd op ty bd nm x y body els, lp, sc, h, hm, ht => by
  have same := fun {e : Ex} {t : Int} (he : asT k sc e t = 0) => ren_same (v := v) (w := m) h e (asT_ok he).1
  simp only [stmtT, renS] at ht ⊢
  by_cases hI : inF = true ∧ (kd = 3 ∨ kd = 4 ∨ kd = 9 ∨ kd = 10 ∨ kd = 11 ∨ kd = 12)
  ·rw [if_pos hI] at ht; simp at ht
  rw [if_neg hI] at ht
  simp only [if_neg hI]
  by_cases h1 : kd = 1
  ·simp only [if_pos h1] at ht ⊢
   obtain ⟨p1, p2, p3⟩ := var_parts ht
   rw [ren_nm (.inl h1), same p1]
   by_cases hv : nm = v
   ·refine .inr ?_
    have e : swapN v m nm = m := if_pos hv
    obtain ⟨q1, q2⟩ := asT_ok p1
    rw [e]
    rcases hs : sc.lookup m with _ | u
    ·exact absurd hs hm
    ·simp [varT, declP, q1, hs]
   ·refine .inl ⟨?_, ?_⟩
    ·have e : swapN v m nm = nm := if_neg hv
     rw [e]
    ·rw [p3]; exact vr h (Ne.symm hv)
  simp only [if_neg h1] at ht ⊢
  by_cases h2 : kd = 2
  ·simp only [if_pos h2] at ht ⊢
   obtain ⟨u, p1, p2⟩ := set_parts ht
   have e : swapN v m nm = nm := if_neg (findP_ne h p1)
   rw [ren_nm (.inr (.inl h2)), e, same p2]
   exact .inl ⟨rfl, h⟩
  simp only [if_neg h2] at ht ⊢
  by_cases h5 : kd = 5
  ·simp only [if_pos h5] at ht ⊢
   obtain ⟨p1, p2, p3⟩ := if_split ht
   rw [same p1]
   rcases clash_list (inF := inF) (m := m) body lp sc h hm p2 with ⟨q1, _⟩ | q1
   ·rw [q1]
    rcases clash_list (inF := inF) (m := m) els lp sc h hm p3 with ⟨q2, _⟩ | q2
    ·rw [q2]; exact .inl ⟨rfl, h⟩
    ·exact .inr (by simp [p1, p2, q2])
   ·exact .inr (by simp [p1, q1])
  simp only [if_neg h5] at ht ⊢
  by_cases h6 : kd = 6
  ·simp only [if_pos h6] at ht ⊢
   split at ht
   ·rename_i h7; exact absurd ht h7
   rename_i p1
   have p1 := Decidable.of_not_not p1
   split at ht
   ·simp at ht
   rename_i p2
   rw [same p1]
   rcases clash_list (inF := inF) (m := m) body (incW lp) sc h hm ht with ⟨q1, _⟩ | q1
   ·rw [q1]; exact .inl ⟨rfl, h⟩
   ·exact .inr (by simp [p1, p2, q1])
  simp only [if_neg h6] at ht ⊢
  by_cases h7 : kd = 7 ∨ kd = 8
  ·simp only [if_pos h7]; exact .inl ⟨trivial, h⟩
  simp only [if_neg h7] at ht ⊢
  by_cases h3 : kd = 3
  ·simp only [if_pos h3] at ht ⊢
   obtain ⟨u, A, p1, p2, p3, p4⟩ := target_parts ht
   rw [ren_nm' (by omega), same p3, same p4]
   exact .inl ⟨rfl, h⟩
  simp only [if_neg h3] at ht ⊢
  by_cases h4 : kd = 4
  ·simp only [if_pos h4] at ht ⊢
   obtain ⟨u, A, p1, p2, p3, p4⟩ := target_parts (atom_parts ht)
   rw [ren_nm' (by omega), same p3, same p4]
   exact .inl ⟨rfl, h⟩
  simp only [if_neg h4] at ht ⊢
  by_cases h12 : kd = 12
  ·simp only [if_pos h12] at ht ⊢
   obtain ⟨u, p1, p2, p3, p4⟩ := coll_parts ht
   have e : swapN v m nm = nm := if_neg (findP_ne h p1)
   have ex := ren_same (v := v) (w := m) h x p2
   rw [ren_nm (.inr (.inr h12)), e, ht, coll_mk p1 (by rw [ex]; exact p2) (fun ho => by rw [same (p3 ho)]; exact p3 ho) (by rw [ex]; exact p4)]
   exact .inl ⟨rfl, h⟩
  ·simp only [if_neg h12]; exact .inl ⟨trivial, h⟩
theorem clash_list {inF : Bool} {m : Str} : ∀ (l : List Sm) (lp : Int) (sc : Scope), sc.lookup v = none → sc.lookup m ≠ none → (listT k inF l lp sc).2 = 0 →
  (listT k inF (renSL v m l) lp sc = listT k inF l lp sc ∧ (listT k inF l lp sc).1.lookup v = none) ∨ (listT k inF (renSL v m l) lp sc).2 = 30
 | [], lp, sc, h, _, _ => .inl ⟨rfl, h⟩
 | s :: l, lp, sc, h, hm, ht => by
  simp only [listT, renSL] at ht ⊢
  split at ht
  ·rename_i h1; exact absurd ht h1
  rename_i h1
  have h1' := Decidable.of_not_not h1
  rw [if_neg h1]
  rcases clash_stmt (inF := inF) (m := m) s lp sc h hm h1' with ⟨q1, q2⟩ | q1
  ·rw [q1, if_neg h1]
   exact clash_list (inF := inF) (m := m) l lp _ q2 (stmt_keeps s sc hm) ht
  ·refine .inr ?_
   rw [if_pos (by rw [q1]; decide)]
   exact q1
end
end
end
section
section
variable {v w : Str}
theorem renL_len : ∀ l : List Ex, (renL v w l).length = l.length
 | [] => rfl
 | e :: l => by simp [renL, renL_len l]
theorem renSL_len : ∀ l : List Sm, (renSL v w l).length = l.length
 | [] => rfl
 | s :: l => by simp [renSL, renSL_len l]
theorem renE_kind : ∀ e : Ex, (renE v w e).kind = e.kind
 | .mk k op t n x a => rfl
mutual
theorem ren_nodes : ∀ e : Ex, nodesE (renE v w e) = nodesE e
 | .mk k op t n x a => by simp only [renE, nodesE, ren_nodesL a]
theorem ren_nodesL : ∀ l : List Ex, nodesL (renL v w l) = nodesL l
 | [] => rfl
 | e :: l => by simp only [renL, nodesL, ren_nodes e, ren_nodesL l]
end
mutual
theorem ren_over : ∀ (e : Ex) (d : Int), overE (renE v w e) d = overE e d
 | .mk k op t n x a, d => by simp only [renE, overE, ren_overL a, renL_len]
theorem ren_overL : ∀ (l : List Ex) (d : Int), overL (renL v w l) d = overL l d
 | [], _ => rfl
 | e :: l, d => by simp only [renL, overL, ren_over e, ren_overL l]
end
mutual
theorem ren_okE : ∀ e : Ex, e.ok → (renE v w e).ok
 | .mk k op t n x a, h => ⟨h.1, ren_okL a h.2⟩
theorem ren_okL : ∀ l : List Ex, Ex.okL l → Ex.okL (renL v w l)
 | [], _ => trivial
 | e :: l, h => ⟨ren_okE e h.1, ren_okL l h.2⟩
end
mutual
theorem ren_wE (hw : w.length ≤ 12) : ∀ e : Ex, wE (renE v w e) ≤ 2 * wE e
 | .mk k op t n x a => by
  have := ren_wL hw a
  simp only [renE, wE]
  split <;> omega
theorem ren_wL (hw : w.length ≤ 12) : ∀ l : List Ex, wEL (renL v w l) ≤ 2 * wEL l
 | [] => by simp [renL, wEL]
 | e :: l => by have := ren_wE hw e; have := ren_wL hw l; simp only [renL, wEL]; omega
end
theorem map_len {r r' : List (Str × Bool)} (h : r'.map (·.2) = r.map (·.2)) : r'.length = r.length := by have := congrArg List.length h; simpa using this
theorem any_map {r r' : List (Str × Bool)} (h : r'.map (·.2) = r.map (·.2)) : r'.any (·.2) = r.any (·.2) := by
 have : ∀ l : List (Str × Bool), l.any (·.2) = (l.map (·.2)).any id := fun l => by rw [List.any_map]; rfl
 rw [this, this, h]
theorem two_map (op : Int) {r r' : List (Str × Bool)} (h : r'.map (·.2) = r.map (·.2)) : (twoP op r').2 = (twoP op r).2 := by
 match r, r', h with
 | [], [], _ => rfl
 | [a], [a'], _ => rfl
 | [a, b], [a', b'], h =>
  simp only [List.map_cons, List.map_nil, List.cons.injEq, and_true] at h
  obtain ⟨h1, h2⟩ := h
  simp only [twoP, binP]
  split <;> simp [cat, w9, h1, h2]
 | a :: b :: c :: l, a' :: b' :: c' :: l', _ => rfl
 | [], _ :: _, h | _ :: _, [], h | [_], _ :: _ :: _, h | _ :: _ :: _, [_], h | [_, _], _ :: _ :: _ :: _, h | _ :: _ :: _ :: _, [_, _], h => simp at h
theorem three_map {r r' : List (Str × Bool)} (h : r'.map (·.2) = r.map (·.2)) : (threeP r').2 = (threeP r).2 := by
 match r, r', h with
 | [], [], _ => rfl
 | [a], [a'], _ => rfl
 | [a, b], [a', b'], h => rfl
 | [a, b, c], [a', b', c'], h =>
  simp only [List.map_cons, List.map_nil, List.cons.injEq, and_true] at h
  obtain ⟨h1, h2, h3⟩ := h
  simp [threeP, cat, h1, h2, h3]
 | a :: b :: c :: d :: l, a' :: b' :: c' :: d' :: l', _ => rfl
 | [], _ :: _, h | _ :: _, [], h | [_], _ :: _ :: _, h | _ :: _ :: _, [_], h | [_, _], _ :: _ :: _ :: _, h | _ :: _ :: _ :: _, [_, _], h | [_, _, _], _ :: _ :: _ :: _ :: _, h | _ :: _ :: _ :: _ :: _, [_, _, _], h => simp at h
theorem one_map {r r' : List (Str × Bool)} (h : r'.map (·.2) = r.map (·.2)) : (oneP r').2 = (oneP r).2 := by
 match r, r', h with
 | [], [], _ => rfl
 | [a], [a'], h =>
  simp only [List.map_cons, List.map_nil, List.cons.injEq, and_true] at h
  simp [oneP, cat, h]
 | a :: b :: l, a' :: b' :: l', h => rfl
 | [], _ :: _, h | _ :: _, [], h | [_], _ :: _ :: _, h | _ :: _ :: _, [_], h => simp at h
theorem node_map (k op t : Int) (n : Str) (x : Int) {r r' : List (Str × Bool)} (h : r'.map (·.2) = r.map (·.2)) : (nodeP k op t n x r').2 = (nodeP k op t n x r).2 := by
 have hl := map_len h
 have ha := any_map h
 have h2 := two_map op h
 have h3 := three_map h
 have h1 := one_map h
 unfold nodeP
 repeat' split
 all_goals simp [cat, hl, w9, ha, h2, h3, h1]
mutual
theorem ren_bad (hv : isNameP v = true) (hw : isNameP w = true) : ∀ e : Ex, (exprP (renE v w e)).2 = (exprP e).2
 | .mk k op t n x a => by
  simp only [renE, exprP]
  rw [node_map _ _ _ _ _ (ren_badL hv hw a)]
  split
  ·rename_i h
   obtain ⟨rfl, rfl⟩ := h
   simp [nodeP, cat, hv, hw]
  ·rfl
theorem ren_badL (hv : isNameP v = true) (hw : isNameP w = true) : ∀ l : List Ex, (exprsP (renL v w l)).map (·.2) = (exprsP l).map (·.2)
 | [] => rfl
 | e :: l => by simp only [renL, exprsP, List.map_cons, ren_bad hv hw e, ren_badL hv hw l]
end
theorem ren_none : ∀ e : Ex, noneP (renE v w e) = noneP e
 | .mk k op t n x a => by
  simp only [renE, noneP, Ex.kind, Ex.op, Ex.typ, Ex.name, Ex.v, Ex.a, renL_len]
  by_cases h : k = 0
  ·subst h; simp
  ·have : (k == 0) = false := by simpa using h
   simp [this]
theorem ren_exN (e : Ex) : exN (renE v w e) = exN e := by simp only [exN, renE_kind, ren_nodes]
theorem ren_exO (e : Ex) : exO (renE v w e) = exO e := by simp only [exO, renE_kind, ren_over]
mutual
theorem ren_nodesS : ∀ s : Sm, nodesS (renS v w s) = nodesS s
 | .mk kd op t b n x y body els => by simp only [renS, nodesS, ren_exN, ren_nodesSL body, ren_nodesSL els]
theorem ren_nodesSL : ∀ l : List Sm, nodesSL (renSL v w l) = nodesSL l
 | [] => rfl
 | s :: l => by simp only [renSL, nodesSL, ren_nodesS s, ren_nodesSL l]
end
mutual
theorem ren_overS : ∀ (s : Sm) (d : Int), overS (renS v w s) d = overS s d
 | .mk kd op t b n x y body els, d => by simp only [renS, overS, ren_exO, ren_overSL body, ren_overSL els]
theorem ren_overSL : ∀ (l : List Sm) (d : Int), overSL (renSL v w l) d = overSL l d
 | [], _ => rfl
 | s :: l, d => by simp only [renSL, overSL, ren_overS s, ren_overSL l]
end
mutual
theorem ren_okS : ∀ s : Sm, s.ok → (renS v w s).ok
 | .mk kd op t b n x y body els, h => ⟨h.1, ren_okE x h.2.1, ren_okE y h.2.2.1, ren_okSL body h.2.2.2.1, ren_okSL els h.2.2.2.2⟩
theorem ren_okSL : ∀ l : List Sm, Sm.okL l → Sm.okL (renSL v w l)
 | [], _ => trivial
 | s :: l, h => ⟨ren_okS s h.1, ren_okSL l h.2⟩
end
mutual
theorem ren_wS (hw : w.length ≤ 12) : ∀ (s : Sm) (d : Nat), wS (renS v w s) d ≤ 2 * wS s d
 | .mk kd op t b n x y body els, d => by
  have := ren_wE (v := v) hw x
  have := ren_wE (v := v) hw y
  have := ren_wSL hw body (d + 2)
  have := ren_wSL hw els (d + 2)
  simp only [renS, wS, wStm]
  split <;> omega
theorem ren_wSL (hw : w.length ≤ 12) : ∀ (l : List Sm) (d : Nat), wSL (renSL v w l) d ≤ 2 * wSL l d
 | [], _ => by simp [renSL, wSL]
 | s :: l, d => by have := ren_wS hw s d; have := ren_wSL hw l d; simp only [renSL, wSL]; omega
end
theorem block_bad (ind : Str) (x : Str × Bool) : (blockP ind x).2 = x.2 := by simp [blockP, cat]
theorem index_bad (x : Str × Bool) : (indexP' x).2 = x.2 := by simp [indexP', cat]
theorem param_bad (n : Str) (t : Int) : (paramP n t).2 = (!isNameP n || (pickP wTypes (sub1 t)).2) := by simp [paramP, cat]
theorem name_ne {n : Str} (h : isNameP n = true) : n.isEmpty = false := by
 cases n with
 | nil => simp [isNameP] at h
 | cons c l => rfl
theorem ren_spare (hv : isNameP v = true) (hw : isNameP w = true) (s : Sm) (a b c d e f g h : Bool) : spareP (renS v w s) a b c d e f g h = spareP s a b c d e f g h := by
 obtain ⟨kd, op, t, bd, n, x, y, body, els⟩ := s
 have h1 : (if n = v ∧ (kd = 1 ∨ kd = 2 ∨ kd = 12) then w else n).isEmpty = n.isEmpty := by
  split
  ·rename_i hh; rw [hh.1, name_ne hv, name_ne hw]
  ·rfl
 simp only [spareP, spareL, renS, Sm.op, Sm.typ, Sm.bound, Sm.name, Sm.x, Sm.y, Sm.body, Sm.els, ren_none, renSL_len, h1]
 rfl
theorem ren_isn (hv : isNameP v = true) (hw : isNameP w = true) (n : Str) (p : Prop) [Decidable p] : isNameP (if n = v ∧ p then w else n) = isNameP n := by
 split
 ·rename_i hh; rw [hh.1, hv, hw]
 ·rfl
theorem ren_other (hv : isNameP v = true) (hw : isNameP w = true) (s : Sm) : (otherP (renS v w s)).2 = (otherP s).2 := by
 have hs := ren_spare hv hw s
 obtain ⟨kd, op, t, bd, n, x, y, body, els⟩ := s
 have hx := ren_bad hv hw x
 have hy := ren_bad hv hw y
 have hn := ren_isn hv hw n (kd = 1 ∨ kd = 2 ∨ kd = 12)
 have e1 : (renS v w (.mk kd op t bd n x y body els)).kind = kd := rfl
 have e2 : (renS v w (.mk kd op t bd n x y body els)).op = op := rfl
 have e3 : (renS v w (.mk kd op t bd n x y body els)).x = renE v w x := rfl
 have e4 : (renS v w (.mk kd op t bd n x y body els)).y = renE v w y := rfl
 have e5 : (renS v w (.mk kd op t bd n x y body els)).name = if n = v ∧ (kd = 1 ∨ kd = 2 ∨ kd = 12) then w else n := rfl
 have f1 : (Sm.mk kd op t bd n x y body els).kind = kd := rfl
 have f2 : (Sm.mk kd op t bd n x y body els).op = op := rfl
 have f3 : (Sm.mk kd op t bd n x y body els).x = x := rfl
 have f4 : (Sm.mk kd op t bd n x y body els).y = y := rfl
 have f5 : (Sm.mk kd op t bd n x y body els).name = n := rfl
 generalize (if n = v ∧ (kd = 1 ∨ kd = 2 ∨ kd = 12) then w else n) = n' at hn e5
 unfold otherP
 simp only [e1, e2, e3, e4, e5, f1, f2, f3, f4, f5, hs]
 repeat' split
 all_goals simp only [xm, List.any_cons, List.any_nil, index_bad, w9, hx, hy, hn]
mutual
theorem ren_badS (hv : isNameP v = true) (hw : isNameP w = true) : ∀ (s : Sm) (ind : Str), (stmtP (renS v w s) ind).2 = (stmtP s ind).2
 | .mk kd op t bd n x y body els, ind => by
  have hs := ren_spare hv hw (.mk kd op t bd n x y body els)
  have ho := ren_other hv hw (.mk kd op t bd n x y body els)
  have hx := ren_bad hv hw x
  have hy := ren_bad hv hw y
  have hn := ren_isn hv hw n (kd = 1 ∨ kd = 2 ∨ kd = 12)
  have hb := ren_badSL hv hw body (ind ++ [32, 32])
  have he := ren_badSL hv hw els (ind ++ [32, 32])
  simp only [renS] at hs ho ⊢
  simp only [stmtP]
  by_cases h1 : kd = 1
  ·simp only [if_pos h1, xm, List.any_cons, List.any_nil, param_bad, hs, hx, hn]
  by_cases h2 : kd = 2
  ·simp only [if_neg h1, if_pos h2, xm, List.any_cons, List.any_nil, hs, hx, hn]
  by_cases h3 : kd = 3
  ·simp only [if_neg h1, if_neg h2, if_pos h3, xm, List.any_cons, List.any_nil, index_bad, hs, hx, hy, hn]
  by_cases h5 : kd = 5
  ·simp only [if_neg h1, if_neg h2, if_neg h3, if_pos h5, renSL_len]
   by_cases hl : els.length = 0
   ·simp only [if_pos hl, xm, List.any_append, List.any_cons, List.any_nil, block_bad, lines_bad, hs, hx, hb]
   ·simp only [if_neg hl, xm, List.any_append, List.any_cons, List.any_nil, block_bad, lines_bad, hs, hx, hb, he]
  by_cases h6 : kd = 6
  ·simp only [if_neg h1, if_neg h2, if_neg h3, if_neg h5, if_pos h6, xm, List.any_cons, List.any_nil, block_bad, lines_bad, hs, hx, hb]
  ·simp only [if_neg h1, if_neg h2, if_neg h3, if_neg h5, if_neg h6]; exact ho
theorem ren_badSL (hv : isNameP v = true) (hw : isNameP w = true) : ∀ (l : List Sm) (ind : Str), (stmtsP (renSL v w l) ind).any (·.2) = (stmtsP l ind).any (·.2)
 | [], _ => rfl
 | s :: l, ind => by simp only [renSL, stmtsP, List.any_cons, ren_badS hv hw s, ren_badSL hv hw l]
end
end
end
section
section
variable {bs : List UInt8}
structure Near (bs : List UInt8) (k : Ke) : Prop where
 name : k.name = [107]
 group : k.group = gM bs
 sub : k.sub = sM bs
 arrays : k.arrays = arrsM
 params : k.params = parsM
theorem Near.valid {k : Ke} (h : Near bs k) (hfew : k.funcs.length ≤ 8) (heach : ∀ f ∈ k.funcs, (functionP f).2 = false ∧ anyImpure f.body = false ∧ overF f = false) (hn : (k.funcs.map nodesF).sum ≤ 700)
  (hov : overSL k.body 1 = false) (hgood : (bodyP [32, 32] k.body).2 = false) (hno : nodesSL k.body ≤ 1200) : validP k = true := by
 have h1 : overK k = false := by
  have h4 : k.funcs.any overF = false := List.any_eq_false.2 fun f hf => by simp [(heach f hf).2.2]
  have h5 : decide (8 < k.arrays.length) = false := by rw [h.arrays]; rfl
  have h6 : decide (8 < k.params.length) = false := by rw [h.params]; rfl
  have h7 : decide (8 < k.funcs.length) = false := by simp; omega
  simp [overK, hov, h4, h5, h6, h7]
 have h2 : wn (nodesK k) ≤ 2000 := by
  have : nodesK k ≤ 1900 := by unfold nodesK; omega
  rw [wn, yy (by omega) (by omega)]; omega
 have h3 : (kernelP k).2 = false := by
  have h5 : ((k.funcs.flatMap funPs).any (·.2)) = false := by
   rw [List.any_flatMap, List.any_eq_false]
   intro f hf
   simp [funPs, (heach f hf).2.1, (heach f hf).1]
  have h6 : (k.arrays.flatMap arrPs).any (·.2) = false := by
   rw [h.arrays]
   decide +kernel
  have h7 : (k.params.flatMap parPs).any (·.2) = false := by
   rw [h.params]
   decide +kernel
  have h8 : isNameP k.name = true := by
   rw [h.name]
   decide +kernel
  simp only [kernelP, xm, textPs, List.any_cons, List.any_append, h5, h6, h7, h8, endPs]
  simp [blockP, cat, hgood]
 simp [validP, withinP, h1, h2, h3]
theorem Near.numbers {k : Ke} (h : Near bs k) : numbersP k = true := by
 have h1 : k.arrays.all lenP = true := by
  rw [h.arrays]
  decide +kernel
 simp only [numbersP, h1, Bool.and_true, h.group, h.sub]
 exact num_ok bs
theorem Near.ok {k : Ke} (h : Near bs k) (hf : ∀ f ∈ k.funcs, Sm.okL f.body ∧ f.ret.ok) (hb : Sm.okL k.body) : k.ok := by
 have hn := num_ok bs
 simp only [numP, Bool.and_eq_true, decide_eq_true_eq] at hn
 exact ⟨by rw [h.group]; unfold i64ok; omega, by rw [h.sub]; unfold i64ok; omega, by rw [h.arrays]; simp [arrsM, i64ok], hf, hb⟩
theorem Near.len {k : Ke} (h : Near bs k) (hk : k.ok) (hf : (k.funcs.map fun f => (functionP f).1.length).sum ≤ 1000000) (hb : wSL k.body 2 ≤ 1000000) : (kernelP k).1.length ≤ 140737488355328 := by
 have := kern_len hk (by rw [h.name]; decide) h.arrays h.params hf hb
 omega
theorem FnOk.part {k : Ke} {n : Nat} {f : Fu} (h : FnOk k n f) : (functionP f).2 = false ∧ anyImpure f.body = false ∧ overF f = false ∧ nodesF f ≤ 300 ∧ Sm.okL f.body ∧ f.ret.ok ∧ (functionP f).1.length ≤ 100000 := ⟨h.good, h.pure, h.over, h.nodes, h.okb, h.okr, h.len⟩
end
end
section
section
variable {bs : List UInt8}
end
end
section
section
variable {bs : List UInt8}
theorem renC_id {v w : Str} : ∀ sc : Scope, sc.lookup v = none → renC v w sc = sc
 | [], _ => rfl
 | (m, t) :: sc, h => by
  have hm : (v == m) = false := by
   rcases hb : (v == m) with _ | _
   ·rfl
   ·simp [List.lookup, hb] at h
  have h' : sc.lookup v = none := by simpa [List.lookup, hm] using h
  have hne : ¬ m = v := fun e => by simp [e] at hm
  have h2 := renC_id (w := w) sc h'
  unfold renC at h2 ⊢
  have h3 : swapN v w m = m := if_neg hne
  simp only [List.map_cons, h3, h2]
theorem glob_facts (bs : List UInt8) : (globalsP (madeM bs)).1.lookup [113, 113, 57] = none ∧ (globalsP (madeM bs)).1.lookup [97] = some ⟨0, 1, 0⟩ := by
 have h0 : globalsP (madeM bs) = declL (glob0) true (funT (headM bs (qM bs)).1) := by
  rw [globalsP, vc]
  have : declL [] true (arrT (madeM bs).arrays ++ parT (madeM bs).params) = (glob0, true) := glob0_eq
  rw [this]
  rfl
 rw [h0]
 rcases head_cases bs with ⟨h1, _⟩ | ⟨f, h1, hn, _, hty, _⟩
 ·rw [h1]
  exact ⟨by decide +kernel, by decide +kernel⟩
 ·rw [h1]
  have h2 : glob0.lookup [104] = none := by decide +kernel
  have h3 : (declL glob0 true (funT [f])).1 = glob0 ++ [([104], ⟨1, 1, 0⟩)] := by simp [funT, declL, declP, hn, hty, h2]
  rw [h3]
  exact ⟨by decide +kernel, by decide +kernel⟩
def renM (bs : List UInt8) (w : Str) : Ke := { madeM bs with body := renSL (firstP (madeM bs).body) w (madeM bs).body }
theorem first_mem : ∀ l : List Sm, firstP l ≠ [] → firstP l ∈ declsL l
 | [], h => absurd rfl h
 | .mk kd op ty bd nm x y body els :: l, h => by
  simp only [firstP, Sm.kind, Sm.name, declsL, declsS] at h ⊢
  by_cases h1 : kd = 1
  ·simp [h1]
  ·simp only [if_neg h1] at h ⊢
   have := first_mem l h
   simp [this]
theorem renM_parts (bs : List UInt8) (hv : firstP (madeM bs).body ≠ []) {w : Str} (hw : isNameP w = true) : validP (renM bs w) = true ∧ (renM bs w).ok ∧ (kernelP (renM bs w)).1.length ≤ 140737488355328 := by
 have h : Like bs (renM bs w) := like_body bs _
 have hm := h.made
 obtain ⟨sc', g, _⟩ := hm.body
 obtain ⟨c, hc, e⟩ := g.decl _ (first_mem _ hv)
 have hvn : isNameP (firstP (madeM bs).body) = true := by rw [e]; exact vN_nm hc
 have hb : (renM bs w).body = renSL (firstP (madeM bs).body) w (madeM bs).body := rfl
 have hno := g.co.nodes
 have hwS := g.co.w 2 (by omega)
 have hwl := ren_wSL (v := firstP (madeM bs).body) (uf hw) (madeM bs).body 2
 have hN : Near bs (renM bs w) := ⟨h.name, h.group, h.sub, h.arrays, h.params⟩
 have hok : (renM bs w).ok := hN.ok (fun f hf => ⟨(hm.each f hf).okb, (hm.each f hf).okr⟩) (by rw [hb]; exact ren_okSL _ g.co.ok)
 refine ⟨hN.valid (by have := hm.few; omega) (fun f hf => ⟨(hm.each f hf).good, (hm.each f hf).pure, (hm.each f hf).over⟩) (by have := funs_nodes hm; omega) ?_ ?_ ?_, hok, hN.len hok (by have := funs_len hm; omega) (by rw [hb]; omega)⟩
 ·rw [hb, ren_overSL]; exact g.co.over 1 (by omega) (by omega)
 ·have h1 := g.good [32, 32]
  rw [hb]
  unfold bodyP at h1 ⊢
  rw [xm, lines_bad] at h1 ⊢
  rw [ren_badSL hvn hw]; exact h1
 ·rw [hb, ren_nodesSL]; omega
theorem renM_good (bs : List UInt8) (hv : firstP (madeM bs).body ≠ []) : checkP (renM bs [113, 113, 57]) = 0 := by
 have h : Like bs (renM bs [113, 113, 57]) := like_body bs _
 have hm := h.made
 obtain ⟨sc', g, _⟩ := hm.body
 obtain ⟨hva, _, _⟩ := renM_parts bs hv (w := [113, 113, 57]) (by decide +kernel)
 have hG : globE (renM bs [113, 113, 57]) = 0 := by simp [globE, hm.glob]
 have hgl : (globalsP (renM bs [113, 113, 57])).1 = (globalsP (madeM bs)).1 := rfl
 obtain ⟨q1, _⟩ := glob_facts bs
 rw [hgl] at g
 obtain ⟨f1, _⟩ := firstP_some (k := renM bs [113, 113, 57]) (inF := false) (lp := 0) rfl (madeM bs).body (globalsP (madeM bs)).1 hv (by rw [g.typ])
 obtain ⟨c, hc, e⟩ := g.decl _ (first_mem _ hv)
 have hvw : firstP (madeM bs).body ≠ [113, 113, 57] := by rw [e]; exact vN_q hc
 have hr : Room (firstP (madeM bs).body) [113, 113, 57] (globalsP (madeM bs)).1 := ⟨q1, fun t ht => by rw [f1] at ht; cases ht⟩
 have hl := (ren_list (k := renM bs [113, 113, 57]) (inF := false) hvw (madeM bs).body 0 (globalsP (madeM bs)).1 hr (fun n hn => by obtain ⟨c, hc, e⟩ := g.decl n hn; rw [e]; exact vN_q hc) (by rw [g.typ])).1
 rw [renC_id _ f1] at hl
 have ht : (listT (renM bs [113, 113, 57]) false (renM bs [113, 113, 57]).body 0 (globalsP (renM bs [113, 113, 57])).1).2 = 0 := by
  show (listT (renM bs [113, 113, 57]) false (renSL (firstP (madeM bs).body) [113, 113, 57] (madeM bs).body) 0 (globalsP (madeM bs)).1).2 = 0
  rw [hl]
 simp [checkP, hva, h.numbers, hG, hm.funs, ht]
theorem renM_bad (bs : List UInt8) (hv : firstP (madeM bs).body ≠ []) : checkP (renM bs [97]) = 30 := by
 have h : Like bs (renM bs [97]) := like_body bs _
 have hm := h.made
 obtain ⟨sc', g, _⟩ := hm.body
 obtain ⟨hva, _, _⟩ := renM_parts bs hv (w := [97]) (by decide +kernel)
 have hG : globE (renM bs [97]) = 0 := by simp [globE, hm.glob]
 have hgl : (globalsP (renM bs [97])).1 = (globalsP (madeM bs)).1 := rfl
 obtain ⟨_, q2⟩ := glob_facts bs
 rw [hgl] at g
 obtain ⟨f1, f2⟩ := firstP_some (k := renM bs [97]) (inF := false) (lp := 0) rfl (madeM bs).body (globalsP (madeM bs)).1 hv (by rw [g.typ])
 have ht : (listT (renM bs [97]) false (renM bs [97]).body 0 (globalsP (renM bs [97])).1).2 = 30 := by
  show (listT (renM bs [97]) false (renSL (firstP (madeM bs).body) [97] (madeM bs).body) 0 (globalsP (madeM bs)).1).2 = 30
  rcases clash_list (k := renM bs [97]) (inF := false) (m := [97]) (madeM bs).body 0 (globalsP (madeM bs)).1 f1 (by rw [q2]; simp) (by rw [g.typ]) with ⟨_, p2⟩ | p2
  ·exact absurd p2 f2
  ·exact p2
 simp [checkP, hva, h.numbers, hG, hm.funs, ht]
end
end
section
variable {w0 : World} {base : Nat}
theorem renL_take (v w : Str) : ∀ (l : List Ex) (j : Nat) (e : Ex), l[j]? = some e → renL v w (l.take (j + 1)) = renL v w (l.take j) ++ [renE v w e]
 | [], j, e, h => by simp at h
 | a :: l, 0, e, h => by simp at h; subst h; simp [renL]
 | a :: l, j + 1, e, h => by
  have := renL_take v w l j e (by simpa using h)
  simp only [List.take_succ_cons, renL, this, List.cons_append]
theorem exL_append (m : List Ex) : ∀ l : List Ex, Ex.cellsL (l ++ m) = Ex.cellsL l ++ Ex.cellsL m
 | [] => by simp [Ex.cellsL]
 | s :: l => by simp [Ex.cellsL, exL_append m l]
theorem exL_len (l : List Ex) : (Ex.cellsL l).length = l.length * 6 := by rw [Ex.cellsL_row]; exact x5 Ex.cells_len l
def b48r : SCode := (.seq (.reg [pE 20 (.lits 6 []), m 7 20]) (.seq (.seq (.reg [pE 8 (.mov (i 0))]) (.block 0 (.loop l48_0))) (.seq (.frz [3] (.reg [m 39 7, pE 40 (.fldA 5 (t 3)), ⟨none, none, (.store 1 (t 40) (t 39))⟩])) (.seq (.reg [oS 41 (.load 6 true (t 3)), ⟨none, none, (.store 6 (t 6) (t 41))⟩]) .ret))))
theorem m48 {st z : St} {v w n' : Str} {k op t x : Int} {a : List Ex} {e : Env} {zb : List AV} (hwf : st.wf) (hlen : a.length ≤ 8)
  (ih : ∀ y ∈ a, ∀ st, Det Tryz.prog w0 base 48 [.agg y.cells, .str v, .str w] st (.agg (renE v w y).cells) st)
  (hz : z.wf) (hzn : st.next + 3 ≤ z.next) (hold' : ∀ p, p < st.next → z.objs p = st.objs p) {b3 b6 : Nat} (h3 : st.next ≤ b3) (h6 : st.next ≤ b6) (h36 : b3 ≠ b6) (h3z : b3 < z.next) (h6z : b6 < z.next)
  (o3 : z.objs b3 = some (.cells 31 [vi k, vi op, vi t, .str n', .int .i32 x, .sl (Ex.cellsL a) a.length .no])) (o6 : z.objs b6 = some (.cells 31 zb)) (hzb : zb.length = 6)
  (e1 : e 1 = .str v) (e2 : e 2 = .str w) (e3 : e 3 = .ptr b3 0) (e6 : e 6 = .ptr b6 0) :
  awp Tryz.prog w0 base b48r e [] z (EndsK Tryz.prog w0 base [.cell 6 6 true] fun r s => FinB st s r (.agg [vi k, vi op, vi t, .str n', .int .i32 x, .sl (Ex.cellsL (renL v w a)) a.length .no]) st) := by
 have hrow := fun j x => @yg _ Ex.cells 6 Ex.cells_len a j x
 have hle := fun j x => @ye _ Ex.cells 6 Ex.cells_len a j x
 rw [← Ex.cellsL_row] at hrow hle
 have hcl := exL_len a
 unfold b48r
 simp -dsimp -implicitDefEqProofs
 refine loop_by (fun kk e z' => ∃ (j : Nat) (p : Perm), j + kk = a.length ∧ e 8 = vi j ∧ e 7 = .sl (Ex.cellsL (renL v w (a.take j))) j p ∧ TipG 31 6 z j p z') a.length ⟨0, .full, by omega, by simp, by simp [renL, Ex.cellsL], by simpa using TipG.none (Akin.refl _ _)⟩ (by decide) ?_
 rintro kk e' z' hfr ⟨j, p, hjk, e8, e7, hI⟩
 have f1 : e' 1 = .str v := by rw [hfr 1 rfl]; simp [e1]
 have f2 : e' 2 = .str w := by rw [hfr 2 rfl]; simp [e2]
 have f3 : e' 3 = .ptr b3 0 := by rw [hfr 3 rfl]; simp [e3]
 have f6 : e' 6 = .ptr b6 0 := by rw [hfr 6 rfl]; simp [e6]
 have g3 : z'.objs b3 = some (.cells 31 [vi k, vi op, vi t, .str n', .int .i32 x, .sl (Ex.cellsL a) a.length .no]) := by rw [hI.old b3 h3z]; exact o3
 have g6 : z'.objs b6 = some (.cells 31 zb) := by rw [hI.old b6 h6z]; exact o6
 unfold l48_0
 simp -dsimp -implicitDefEqProofs [f3, e8, g3, loadA]
 refine Br_iff (fun hb => ?_) (fun hb => ?_)
 ·have hjl : j < a.length := by simpa using hb
  obtain ⟨y, hy⟩ : ∃ y, a[j]? = some y := ⟨_, List.getElem?_eq_getElem hjl⟩
  have c1 := hrow j y hy
  have c2 := hle j y hy
  have htk := renL_take v w a j y hy
  have ihy := ih y (List.mem_of_getElem? hy)
  simp -dsimp -implicitDefEqProofs [f1, f2, f3, e8, e7, g3, loadA, hjl, c1, c2]
  have by_ := Ex.bare_cells y
  have lr := Ex.cells_len (renE v w y)
  have br := Ex.bare_cells (renE v w y)
  have hsa : Ex.cellsL (renL v w (a.take (j + 1))) = Ex.cellsL (renL v w (a.take j)) ++ (renE v w y).cells := by rw [htk, exL_append]; simp [Ex.cellsL]
  have hsl : (Ex.cellsL (renL v w (a.take j))).length = j * 6 := by rw [exL_len, renL_len, List.length_take]; congr 1; omega
  have hwj : IntKind.i64.wrap ((j : Int) + 1) = (j : Int) + 1 := yy (by omega) (by omega)
  have b1 : (j + 1) * 72 ≤ big := by unfold big; omega
  have b2 : j + 1 ≤ big := by unfold big; omega
  have tr : (renE v w y).cells.take 6 = (renE v w y).cells := List.take_of_length_le (by omega)
  generalize (renE v w y).cells = cr at *
  generalize Ex.cellsL (renL v w (a.take j)) = cs at *
  refine zo (ihy _) (by simp [AV.bareL, AV.bare, by_]) ?_
  simp -dsimp -implicitDefEqProofs [f1, f2, f3, e8, e7, g3, loadA, hsl, lr, tr, b1, b2]
  cases hI with
  | none hI =>
   have w1 : IntKind.i64.wrap 1 = 1 := yy (by omega) (by omega)
   simp -dsimp -implicitDefEqProofs [e8, w1]
   refine hold ⟨kk - 1, by omega, 1, .tok (z'.next + 15), by omega, by simp, by simp [hsa], ?_⟩
   have hle := hI.le
   refine .some (by omega) (by simp) (fun q hq => ?_) (by simp) (fun q hq hq' => ?_) (by simp)
   ·have : q ≠ z'.next + 15 := by omega
    simp [this, hI.objs]
   ·simp [hq, hI.objs]
    exact none_from hz hq'
  | @some _ _ t' le lt old at_ no hn =>
   simp -dsimp -implicitDefEqProofs [at_, e8, hwj]
   refine hold ⟨kk - 1, by omega, j + 1, .tok t', by omega, by simp, by simp [hsa], ?_⟩
   refine .some le (by simp; omega) (fun q hq => ?_) (by simp) (fun q hq hq' => ?_) (by simp)
   ·have : q ≠ t' := by omega
    simp [this, old q hq]
   ·simp [hq, no q hq hq']
 ·have hjl : ¬ j < a.length := by simpa using hb
  have hj : j = a.length := by omega
  subst hj
  have h63 : ¬ b6 = b3 := fun h => h36 h.symm
  rw [List.take_of_length_le (Nat.le_refl _)] at e7
  have el := fun m => Ex.erase_cellsL m (renL v w a)
  have bl := Ex.bare_cellsL (renL v w a)
  have hI2 := hI.old
  simp -dsimp -implicitDefEqProofs [f3, f6, e7, g3, g6, loadA, h63, hzb, h36]
  refine hold (finB_pure hwf (fun q hq => ?_) (by simp [packRes, eraseA, eraseL, el, AV.bare, AV.bareL, bl]))
  have h1 : q ≠ b3 := by omega
  have h2 : q ≠ b6 := by omega
  simp [h1, h2, hI2 q (by omega), hold' q hq]
theorem arL_all : ∀ l : List Ex, arL l → ∀ e ∈ l, e.ar
 | [], _, e, h => absurd h (by simp)
 | a :: l, h, e, he => (List.mem_cons.1 he).elim (fun q => q ▸ h.1) (arL_all l h.2 e)
def b48a : SCode := (.reg [oS 3 (.box 31 (t 0) 0), oS 6 (.alloc 31 (.agg [(.int .i64 0), (.int .i64 0), (.int .i64 0), (.str []), (.int .i32 0), (.sl [] 0 .full)]) 1)])
def b48b : SCode := (.seq (.reg [pE 9 (.fldA 0 (t 3)), oS 10 (.load 1 false (t 9)), pE 11 (.bin .int .eql (t 10) (i 2)), m 12 11, pG 13 12 true (.fldA 3 (t 3)), oG 14 12 true (.load 1 false (t 13)), pG 15 12 true (.mov (t 1)), pG 16 12 true (.bin .str .eql (t 14) (t 15)), pE 17 (.pick (t 12) (t 16) (.lit (.bool false)))]) (.cond (t 17) (.reg [m 18 2, pE 19 (.fldA 3 (t 3)), ⟨none, none, (.store 1 (t 19) (t 18))⟩]) .skip))
theorem b48_eq : b48 = .seq b48a (.seq b48b b48r) := rfl
theorem d48 (v w : Str) : ∀ e : Ex, e.ar → ∀ st : St, Det Tryz.prog w0 base 48 [.agg e.cells, .str v, .str w] st (.agg (renE v w e).cells) st := by
 refine Ex.ind ?_
 intro k op t n x a ih har st
 refine zh (zp Tryz.func48 r48) fun hwf hfit => uh Tryz.func48 r48 rfl ?_
 clear hfit
 have hn0 := zj hwf
 have hn := zf hwf
 have hlen : a.length ≤ 8 := har.1.1
 have ih' := fun y hy => ih y hy (arL_all a har.2 y hy)
 simp only [renE, Ex.cells, renL_len]
 rw [b48_eq]
 generalize hR : b48r = R
 unfold b48a b48b
 by_cases hk : k = 2
 ·by_cases hnv : n = v
  ·simp -dsimp -implicitDefEqProofs [hn0, hn, zz, loadA, hk, hnv]
   subst hR
   exact m48 (b3 := st.next) (b6 := st.next + 1) (zb := [.int .i64 0, .int .i64 0, .int .i64 0, .str [], .int .i32 0, .sl [] 0 .full]) hwf hlen ih' (by repeat first | exact zk hwf | (refine zb ?_ ?_; rotate_left; focus (first | (simp; done) | (simp; omega)))) (by simp) (fun p hp => by simp [hp, zx, zy]) (by omega) (by omega) (by omega) (by simp) (by simp) (by simp) (by simp) rfl (by simp) (by simp) (by simp) (by simp)
  ·have hnb : (n == v) = false := by simpa using hnv
   have hc : (if k = 2 ∧ n = v then w else n) = n := if_neg fun h => hnv h.2
   rw [hc]
   simp -dsimp -implicitDefEqProofs [hn0, hn, zz, loadA, hk, hnb]
   subst hR
   exact m48 (b3 := st.next) (b6 := st.next + 1) (zb := [.int .i64 0, .int .i64 0, .int .i64 0, .str [], .int .i32 0, .sl [] 0 .full]) hwf hlen ih' (by repeat first | exact zk hwf | (refine zb ?_ ?_; rotate_left; focus (first | (simp; done) | (simp; omega)))) (by simp) (fun p hp => by simp [hp, zx, zy]) (by omega) (by omega) (by omega) (by simp) (by simp) (by simp) (by simp) rfl (by simp) (by simp) (by simp) (by simp)
 ·have hkb : (k == 2) = false := by simpa using hk
  have hc : (if k = 2 ∧ n = v then w else n) = n := if_neg fun h => hk h.1
  rw [hc]
  simp -dsimp -implicitDefEqProofs [hn0, hn, zz, loadA, hkb]
  subst hR
  exact m48 (b3 := st.next) (b6 := st.next + 1) (zb := [.int .i64 0, .int .i64 0, .int .i64 0, .str [], .int .i32 0, .sl [] 0 .full]) hwf hlen ih' (by repeat first | exact zk hwf | (refine zb ?_ ?_; rotate_left; focus (first | (simp; done) | (simp; omega)))) (by simp) (fun p hp => by simp [hp, zx, zy]) (by omega) (by omega) (by omega) (by simp) (by simp) (by simp) (by simp) rfl (by simp) (by simp) (by simp) (by simp)
end
section
variable {w0 : World} {base : Nat}
theorem renSL_take (v w : Str) : ∀ (l : List Sm) (j : Nat) (e : Sm), l[j]? = some e → renSL v w (l.take (j + 1)) = renSL v w (l.take j) ++ [renS v w e]
 | [], j, e, h => by simp at h
 | a :: l, 0, e, h => by simp at h; subst h; simp [renSL]
 | a :: l, j + 1, e, h => by
  have := renSL_take v w l j e (by simpa using h)
  simp only [List.take_succ_cons, renSL, this, List.cons_append]
theorem six_of {l : List AV} (h : l.length = 6) : ∃ a b c d e f, l = [a, b, c, d, e, f] := by
 match l, h with
 | [a, b, c, d, e, f], _ => exact ⟨a, b, c, d, e, f, rfl⟩
def l21r : SCode := (.seq (.draw [0, 1, 0, 0, 15, 0, 32, 0, 0, 511, 127, 2047, 4095, 8191] [0, 1, 2, 3, 4, 5, 6, 7, 8, 9, 10, 11, 12, 13] [pE 42 (.fldA 5 (t 9)), oS 43 (.load 6 true (t 42)), m 44 1, m 45 2, oS 46 (.call 48 [(t 43), (t 44), (t 45)]), pE 47 (.fldA 11 (t 9)), oS 48 (.load 6 true (t 47)), m 49 1, m 50 2, oS 51 (.call 48 [(t 48), (t 49), (t 50)]), pE 52 (.fldA 5 (t 9)), ⟨none, none, (.store 6 (t 52) (t 46))⟩, pE 53 (.fldA 11 (t 9)), ⟨none, none, (.store 6 (t 53) (t 51))⟩]) (.seq (.frz [9] (.draw [0, 1, 0, 0, 15, 0, 32, 0, 0, 511, 127, 2047, 4095, 8191] [0, 1, 2, 3, 4, 5, 6, 7, 8, 9, 10, 11, 12, 13] [pE 54 (.fldA 17 (t 9)), oS 55 (.load 1 false (t 54)), m 56 1, m 57 2, oS 58 (.call 21 [(t 55), (t 56), (t 57)]), pE 59 (.fldA 18 (t 9)), oS 60 (.load 1 false (t 59)), m 61 1, m 62 2, oS 63 (.call 21 [(t 60), (t 61), (t 62)]), pE 64 (.fldA 17 (t 9)), ⟨none, none, (.store 1 (t 64) (t 58))⟩, pE 65 (.fldA 18 (t 9)), ⟨none, none, (.store 1 (t 65) (t 63))⟩])) (.reg [m 66 7, oS 67 (.load 19 true (t 9)), pE 68 (.lits 19 [(t 67)]), oS 69 (.append false 54 19 240 (t 66) (t 68) 3), m 7 69])))
theorem m21 {st z0 z : St} {v w n' : Str} {kd op t b : Int} {x y : Ex} {body els : List Sm} {e : Env} {Q : CK} {j : Nat} {p : Perm} {cs : List AV} {b9 : Nat} (hwf : st.wf) (hx : x.ar) (hy : y.ar) (hj : j < 100000)
  (h1 : ∀ st, Det Tryz.prog w0 base 21 [.sl (Sm.cellsL body) body.length .no, .str v, .str w] st (.sl (Sm.cellsL (renSL v w body)) body.length .no) st)
  (h2 : ∀ st, Det Tryz.prog w0 base 21 [.sl (Sm.cellsL els) els.length .no, .str v, .str w] st (.sl (Sm.cellsL (renSL v w els)) els.length .no) st)
  (hI : TipG 54 19 st j p z0) (hz : z.wf) (hzn : z0.next ≤ b9) (hb9 : b9 < z.next) (hold' : ∀ q, q ≠ b9 → z.objs q = z0.objs q)
  (o9 : z.objs b9 = some (.cells 54 ([vi kd, vi op, vi t, vi b, .str n'] ++ x.cells ++ y.cells ++ [.sl (Sm.cellsL body) body.length .no, .sl (Sm.cellsL els) els.length .no])))
  (e1 : e 1 = .str v) (e2 : e 2 = .str w) (e7 : e 7 = .sl cs j p) (hcs : cs.length = j * 19) (e9 : e 9 = .ptr b9 0)
  (hQ : ∀ e' z' p', (∀ t, wr t l21r = false → e' t = e t) → e' 7 = .sl (cs ++ ([vi kd, vi op, vi t, vi b, .str n'] ++ (renE v w x).cells ++ (renE v w y).cells ++ [.sl (Sm.cellsL (renSL v w body)) body.length .no, .sl (Sm.cellsL (renSL v w els)) els.length .no])) (j + 1) p' → TipG 54 19 st (j + 1) p' z' → Q .normal e' [] z') :
  awp Tryz.prog w0 base l21r e [] z Q := by
 have bx := Ex.bare_cells x
 have by_ := Ex.bare_cells y
 have bb := Sm.bare_cellsL body
 have be := Sm.bare_cellsL els
 have d1 := fun st => d48 (w0 := w0) (base := base) v w x hx st
 have d2 := fun st => d48 (w0 := w0) (base := base) v w y hy st
 obtain ⟨x0, x1, x2, x3, x4, x5, ex⟩ := six_of (Ex.cells_len x)
 obtain ⟨y0, y1, y2, y3, y4, y5, ey⟩ := six_of (Ex.cells_len y)
 obtain ⟨u0, u1, u2, u3, u4, u5, eu⟩ := six_of (Ex.cells_len (renE v w x))
 obtain ⟨s0, s1, s2, s3, s4, s5, es⟩ := six_of (Ex.cells_len (renE v w y))
 rw [ex] at bx d1 o9
 rw [ey] at by_ d2 o9
 rw [eu] at d1 hQ
 rw [es] at d2 hQ
 simp only [List.cons_append, List.nil_append] at o9 hQ
 suffices main : awp Tryz.prog w0 base l21r e [] z (fun ex e' d z' => ex = .normal ∧ d = [] ∧ ∃ p', e' 7 = .sl (cs ++ [vi kd, vi op, vi t, vi b, .str n', u0, u1, u2, u3, u4, u5, s0, s1, s2, s3, s4, s5, .sl (Sm.cellsL (renSL v w body)) body.length .no, .sl (Sm.cellsL (renSL v w els)) els.length .no]) (j + 1) p' ∧ TipG 54 19 st (j + 1) p' z') by
  refine xp l21r _ _ _ _ _ ?_ (wa l21r _ _ _ _ main)
  rintro ex e' d z' ⟨⟨rfl, rfl, p', h3, h4⟩, h5, h6⟩
  exact hQ e' z' p' h5 h3 h4
 unfold l21r
 simp only [AV.bareL, List.cons.injEq, and_true] at bx by_
 have q1 : (j + 1) * 240 ≤ big := by unfold big; omega
 have q2 : j + 1 ≤ big := by unfold big; omega
 simp -dsimp -implicitDefEqProofs [e1, e2, e9, o9, loadA]
 refine zo (d1 _) (by simp [AV.bareL, AV.bare, bx]) ?_
 simp -dsimp -implicitDefEqProofs [e1, e2, e9, o9, loadA]
 refine zo (d2 _) (by simp [AV.bareL, AV.bare, by_]) ?_
 simp -dsimp -implicitDefEqProofs [e1, e2, e9, o9, loadA]
 refine zo (h1 _) (by simp [AV.bareL, AV.bare, bb]) ?_
 simp -dsimp -implicitDefEqProofs [e1, e2, e9, o9, loadA]
 refine zo (h2 _) (by simp [AV.bareL, AV.bare, be]) ?_
 simp -dsimp -implicitDefEqProofs [e1, e2, e7, e9, o9, loadA, hcs, q1, q2]
 cases hI with
 | none hI =>
  simp -dsimp -implicitDefEqProofs [hcs]
  have hle := hI.le
  refine .some (by omega) (by simp) (fun q hq => ?_) (by simp) (fun q hq hq' => ?_) (by simp)
  ·have g1 : q ≠ z.next + 31 := by omega
   have g2 : q ≠ b9 := by omega
   simp [g1, g2, hold' q g2, hI.objs]
  ·by_cases g2 : q = b9
   ·simp [hq, g2]
    intro h; exact absurd (g2.trans h) hq
   ·simp [hq, g2, hold' q g2, hI.objs]
    exact none_from hwf hq'
 | @some _ _ t' le lt old at_ no hn =>
  have ht9 : t' ≠ b9 := by omega
  have at9 := (hold' t' ht9).trans at_
  simp -dsimp -implicitDefEqProofs [hcs, at9, ht9]
  refine .some le (by simp; omega) (fun q hq => ?_) (by simp) (fun q hq hq' => ?_) (by simp)
  ·have g1 : q ≠ t' := by omega
   have g2 : q ≠ b9 := by omega
   simp [g1, g2, hold' q g2, old q hq]
  ·by_cases g2 : q = b9
   ·simp [hq, g2, ht9.symm]
   ·simp [hq, g2, hold' q g2, no q hq hq']
def RS (w0 : World) (base : Nat) (v w : Str) (s : Sm) : Prop := s.x.ar ∧ s.y.ar ∧ (∀ st, Det Tryz.prog w0 base 21 [.sl (Sm.cellsL s.body) s.body.length .no, .str v, .str w] st (.sl (Sm.cellsL (renSL v w s.body)) s.body.length .no) st) ∧
 ∀ st, Det Tryz.prog w0 base 21 [.sl (Sm.cellsL s.els) s.els.length .no, .str v, .str w] st (.sl (Sm.cellsL (renSL v w s.els)) s.els.length .no) st
def l21a : SCode := (.seq (.reg [m 11 8, m 12 0, pE 13 (.lenL (t 12)), pE 14 (.bin .int .lss (t 11) (t 13))]) (.cond (t 14) .skip (.exit 0)))
def l21b : SCode := (.reg [m 17 0, m 18 8, pE 19 (.idxA 19 (t 17) (t 18)), oS 20 (.load 19 true (t 19)), oS 9 (.alloc 54 (.agg [(.int .i64 0), (.int .i64 0), (.int .i64 0), (.int .i64 0), (.str []), (.int .i64 0), (.int .i64 0), (.int .i64 0), (.str []), (.int .i32 0), (.sl [] 0 .full), (.int .i64 0), (.int .i64 0), (.int .i64 0), (.str []), (.int .i32 0), (.sl [] 0 .full), (.sl [] 0 .full), (.sl [] 0 .full)]) 4), ⟨none, none, (.store 19 (t 9) (t 20))⟩])
def l21c : SCode := (.seq (.reg [pE 21 (.fldA 4 (t 9)), oS 22 (.load 1 false (t 21)), m 23 1, pE 24 (.bin .str .eql (t 22) (t 23)), m 25 24, pG 26 25 true (.fldA 0 (t 9)), oG 27 25 true (.load 1 false (t 26)), pG 28 25 true (.bin .int .eql (t 27) (i 1)), pG 29 25 true (.mov (t 28)), pG 30 29 false (.fldA 0 (t 9)), oG 31 29 false (.load 1 false (t 30)), pG 32 29 false (.bin .int .eql (t 31) (i 2)), pG 33 25 true (.pick (t 29) (.lit (.bool true)) (t 32)), pG 34 25 true (.mov (t 33)), pG 35 34 false (.fldA 0 (t 9)), oG 36 34 false (.load 1 false (t 35)), pG 37 34 false (.bin .int .eql (t 36) (i 12)), pG 38 25 true (.pick (t 34) (.lit (.bool true)) (t 37)), pE 39 (.pick (t 25) (t 38) (.lit (.bool false)))]) (.cond (t 39) (.reg [m 40 2, pE 41 (.fldA 4 (t 9)), ⟨none, none, (.store 1 (t 41) (t 40))⟩]) .skip))
def l21d : SCode := (.reg [m 15 8, pE 16 (.bin .int .add (t 15) (i 1)), m 8 16])
theorem l21_eq : l21_0 = .seq l21a (.seq (.block 1 (.seq l21b (.seq l21c l21r))) l21d) := rfl
theorem d21_of (v w : Str) (l : List Sm) (hlen : l.length ≤ 100000) (ih : ∀ s ∈ l, RS w0 base v w s) (st : St) : Det Tryz.prog w0 base 21 [.sl (Sm.cellsL l) l.length .no, .str v, .str w] st (.sl (Sm.cellsL (renSL v w l)) l.length .no) st := by
 refine zh (zp Tryz.func21 r21) fun hwf hfit => uh Tryz.func21 r21 rfl ?_
 clear hfit
 have hn0 := zj hwf
 have hn := zf hwf
 have hrow := fun j x => @yg _ Sm.cells 19 Sm.cells_len l j x
 have hle := fun j x => @ye _ Sm.cells 19 Sm.cells_len l j x
 rw [← Sm.cellsL_row] at hrow hle
 have hcl := Sm.cellsL_len l
 unfold b21
 simp -dsimp -implicitDefEqProofs
 refine loop_by (fun kk e z' => ∃ (j : Nat) (p : Perm), j + kk = l.length ∧ e 8 = vi j ∧ e 7 = .sl (Sm.cellsL (renSL v w (l.take j))) j p ∧ TipG 54 19 st j p z') l.length ⟨0, .full, by omega, by simp, by simp [renSL, Sm.cellsL], by simpa using TipG.none (Akin.refl _ _)⟩ (by decide) ?_
 rintro kk e z hfr ⟨j, p, hjk, e8, e7, hI⟩
 have f0 : e 0 = .sl (Sm.cellsL l) l.length .no := by rw [hfr 0 rfl]; simp
 have f1 : e 1 = .str v := by rw [hfr 1 rfl]; simp
 have f2 : e 2 = .str w := by rw [hfr 2 rfl]; simp
 have fr := hI.fresh hwf
 have fr0 := fr 0
 simp only [Nat.add_zero] at fr0
 rw [l21_eq]
 generalize hR : l21r = R
 unfold l21a l21b l21c l21d
 simp -dsimp -implicitDefEqProofs [f0, e8, fr, fr0]
 refine Br_iff (fun hb => ?_) (fun hb => ?_)
 ·have hjl : j < l.length := by simpa using hb
  obtain ⟨s, hs⟩ : ∃ s, l[j]? = some s := ⟨_, List.getElem?_eq_getElem hjl⟩
  have c1 := hrow j s hs
  have c2 := hle j s hs
  have htk := renSL_take v w l j s hs
  obtain ⟨hx, hy, h1, h2⟩ := ih s (List.mem_of_getElem? hs)
  obtain ⟨kd, op, t, b, nm, x, y, body, els⟩ := s
  simp only [Sm.x, Sm.y, Sm.body, Sm.els] at hx hy h1 h2
  obtain ⟨x0, x1, x2, x3, x4, x5, ex⟩ := six_of (Ex.cells_len x)
  obtain ⟨y0, y1, y2, y3, y4, y5, ey⟩ := six_of (Ex.cells_len y)
  simp only [Sm.cells, ex, ey, List.cons_append, List.nil_append] at c1
  have hwj : IntKind.i64.wrap ((j : Int) + 1) = (j : Int) + 1 := yy (by omega) (by omega)
  have hzw := hI.wf hwf
  have hcs : (Sm.cellsL (renSL v w (l.take j))).length = j * 19 := by rw [Sm.cellsL_len, renSL_len, List.length_take]; congr 1; omega
  have hsa : Sm.cellsL (renSL v w (l.take (j + 1))) = Sm.cellsL (renSL v w (l.take j)) ++ ([vi kd, vi op, vi t, vi b, .str (if nm = v ∧ (kd = 1 ∨ kd = 2 ∨ kd = 12) then w else nm)] ++ (renE v w x).cells ++ (renE v w y).cells ++ [.sl (Sm.cellsL (renSL v w body)) body.length .no, .sl (Sm.cellsL (renSL v w els)) els.length .no]) := by
   rw [htk, cellsL_append]; simp [Sm.cellsL, renS, Sm.cells, renSL_len]
  by_cases hnv : nm = v
  ·by_cases k1 : kd = 1
   ·have hnm : (if nm = v ∧ (kd = 1 ∨ kd = 2 ∨ kd = 12) then w else nm) = w := if_pos ⟨hnv, .inl k1⟩
    rw [hnm] at hsa
    simp -dsimp -implicitDefEqProofs [f0, f1, f2, e8, e7, fr, fr0, loadA, hjl, c1, c2, k1, hnv]
    subst hR
    refine m21 (b9 := z.next + 8) (kd := kd) (op := op) (t := t) (b := b) (n' := w) (x := x) (y := y) (body := body) (els := els) (cs := Sm.cellsL (renSL v w (l.take j))) hwf hx hy (by omega) h1 h2 hI (by repeat first | exact zk hzw | (refine zb ?_ ?_; rotate_left; focus (first | (simp; done) | (simp; omega)))) (by omega) (by simp) (fun q hq => by simp [hq]) (by simp [ex, ey, k1, hnv]) (by simp [f1]) (by simp [f2]) (by simp [e7]) hcs (by simp) (fun e' z' p' hfr' g7 hT => ?_)
    have g8 : e' 8 = vi j := by rw [hfr' 8 rfl]; simp [e8]
    simp -dsimp -implicitDefEqProofs [g8, hwj]
    exact hold ⟨kk - 1, by omega, j + 1, by omega, by simp, p', by simp [g7, hsa], hT.bump _⟩
   ·have k1b : (kd == 1) = false := by simpa using k1
    by_cases k2 : kd = 2
    ·have hnm : (if nm = v ∧ (kd = 1 ∨ kd = 2 ∨ kd = 12) then w else nm) = w := if_pos ⟨hnv, .inr (.inl k2)⟩
     rw [hnm] at hsa
     simp -dsimp -implicitDefEqProofs [f0, f1, f2, e8, e7, fr, fr0, loadA, hjl, c1, c2, k2, hnv]
     subst hR
     refine m21 (b9 := z.next + 8) (kd := kd) (op := op) (t := t) (b := b) (n' := w) (x := x) (y := y) (body := body) (els := els) (cs := Sm.cellsL (renSL v w (l.take j))) hwf hx hy (by omega) h1 h2 hI (by repeat first | exact zk hzw | (refine zb ?_ ?_; rotate_left; focus (first | (simp; done) | (simp; omega)))) (by omega) (by simp) (fun q hq => by simp [hq]) (by simp [ex, ey, k2, hnv]) (by simp [f1]) (by simp [f2]) (by simp [e7]) hcs (by simp) (fun e' z' p' hfr' g7 hT => ?_)
     have g8 : e' 8 = vi j := by rw [hfr' 8 rfl]; simp [e8]
     simp -dsimp -implicitDefEqProofs [g8, hwj]
     exact hold ⟨kk - 1, by omega, j + 1, by omega, by simp, p', by simp [g7, hsa], hT.bump _⟩
    ·have k2b : (kd == 2) = false := by simpa using k2
     by_cases k12 : kd = 12
     ·have hnm : (if nm = v ∧ (kd = 1 ∨ kd = 2 ∨ kd = 12) then w else nm) = w := if_pos ⟨hnv, .inr (.inr k12)⟩
      rw [hnm] at hsa
      simp -dsimp -implicitDefEqProofs [f0, f1, f2, e8, e7, fr, fr0, loadA, hjl, c1, c2, k12, hnv]
      subst hR
      refine m21 (b9 := z.next + 8) (kd := kd) (op := op) (t := t) (b := b) (n' := w) (x := x) (y := y) (body := body) (els := els) (cs := Sm.cellsL (renSL v w (l.take j))) hwf hx hy (by omega) h1 h2 hI (by repeat first | exact zk hzw | (refine zb ?_ ?_; rotate_left; focus (first | (simp; done) | (simp; omega)))) (by omega) (by simp) (fun q hq => by simp [hq]) (by simp [ex, ey, k12, hnv]) (by simp [f1]) (by simp [f2]) (by simp [e7]) hcs (by simp) (fun e' z' p' hfr' g7 hT => ?_)
      have g8 : e' 8 = vi j := by rw [hfr' 8 rfl]; simp [e8]
      simp -dsimp -implicitDefEqProofs [g8, hwj]
      exact hold ⟨kk - 1, by omega, j + 1, by omega, by simp, p', by simp [g7, hsa], hT.bump _⟩
     ·have k12b : (kd == 12) = false := by simpa using k12
      have hnm : (if nm = v ∧ (kd = 1 ∨ kd = 2 ∨ kd = 12) then w else nm) = nm := if_neg fun h => by omega
      rw [hnm] at hsa
      simp -dsimp -implicitDefEqProofs [f0, f1, f2, e8, e7, fr, fr0, loadA, hjl, c1, c2, k1b, k2b, k12b, hnv]
      subst hR
      refine m21 (b9 := z.next + 8) (kd := kd) (op := op) (t := t) (b := b) (n' := nm) (x := x) (y := y) (body := body) (els := els) (cs := Sm.cellsL (renSL v w (l.take j))) hwf hx hy (by omega) h1 h2 hI (by repeat first | exact zk hzw | (refine zb ?_ ?_; rotate_left; focus (first | (simp; done) | (simp; omega)))) (by omega) (by simp) (fun q hq => by simp [hq]) (by simp [ex, ey, hnv]) (by simp [f1]) (by simp [f2]) (by simp [e7]) hcs (by simp) (fun e' z' p' hfr' g7 hT => ?_)
      have g8 : e' 8 = vi j := by rw [hfr' 8 rfl]; simp [e8]
      simp -dsimp -implicitDefEqProofs [g8, hwj]
      exact hold ⟨kk - 1, by omega, j + 1, by omega, by simp, p', by simp [g7, hsa], hT.bump _⟩
  ·have hnb : (nm == v) = false := by simpa using hnv
   have hnm : (if nm = v ∧ (kd = 1 ∨ kd = 2 ∨ kd = 12) then w else nm) = nm := if_neg fun h => hnv h.1
   rw [hnm] at hsa
   simp -dsimp -implicitDefEqProofs [f0, f1, f2, e8, e7, fr, fr0, loadA, hjl, c1, c2, hnb]
   subst hR
   refine m21 (b9 := z.next + 8) (kd := kd) (op := op) (t := t) (b := b) (n' := nm) (x := x) (y := y) (body := body) (els := els) (cs := Sm.cellsL (renSL v w (l.take j))) hwf hx hy (by omega) h1 h2 hI (by repeat first | exact zk hzw | (refine zb ?_ ?_; rotate_left; focus (first | (simp; done) | (simp; omega)))) (by omega) (by simp) (fun q hq => by simp [hq]) (by simp [ex, ey, hnb]) (by simp [f1]) (by simp [f2]) (by simp [e7]) hcs (by simp) (fun e' z' p' hfr' g7 hT => ?_)
   have g8 : e' 8 = vi j := by rw [hfr' 8 rfl]; simp [e8]
   simp -dsimp -implicitDefEqProofs [g8, hwj]
   exact hold ⟨kk - 1, by omega, j + 1, by omega, by simp, p', by simp [g7, hsa], hT.bump _⟩
 ·have hjl : ¬ j < l.length := by simpa using hb
  have hj : j = l.length := by omega
  subst hj
  rw [List.take_of_length_le (Nat.le_refl _)] at e7
  have el := fun m => Sm.erase_cellsL m (renSL v w l)
  have bl := Sm.bare_cellsL (renSL v w l)
  simp -dsimp -implicitDefEqProofs [f0, e7, e8]
  exact hold (finB_pure hwf (fun q hq => by simp [hI.old q hq]) (by simp [packRes, eraseA, el, AV.bare, bl]))
theorem mem_nodes : ∀ (l : List Sm) (s : Sm), s ∈ l → nodesS s ≤ nodesSL l
 | [], s, h => absurd h (by simp)
 | a :: l, s, h => by
  simp only [nodesSL]
  rcases List.mem_cons.1 h with rfl | h
  ·omega
  ·have := mem_nodes l s h; omega
theorem rs_all (v w : Str) : ∀ s : Sm, s.ar → nodesS s ≤ 100000 → RS w0 base v w s := by
 refine Sm.ind ?_
 intro kd op t b nm x y body els ih1 ih2 har hn
 simp only [nodesS] at hn
 have hb := len_nodes body
 have he := len_nodes els
 exact ⟨har.1, har.2.1, fun st => d21_of v w body (by omega) (fun s hs => ih1 s hs (arS_mem har.2.2.1 s hs) (by have := mem_nodes body s hs; omega)) st,
  fun st => d21_of v w els (by omega) (fun s hs => ih2 s hs (arS_mem har.2.2.2 s hs) (by have := mem_nodes els s hs; omega)) st⟩
theorem d21 (v w : Str) (l : List Sm) (har : arS l) (hn : nodesSL l ≤ 100000) (st : St) : Det Tryz.prog w0 base 21 [.sl (Sm.cellsL l) l.length .no, .str v, .str w] st (.sl (Sm.cellsL (renSL v w l)) l.length .no) st :=
 d21_of v w l (by have := len_nodes l; omega) (fun s hs => rs_all v w s (arS_mem har s hs) (by have := mem_nodes l s hs; omega)) st
end
section
variable {w0 : World} {base : Nat}
theorem d5 (hT : Tabs w0 base) (st : St) (bs : List UInt8) : Det Tryz.prog w0 base 5 [.agg [bytesV bs]] st (.bool true) st := by
 refine zh (zp Tryz.func5 r5) fun hwf hfit => z6 Tryz.func5 r5 rfl ?_
 clear hfit
 have hn0 := zj hwf
 have hn := zf hwf
 have hbf := body_few bs
 have hno : nodesSL (madeM bs).body ≤ 100000 := by
  obtain ⟨sc', g, _⟩ := (ul bs).body
  have := g.co.nodes; omega
 have har : arS (madeM bs).body := (valid_ar (made_valid bs)).body
 have k0 := fun st => d20 (w0 := w0) (base := base) st (madeM bs).body
 have k1 := fun w st => d21 (w0 := w0) (base := base) (firstP (madeM bs).body) w (madeM bs).body har hno st
 have bca := xb Ar.cells Ar.bare_cells (madeM bs).arrays
 have bcp := xb Pa.cells Pa.bare_cells (madeM bs).params
 have bcf := xb Fu.cells Fu.bare_cells (madeM bs).funcs
 have bcb : AV.bareL (Sm.cellsL (madeM bs).body) = Sm.cellsL (madeM bs).body := Sm.bare_cellsL _
 have brb := fun w => Sm.bare_cellsL (renSL (firstP (madeM bs).body) w (madeM bs).body)
 have kc : (madeM bs).cells = [.str (madeM bs).name, vi (madeM bs).group, vi (madeM bs).sub, .sl (rowOf Ar.cells (madeM bs).arrays) 5 .no, .sl (rowOf Pa.cells (madeM bs).params) (madeM bs).params.length .no, .sl (rowOf Fu.cells (madeM bs).funcs) (madeM bs).funcs.length .no, .sl (Sm.cellsL (madeM bs).body) (madeM bs).body.length .no] := rfl
 have kr : ∀ w, (renM bs w).cells = [.str (madeM bs).name, vi (madeM bs).group, vi (madeM bs).sub, .sl (rowOf Ar.cells (madeM bs).arrays) 5 .no, .sl (rowOf Pa.cells (madeM bs).params) (madeM bs).params.length .no, .sl (rowOf Fu.cells (madeM bs).funcs) (madeM bs).funcs.length .no, .sl (Sm.cellsL (renSL (firstP (madeM bs).body) w (madeM bs).body)) (madeM bs).body.length .no] := by
  intro w
  have : (renM bs w).body.length = (madeM bs).body.length := renSL_len _
  simp only [Ke.cells, this]
  rfl
 have ca0 : (rowOf Ar.cells (madeM bs).arrays)[0]? = some (.str [97]) := rfl
 have cal : (rowOf Ar.cells (madeM bs).arrays).length = 20 := rfl
 have hm12 := fun st => d12 (w0 := w0) (base := base) st bs
 have k2 := fun (hv : firstP (madeM bs).body ≠ []) st => d14 (w0 := w0) (base := base) hT st (renM bs [113, 113, 57]) (renM_parts bs hv (by decide +kernel)).2.1 (renM_parts bs hv (by decide +kernel)).2.2
 have k3 := fun (hv : firstP (madeM bs).body ≠ []) st => d14 (w0 := w0) (base := base) hT st (renM bs [97]) (renM_parts bs hv (by decide +kernel)).2.1 (renM_parts bs hv (by decide +kernel)).2.2
 have e2 := renM_good bs
 have e3 := renM_bad bs
 rw [kc] at hm12
 simp only [kr] at k2 k3
 have cag : ∀ h, (rowOf Ar.cells (madeM bs).arrays)[0]'h = .str [97] := fun h => rfl
 clear har hno kc kr
 generalize checkP (renM bs [113, 113, 57]) = c2 at *
 generalize checkP (renM bs [97]) = c3 at *
 generalize h1 : Sm.cellsL (renSL (firstP (madeM bs).body) [113, 113, 57] (madeM bs).body) = rq at *
 generalize h2 : Sm.cellsL (renSL (firstP (madeM bs).body) [97] (madeM bs).body) = ra at *
 have bq : AV.bareL rq = rq := by rw [← h1]; exact brb _
 have ba : AV.bareL ra = ra := by rw [← h2]; exact brb _
 have k1q := k1 [113, 113, 57]
 have k1a := k1 [97]
 rw [h1] at k1q
 rw [h2] at k1a
 clear k1 brb h1 h2
 generalize firstP (madeM bs).body = fn at *
 generalize madeM bs = K at *
 generalize rowOf Ar.cells K.arrays = ca at *
 generalize rowOf Pa.cells K.params = cp at *
 generalize rowOf Fu.cells K.funcs = cf at *
 generalize Sm.cellsL K.body = cb at *
 unfold b5
 simp -dsimp -implicitDefEqProofs [hn0, hn, zz, bytesV]
 refine zt (d11 hT _) ?_
 simp -dsimp -implicitDefEqProofs [hn0, hn, zz]
 refine zt (hm12 _) ?_
 simp -dsimp -implicitDefEqProofs [hn0, hn, zz]
 refine zo (k0 _) (by simp [AV.bareL, AV.bare, bcb]) ?_
 by_cases hv : fn = []
 ·have hvb : (fn == []) = true := by simp [hv]
  simp -dsimp -implicitDefEqProofs [hn0, hn, zz, hvb, hv]
  exact zg hwf (fun p hp => by simp) (by simp [eraseA])
 ·have hvb : (fn == []) = false := by simpa using hv
  have k2 := k2 hv
  have k3 := k3 hv
  have e2 := e2 hv
  have e3 := e3 hv
  subst e2 e3
  simp -dsimp -implicitDefEqProofs [hn0, hn, zz, hvb, hv]
  refine zo (k1q _) (by simp [AV.bareL, AV.bare, bcb]) ?_
  simp -dsimp -implicitDefEqProofs [hn0, hn, zz, ca0, cal, cag]
  refine zo (k1a _) (by simp [AV.bareL, AV.bare, bcb]) ?_
  simp -dsimp -implicitDefEqProofs [hn0, hn, zz]
  refine zo (k3 _) (by simp [AV.bareL, AV.bare, bca, bcp, bcf, ba]) ?_
  simp -dsimp -implicitDefEqProofs [hn0, hn, zz]
  refine zo (k2 _) (by simp [AV.bareL, AV.bare, bca, bcp, bcf, bq]) ?_
  simp -dsimp -implicitDefEqProofs [hn0, hn, zz]
  refine zg hwf (fun p hp => ?_) (by simp [eraseA])
  have g1 : p ≠ st.next + 18 := by omega
  have g2 : p ≠ st.next + 19 := by omega
  simp [g1, g2]
end
end Go.Proofs.YthaekebedmoipaaGreatDoor.AM
