/- Part 11 of the proof: G16 G17 G18 G19 G20 G21 G22 X1. -/
import Derived.Test.YthaekebedmoipaaGreatDoorJ10
import Derived.Test.YthaekebedmoipaaGreatDoorJ7
import Derived.Test.YthaekebedmoipaaGreatDoorCards
import Derived.Test.YthaekebedmoipaaGreatDoorTie
import Derived.WalkKit
import Derived.ProofKit
import Derived.OpenShut
import Derived.Carry
import Derived.Deep.DeepHandedRow
import Derived.Lib.LaidTab
import Derived.Stop.LaidErr
/- What is valid has the operands that it wants. -/
set_option linter.unusedVariables false
set_option linter.unusedSimpArgs false
set_option maxRecDepth 100000
namespace Go.Proofs.YthaekebedmoipaaGreatDoor.AM
open Go Go.RowKit
variable {w0 : World} {base : Nat}

theorem cats_bad (l : List (Str × Bool)) : (cats l).2 = l.any (·.2) := by
  induction l with
  | nil => rfl
  | cons x l ih => simp [cats, cat, ih]
theorem commas_bad (r : List (Str × Bool)) : ∀ n, (commas n r).any (·.2) = r.any (·.2) := by
  induction r with
  | nil => intro n; simp [commas]
  | cons x l ih => intro n; cases n <;> simp [commas, ih]
theorem listP_bad (r : List (Str × Bool)) : (listP r).2 = r.any (·.2) := by
  rw [listP, cats_bad]
  simp [commas_bad]
theorem only_len {k op t : Int} {nm : Str} {v : Int} {la : Nat} {n : Int} (h : onlyP k op t nm v la n = false) : (la : Int) = n := by
  simp only [onlyP, Bool.or_eq_false_iff] at h
  simpa using h.1
theorem nodeP_ok {k op t : Int} {n : Str} {v : Int} {r : List (Str × Bool)} (h : (nodeP k op t n v r).2 = false) :
    (k ≠ 8 → r.length ≤ 3) ∧ (k = 4 ∨ k = 7 → 1 ≤ r.length) ∧ (k = 5 → 2 ≤ r.length) ∧ (k = 6 → 3 ≤ r.length) ∧ ∀ x ∈ r, x.2 = false := by
  unfold nodeP at h
  split at h
  · subst k
    rw [cats_bad] at h
    simp only [List.any_cons, List.any_nil, Bool.or_eq_false_iff] at h
    have := only_len h.1
    have hr : r = [] := List.length_eq_zero_iff.1 (by omega)
    subst hr
    simp
  split at h
  · subst k
    rw [cats_bad] at h
    simp only [List.any_cons, List.any_nil, Bool.or_eq_false_iff] at h
    have := only_len h.1
    have hr : r = [] := List.length_eq_zero_iff.1 (by omega)
    subst hr
    simp
  split at h
  · subst k
    rw [cats_bad] at h
    simp only [List.any_cons, List.any_nil, Bool.or_eq_false_iff] at h
    have := only_len h.1
    have hr : r = [] := List.length_eq_zero_iff.1 (by omega)
    subst hr
    simp
  split at h
  · subst k
    rw [cats_bad] at h
    simp only [List.any_cons, List.any_nil, Bool.or_eq_false_iff, listP_bad] at h
    have := only_len h.1
    obtain ⟨x, rfl⟩ := List.length_eq_one_iff.1 (show r.length = 1 by omega)
    simpa using h.2.2
  split at h
  · subst k
    rw [cats_bad] at h
    simp only [List.any_cons, List.any_nil, Bool.or_eq_false_iff] at h
    have := only_len h.1
    obtain ⟨x, y, rfl⟩ : ∃ x y, r = [x, y] := by
      match r, this with
      | [x, y], _ => exact ⟨x, y, rfl⟩
      | [], h => simp at h
      | [_], h => simp at h
      | _ :: _ :: _ :: _, h => simp at h; omega
    have h2 := h.2
    simp only [twoP, binP] at h2
    split at h2 <;> simp [cat, listP_bad] at h2 <;> simp [h2]
  split at h
  · subst k
    rw [cats_bad] at h
    simp only [List.any_cons, List.any_nil, Bool.or_eq_false_iff] at h
    have := only_len h.1
    obtain ⟨x, y, z, rfl⟩ : ∃ x y z, r = [x, y, z] := by
      match r, this with
      | [x, y, z], _ => exact ⟨x, y, z, rfl⟩
      | [], h => simp at h
      | [_], h => simp at h
      | [_, _], h => simp at h
      | _ :: _ :: _ :: _ :: _, h => simp at h; omega
    have h2 := h.2
    simp [threeP, cat] at h2
    simp [h2]
  split at h
  · subst k
    rw [cats_bad] at h
    simp only [List.any_cons, List.any_nil, Bool.or_eq_false_iff] at h
    have := only_len h.2.1
    obtain ⟨x, rfl⟩ := List.length_eq_one_iff.1 (show r.length = 1 by omega)
    have h3 : x.2 = false := by simpa [oneP, cat] using h.2.2
    simp [h3]
  split at h
  · subst k
    rw [cats_bad] at h
    simp only [List.any_cons, List.any_nil, Bool.or_eq_false_iff, listP_bad] at h
    simpa using h.2.2
  · cases h
theorem overL_iff (d : Int) : ∀ l : List Ex, overL l d = l.any (overE · d)
  | [] => by simp [overL]
  | e :: l => by simp [overL, overL_iff d l]
theorem arL_of : ∀ {l : List Ex}, (∀ x ∈ l, x.ar) → arL l
  | [], _ => by simp [arL]
  | e :: l, h => by
    simp only [arL]
    exact ⟨h e (by simp), arL_of fun x hx => h x (List.mem_cons_of_mem _ hx)⟩
theorem expr_ar : ∀ (e : Ex), (exprP e).2 = false → ∀ d, overE e d = false → e.ar := by
  refine Ex.ind ?_
  intro k op t n v a ih h d ho
  simp only [exprP, exprsP_map] at h
  obtain ⟨h8, h4, h5, h6, hall⟩ := nodeP_ok h
  simp only [List.length_map] at *
  simp only [overE, Bool.or_eq_false_iff, overL_iff, List.any_eq_false] at ho
  simp only [Ex.ar]
  refine ⟨⟨?_, h4, h5, h6⟩, arL_of fun x hx => ih x hx (hall _ (List.mem_map_of_mem hx)) (incW d) (by simpa using ho.2 x hx)⟩
  by_cases hk : k = 8
  · subst hk
    have := ho.1.2
    simp at this
    exact this
  · have := h8 hk
    omega
theorem none_ar {e : Ex} (h : noneP e = true) : e.ar := by
  obtain ⟨k, op, t, n, v, a⟩ := e
  simp [noneP] at h
  obtain ⟨rfl, _, _, _, _, rfl⟩ := h
  simp [Ex.ar, arL]
theorem ex_ar {e : Ex} (h : (exprP e).2 = false) (ho : exO e = false) : e.ar := by
  by_cases hk : e.kind = 0
  · obtain ⟨k, op, t, n, v, a⟩ := e
    simp only [Ex.kind] at hk
    subst hk
    simp [exprP, nodeP] at h
  · simp only [exO, hk, if_false] at ho
    exact expr_ar e h 1 ho
theorem spare_x {s : Sm} {a b c d f g h : Bool} (hs : spareP s a b c d false f g h = false) : noneP s.x = true := by
  simp [spareP, spareL] at hs
  exact hs.2.2.2.2.1
theorem spare_y {s : Sm} {a b c d e g h : Bool} (hs : spareP s a b c d e false g h = false) : noneP s.y = true := by
  simp [spareP, spareL] at hs
  exact hs.2.2.2.2.2.1
theorem spare_b {s : Sm} {a b c d e f h : Bool} (hs : spareP s a b c d e f false h = false) : s.body = [] := by
  simp [spareP, spareL] at hs
  exact hs.2.2.2.2.2.2.1
theorem spare_e {s : Sm} {a b c d e f g : Bool} (hs : spareP s a b c d e f g false = false) : s.els = [] := by
  simp [spareP, spareL] at hs
  exact hs.2.2.2.2.2.2.2
theorem lines_bad (ind : Str) (l : List (Str × Bool)) : (linesP ind l).any (·.2) = l.any (·.2) := by
  induction l with
  | nil => simp [linesP]
  | cons x l ih => simp [linesP, ih]
theorem overSL_iff (d : Int) : ∀ l : List Sm, overSL l d = l.any (overS · d)
  | [] => by simp [overSL]
  | e :: l => by simp [overSL, overSL_iff d l]
theorem arS_of : ∀ {l : List Sm}, (∀ x ∈ l, x.ar) → arS l
  | [], _ => by simp [arS]
  | e :: l, h => by
    simp only [arS]
    exact ⟨h e (by simp), arS_of fun x hx => h x (List.mem_cons_of_mem _ hx)⟩
theorem body_all {ind : Str} {l : List Sm} (h : (bodyP ind l).2 = false) : ∀ s ∈ l, (stmtP s ind).2 = false := by
  rw [bodyP, cats_bad, lines_bad, stmtsP_map, List.any_map, List.any_eq_false] at h
  intro s hs
  simpa using h s hs
theorem stmt_ar : ∀ (s : Sm) (ind : Str), (stmtP s ind).2 = false → ∀ d, overS s d = false → s.ar := by
  refine Sm.ind ?_
  intro k op t b n x y body els ih1 ih2 ind h d ho
  simp only [overS, Bool.or_eq_false_iff, overSL_iff, List.any_eq_false] at ho
  obtain ⟨⟨⟨_, hox, hoy⟩, hob⟩, hoe⟩ := ho
  have hbody : ∀ ind', (bodyP ind' body).2 = false → arS body := fun ind' hb => arS_of fun s hs => ih1 s hs _ (body_all hb s hs) (incW d) (by simpa using hob s hs)
  have hels : ∀ ind', (bodyP ind' els).2 = false → arS els := fun ind' hb => arS_of fun s hs => ih2 s hs _ (body_all hb s hs) (incW d) (by simpa using hoe s hs)
  have hnil : arS [] := by simp [arS]
  simp only [Sm.ar]
  have fx : (exprP x).2 = false → x.ar := fun h => ex_ar h hox
  have fy : (exprP y).2 = false → y.ar := fun h => ex_ar h hoy
  simp only [stmtP] at h
  have hB : ∀ (l : List Sm) (i : Str), cats (linesP i (stmtsP l i)) = bodyP i l := fun _ _ => rfl
  simp only [hB] at h
  split at h
  · simp [cat] at h
    have h0 := h.1
    have e1 := spare_b h0; have e2 := spare_e h0; have e3 := spare_y h0
    simp only [Sm.body, Sm.els, Sm.y] at e1 e2 e3
    subst e1 e2
    exact ⟨fx (by simp [h]), none_ar e3, hnil, hnil⟩
  split at h
  · simp [cat] at h
    have h0 := h.1
    have e1 := spare_b h0; have e2 := spare_e h0; have e3 := spare_y h0
    simp only [Sm.body, Sm.els, Sm.y] at e1 e2 e3
    subst e1 e2
    exact ⟨fx (by simp [h]), none_ar e3, hnil, hnil⟩
  split at h
  · simp [cat, indexP'] at h
    have h0 := h.1
    have e1 := spare_b h0; have e2 := spare_e h0
    simp only [Sm.body, Sm.els, Sm.y] at e1 e2
    subst e1 e2
    exact ⟨fx (by simp [h]), fy (by simp [h]), hnil, hnil⟩
  split at h
  · rw [cats_bad, List.any_append] at h
    simp [blockP, cat] at h
    have h0 := h.1.1
    have e3 := spare_y h0
    simp only [Sm.y] at e3
    refine ⟨fx (by simp [h]), none_ar e3, hbody _ (h.1.2.2), ?_⟩
    have h2 := h.2
    by_cases e : els = []
    · subst e
      exact hnil
    · exact hels _ (h2 e)
  split at h
  · simp [cat, blockP] at h
    have h0 := h.1
    have e2 := spare_e h0; have e3 := spare_y h0
    simp only [Sm.els, Sm.y] at e2 e3
    subst e2
    exact ⟨fx (by simp [h]), none_ar e3, hbody _ h.2.2, hnil⟩
  unfold otherP at h
  simp only [Sm.kind, Sm.op, Sm.name, Sm.x, Sm.y] at h
  split at h
  · simp [cat] at h
    have h0 := h.1
    have e1 := spare_b h0; have e2 := spare_e h0; have e3 := spare_y h0; have e4 := spare_x h0
    simp only [Sm.body, Sm.els, Sm.y, Sm.x] at e1 e2 e3 e4
    subst e1 e2
    exact ⟨none_ar e4, none_ar e3, hnil, hnil⟩
  split at h
  · simp [cat] at h
    have h0 := h.1
    have e1 := spare_b h0; have e2 := spare_e h0; have e3 := spare_y h0; have e4 := spare_x h0
    simp only [Sm.body, Sm.els, Sm.y, Sm.x] at e1 e2 e3 e4
    subst e1 e2
    exact ⟨none_ar e4, none_ar e3, hnil, hnil⟩
  split at h
  · simp [cat, indexP'] at h
    have h0 := h.1
    have e1 := spare_b h0; have e2 := spare_e h0
    simp only [Sm.body, Sm.els] at e1 e2
    subst e1 e2
    exact ⟨fx (by simp [h]), fy (by simp [h]), hnil, hnil⟩
  split at h
  · split at h
    · simp [cat, listP_bad] at h
      have h0 := h.1
      have e1 := spare_b h0; have e2 := spare_e h0
      simp only [Sm.body, Sm.els] at e1 e2
      subst e1 e2
      exact ⟨fx (by simp [h]), fy (by simp [h]), hnil, hnil⟩
    · simp [cat, listP_bad] at h
      have h0 := h.1
      have e1 := spare_b h0; have e2 := spare_e h0; have e3 := spare_y h0
      simp only [Sm.body, Sm.els, Sm.y] at e1 e2 e3
      subst e1 e2
      exact ⟨fx (by simp [h]), none_ar e3, hnil, hnil⟩
  · cases h
def validP (k : Ke) : Bool := withinP k && !(kernelP k).2
structure Ke.ar (k : Ke) : Prop where
  body : arS k.body
  funcs : ∀ f ∈ k.funcs, arS f.body ∧ f.ret.ar
theorem valid_ar {k : Ke} (h : validP k = true) : k.ar := by
  simp only [validP, withinP, Bool.and_eq_true, Bool.not_eq_true'] at h
  obtain ⟨⟨ho, _⟩, hb⟩ := h
  simp only [overK, Bool.or_eq_false_iff, overSL_iff, List.any_eq_false] at ho
  simp only [kernelP, cats_bad, textPs, endPs, List.any_cons, List.any_append, Bool.or_eq_false_iff, List.any_flatMap] at hb
  obtain ⟨_, hof, hob⟩ := ho
  have h1 : (bodyP [32, 32] k.body).2 = false := by
    have := hb.2.2.2.2.2.2.1
    simpa [blockP, cat] using this
  refine ⟨arS_of fun s hs => stmt_ar s _ (body_all h1 s hs) 1 (by simpa using hob s hs), fun f hf => ?_⟩
  have h2 := hb.2.2.2.2.2.1
  rw [List.any_eq_false] at h2
  have h3 : (functionP f).2 = false := by
    have := h2 f hf
    simp [funPs] at this
    simp [this]
  have h4 := hof f hf
  simp only [overF, Bool.or_eq_true, not_or, overSL_iff] at h4
  obtain ⟨_, h5, h6⟩ := h4
  rw [functionP, cats_bad, List.any_append, List.any_append] at h3
  simp only [List.any_cons, List.any_nil, Bool.or_eq_false_iff] at h3
  obtain ⟨_, _, h3⟩ := h3
  have h7 : (bodyP [32, 32] f.body).2 = false := by simp_all
  have h8 : (exprP f.ret).2 = false := by simp_all
  refine ⟨arS_of fun s hs => stmt_ar s _ (body_all h7 s hs) 1 ?_, expr_ar _ h8 1 (by simpa using h6)⟩
  have h9 : (f.body.any fun x => overS x 1) = false := by simpa using h5
  rw [List.any_eq_false] at h9
  simpa using h9 s hs
end Go.Proofs.YthaekebedmoipaaGreatDoor.AM

/- Contracts: types.Check. -/
set_option linter.unusedVariables false
set_option linter.unusedSimpArgs false
set_option maxRecDepth 100000
namespace Go.Proofs.YthaekebedmoipaaGreatDoor.AM
open Go Go.RowKit
variable {w0 : World} {base : Nat}

def funcsT (k : Ke) : Nat → List Fu → Int → Int
  | _, [], e => e
  | n, f :: l, e => funcsT k (n + 1) l (if e = 0 then functionT k n f else e)
theorem funcsT_ne (k : Ke) (l : List Fu) : ∀ (n : Nat) {e : Int}, e ≠ 0 → funcsT k n l e = e := by
  induction l with
  | nil => exact fun _ _ _ => rfl
  | cons f l ih => intro n e h; simp only [funcsT, if_neg h]; exact ih _ h
theorem funcsT_drop (k : Ke) (l : List Fu) (e : Int) (j : Nat) (y : Fu) (h : l[j]? = some y) : funcsT k j (l.drop j) e = funcsT k (j + 1) (l.drop (j + 1)) (if e = 0 then functionT k j y else e) := by
  obtain ⟨hlt, e⟩ := List.getElem?_eq_some_iff.1 h
  rw [List.drop_eq_getElem_cons hlt, e]
  rfl
def globE (k : Ke) : Int := if (globalsP k).2 then 0 else 30
def checkP (k : Ke) : Int := if validP k = false ∨ numbersP k = false then 1 else if funcsT k 0 k.funcs (globE k) = 0 then (listT k false k.body 0 (globalsP k).1).2 else funcsT k 0 k.funcs (globE k)
/-- A store that has grown beside what was. -/
structure Old (st s : St) : Prop where
  wf : s.wf
  next : st.next ≤ s.next
  old : ∀ p, p < st.next → s.objs p = st.objs p
theorem NewC.oldS {st s : St} {o mo : Nat} {k : Ke} {sc : Scope} {inF : Bool} (h : NewC st o mo k sc inF s) : Old st s := ⟨h.wf, h.next, h.old⟩
theorem Old.bump {st s : St} (h : Old st s) (n : Nat) : Old st (s.bump n) := ⟨wf_bump h.wf, Nat.le_trans h.next (Nat.le_add_right _ _), h.old⟩
theorem NewC.akin {st s s' : St} {o mo : Nat} {k : Ke} {sc : Scope} {inF : Bool} (h : NewC st o mo k sc inF s) (ha : Akin s s') : NewC st o mo k sc inF s' := by
  refine ⟨fun p x hx => ?_, Nat.le_trans h.next ha.le, h.ge, h.ge', ⟨by rw [ha.objs]; exact h.sees.obj, by rw [ha.objs]; exact h.sees.map⟩, fun p hp => by rw [ha.objs]; exact h.old p hp⟩
  rw [ha.objs] at hx
  exact Nat.lt_of_lt_of_le (h.wf _ _ hx) ha.le
theorem Old.akin {st s s' : St} (h : Old st s) (ha : Akin s s') : Old st s' := by
  refine ⟨fun p x hx => ?_, Nat.le_trans h.next ha.le, fun p hp => by rw [ha.objs]; exact h.old p hp⟩
  rw [ha.objs] at hx
  exact Nat.lt_of_lt_of_le (h.wf _ _ hx) ha.le
def CheckedR (st : St) (k : Ke) (v : AV) (s : St) : Prop := ∃ c, v = .tuple [c, vi (checkP k)] ∧ Old st s ∧ (checkP k = 0 → ∃ o mo, c = .ptr o 0 ∧ NewC st o mo k (globalsP k).1 false s)
theorem valid_small {k : Ke} (h : validP k = true) : k.arrays.length ≤ 8 ∧ k.params.length ≤ 8 ∧ k.funcs.length ≤ 8 ∧ ∀ f ∈ k.funcs, f.params.length ≤ 8 := by
  simp only [validP, withinP, Bool.and_eq_true, Bool.not_eq_true'] at h
  obtain ⟨⟨ho, _⟩, _⟩ := h
  simp only [overK, Bool.or_eq_false_iff, List.any_eq_false] at ho
  obtain ⟨⟨h1, h2, h3⟩, h4, _⟩ := ho
  simp at h1 h2 h3
  refine ⟨h1, h2, h3, fun f hf => ?_⟩
  have := h4 f hf
  simp [overF] at this
  exact this.1
theorem w34 (hT : Tabs w0 base) {st : St} (hwf : st.wf) (k : Ke) (hk : k.ok) (hbig : (kernelP k).1.length ≤ 140737488355328) : CallW Tryz.prog w0 base 34 [.agg k.cells] st (CheckedR st k) := by
  refine callW_fn Tryz.func34 r34 rfl ?_
  have hn0 := wf_none0 hwf
  have hn := wf_none hwf
  have hv := fun st => d45 (w0 := w0) (base := base) hT st k hk hbig
  have hnu := fun st => d62 (w0 := w0) (base := base) st k
  have bk := Ke.bare_cells k
  have kc : k.cells = [.str k.name, vi k.group, vi k.sub, .sl (rowOf Ar.cells k.arrays) k.arrays.length .no, .sl (rowOf Pa.cells k.params) k.params.length .no, .sl (rowOf Fu.cells k.funcs) k.funcs.length .no, .sl (Sm.cellsL k.body) k.body.length .no] := rfl
  have hvP : validP k = (withinP k && !(kernelP k).2) := rfl
  rw [← hvP] at hv
  have bb := Sm.bare_cellsL k.body
  unfold CheckedR
  rw [kc] at bk hv hnu ⊢
  unfold b34
  simp -dsimp -implicitDefEqProofs [hn0, hn, del_none]
  refine call_bare (hv _) (by simpa [AV.bareL, AV.bare] using bk) ?_
  cases hval : validP k
  · have hP : checkP k = 1 := by simp [checkP, hval]
    rw [hP]
    simp -dsimp -implicitDefEqProofs [hn0, hn, del_none]
    exact hold ⟨.nilp, rfl, ⟨wf_bump hwf, Nat.le_add_right _ _, fun _ _ => rfl⟩, by simp⟩
  · simp -dsimp -implicitDefEqProofs [hn0, hn, del_none]
    refine call_bare (hnu _) (by simpa [AV.bareL, AV.bare] using bk) ?_
    cases hnum : numbersP k
    · have hP : checkP k = 1 := by simp [checkP, hnum]
      rw [hP]
      simp -dsimp -implicitDefEqProofs [hn0, hn, del_none]
      exact hold ⟨.nilp, rfl, ⟨wf_bump hwf, Nat.le_add_right _ _, fun _ _ => rfl⟩, by simp⟩
    · have hP : checkP k = if funcsT k 0 k.funcs (globE k) = 0 then (listT k false k.body 0 (globalsP k).1).2 else funcsT k 0 k.funcs (globE k) := by simp [checkP, hval, hnum]
      generalize checkP k = CP at *
      simp -dsimp -implicitDefEqProofs [hn0, hn, del_none]
      have har := valid_ar hval
      obtain ⟨l1, l2, l3, l4⟩ := valid_small hval
      refine call_then (w63 (wf_bump hwf) k (by omega) (by omega) (by omega)) (by simpa [AV.bareL, AV.bare, kc] using bk) ?_
      intro v s1 hG
      obtain ⟨c, hv, hold1, hc⟩ : ∃ c, v = .tuple [c, vi (globE k)] ∧ Old st s1 ∧ (globE k = 0 → ∃ o mo, c = .ptr o 0 ∧ NewC st o mo k (globalsP k).1 false s1) := by
        rcases hG with ⟨h1, o, mo, h2, h3⟩ | ⟨h1, h2, h3, h4, h5⟩
        · have h3' : NewC st o mo k (globalsP k).1 false s1 := ⟨h3.wf, Nat.le_trans (Nat.le_add_right _ _) h3.next, Nat.le_trans (Nat.le_add_right _ _) h3.ge, Nat.le_trans (Nat.le_add_right _ _) h3.ge', h3.sees, fun p hp => h3.old p (Nat.lt_of_lt_of_le hp (Nat.le_add_right _ _))⟩
          exact ⟨_, by simpa [globE, h1] using h2, h3'.oldS, fun _ => ⟨o, mo, rfl, h3'⟩⟩
        · exact ⟨_, by simpa [globE, h1] using h2, ⟨h3, Nat.le_trans (Nat.le_add_right _ _) h4, fun p hp => h5 p (Nat.lt_of_lt_of_le hp (Nat.le_add_right _ _))⟩, by simp [globE, h1]⟩
      subst hv
      simp -dsimp -implicitDefEqProofs [hn0, hn, del_none]
      refine range_by (d := 24) (x := 23) (n := 22) (y := 31) k.funcs.length (fun j e s => ∃ g, e 5 = vi g ∧ funcsT k 0 k.funcs (globE k) = funcsT k j (k.funcs.drop j) g ∧ Akin s1 s) (by omega) (by simp) (by simp) ⟨globE k, by simp, by simp, Akin.refl _ _⟩ rfl (fun j e e' s k h he => ?_) ?_ ?_
      · obtain ⟨g, h1, h2, h3⟩ := h
        exact ⟨g, (he 5 (by decide) (by decide) (by decide)).trans h1, h2, h3.bump k⟩
      · rintro j e s hj hf hx ⟨g, e5, hg, hs⟩
        have e1 : e 1 = .iptr [.str k.name, vi k.group, vi k.sub, .sl (rowOf Ar.cells k.arrays) k.arrays.length .no, .sl (rowOf Pa.cells k.params) k.params.length .no, .sl (rowOf Fu.cells k.funcs) k.funcs.length .no, .sl (Sm.cellsL k.body) k.body.length .no] 0 := by rw [hf 1 rfl]; simp
        obtain ⟨y, hy⟩ : ∃ y, k.funcs[j]? = some y := ⟨_, List.getElem?_eq_getElem hj⟩
        have hmem := List.mem_of_getElem? hy
        have hd := funcsT_drop k k.funcs g j y hy
        have hc64 := fun (s : St) => d64 (w0 := w0) (base := base) (st := s) k (by omega) (by omega) j y hy (by have := l4 y hmem; omega) (har.funcs y hmem).1 (har.funcs y hmem).2
        simp -dsimp -implicitDefEqProofs [e1, e5, hx]
        refine Br_iff (fun hb => ?_) (fun hb => ?_)
        · have hg0 : g = 0 := by simpa using hb
          subst hg0
          simp -dsimp -implicitDefEqProofs [e1, e5, hx]
          refine call_bare (hc64 _) (by simpa [AV.bareL, AV.bare, kc] using bk) ?_
          simp -dsimp -implicitDefEqProofs
          exact hold ⟨functionT k j y, by simp, by rw [hg, hd]; simp, hs.bump _⟩
        · have hg0 : g ≠ 0 := by simpa using hb
          simp -dsimp -implicitDefEqProofs [e1, e5, hx]
          exact hold ⟨g, by simp [e5], by rw [hg, hd, if_neg hg0], (hs.bump _).bump _⟩
      · rintro e s hf ⟨g, e5, hg, hs⟩
        have e1 : e 1 = .iptr [.str k.name, vi k.group, vi k.sub, .sl (rowOf Ar.cells k.arrays) k.arrays.length .no, .sl (rowOf Pa.cells k.params) k.params.length .no, .sl (rowOf Fu.cells k.funcs) k.funcs.length .no, .sl (Sm.cellsL k.body) k.body.length .no] 0 := by rw [hf 1 rfl]; simp
        have e4 : e 4 = c := by rw [hf 4 rfl]; simp
        have hg' : funcsT k 0 k.funcs (globE k) = g := by rw [hg]; simp [funcsT]
        rw [hg'] at hP
        by_cases hg0 : g = 0
        · subst hg0
          rw [if_pos rfl] at hP
          have he0 : globE k = 0 := by
            apply Classical.byContradiction
            intro hne
            rw [funcsT_ne k _ _ hne] at hg'
            exact hne hg'
          obtain ⟨o, mo, rfl, hNC⟩ := hc he0
          have hNC' := hNC.akin hs
          have hsc := fun s (h : Sees s o mo k (globalsP k).1 false 0) => scope_of (w0 := w0) (base := base) (lists_of har.body) s o mo (globalsP k).1 0 (InR_globals k) (by decide) h
          rw [← hP] at hsc
          simp -dsimp -implicitDefEqProofs [e1, e4, e5]
          refine call_bare (hsc _ (hNC'.sees.bump _)) (by simp [AV.bareL, AV.bare, bb]) ?_
          simp -dsimp -implicitDefEqProofs [e1, e4, e5]
          exact hold ⟨_, rfl, (hold1.akin hs).bump _, fun _ => ⟨o, mo, rfl, hNC'.bump _⟩⟩
        · have hb : (g == 0) = false := by simpa using hg0
          rw [if_neg hg0] at hP
          subst hP
          simp -dsimp -implicitDefEqProofs [e1, e4, e5, hb]
          exact hold ⟨c, rfl, (hold1.akin hs).bump _, fun h => absurd h hg0⟩
theorem d14 (hT : Tabs w0 base) (st : St) (k : Ke) (hk : k.ok) (hbig : (kernelP k).1.length ≤ 140737488355328) : Det Tryz.prog w0 base 14 [.agg k.cells] st (vi (checkP k)) st := by
  refine det_self (enters_fn Tryz.func14 r14) fun hwf hfit => det_fn Tryz.func14 r14 rfl ?_
  clear hfit
  have hn0 := wf_none0 hwf
  have hn := wf_none hwf
  have hc := fun {st : St} (hwf : st.wf) => w34 (w0 := w0) (base := base) hT hwf k hk hbig
  have bk := Ke.bare_cells k
  have kc : k.cells = [.str k.name, vi k.group, vi k.sub, .sl (rowOf Ar.cells k.arrays) k.arrays.length .no, .sl (rowOf Pa.cells k.params) k.params.length .no, .sl (rowOf Fu.cells k.funcs) k.funcs.length .no, .sl (Sm.cellsL k.body) k.body.length .no] := rfl
  rw [kc] at bk ⊢
  simp only [kc] at hc
  unfold b14
  simp -dsimp -implicitDefEqProofs [hn0, hn, del_none]
  refine call_then (hc (wf_bump hwf)) (by simpa [AV.bareL, AV.bare] using bk) ?_
  rintro v s ⟨c, rfl, ho, _⟩
  simp -dsimp -implicitDefEqProofs [hn0, hn, del_none]
  refine fin_pure hwf (fun p hp => ?_) (by simp [eraseA])
  exact ho.old p (Nat.lt_of_lt_of_le hp (Nat.le_add_right _ _))
end Go.Proofs.YthaekebedmoipaaGreatDoor.AM

/- Contracts: types.TypeOf. -/
set_option linter.unusedVariables false
set_option linter.unusedSimpArgs false
set_option maxRecDepth 100000
namespace Go.Proofs.YthaekebedmoipaaGreatDoor.AM
open Go Go.RowKit
variable {w0 : World} {base : Nat}

def updS (n : Str) (t : Thing) : Scope → Scope
  | [] => [(n, t)]
  | x :: l => if n = x.1 then (n, t) :: l else x :: updS n t l
theorem find_upd (n : Str) (t : Thing) (sc : Scope) : (sc.lookup n = none ∧ findA .str (.str n) sc.enc 0 = some none ∧ (updS n t sc).enc = sc.enc ++ [(.str n, .agg t.cells)]) ∨
    ∃ i u, sc.lookup n = some u ∧ findA .str (.str n) sc.enc 0 = some (some (i, .agg u.cells)) ∧ (updS n t sc).enc = sc.enc.set i (.str n, .agg t.cells) := by
  have : ∀ (sc : Scope) (m : Nat), (sc.lookup n = none ∧ findA .str (.str n) sc.enc m = some none ∧ (updS n t sc).enc = sc.enc ++ [(.str n, .agg t.cells)]) ∨
      ∃ i u, sc.lookup n = some u ∧ findA .str (.str n) sc.enc m = some (some (m + i, .agg u.cells)) ∧ (updS n t sc).enc = sc.enc.set i (.str n, .agg t.cells) := by
    intro sc
    induction sc with
    | nil => intro m; left; simp [Scope.enc, findA, updS]
    | cons x sc ih =>
      intro m
      by_cases e : n = x.1
      · right; exact ⟨0, x.2, by simp [List.lookup, e], by simp [Scope.enc, findA, leafEq, e], by simp [Scope.enc, updS, e]⟩
      · have he : (n == x.1) = false := by simpa using e
        rcases ih (m + 1) with ⟨h1, h2, h3⟩ | ⟨i, u, h1, h2, h3⟩
        · left
          simp only [Scope.enc] at h2 h3
          refine ⟨by simp [List.lookup, he, h1], by simp [Scope.enc, findA, leafEq, he, h2], by simp [Scope.enc, updS, e, h3]⟩
        · right
          simp only [Scope.enc] at h2 h3
          refine ⟨i + 1, u, by simp [List.lookup, he, h1], ?_, by simp [Scope.enc, updS, e, h3]⟩
          simp [Scope.enc, findA, leafEq, he, h2]; omega
  rcases this sc 0 with h | ⟨i, u, h1, h2, h3⟩
  · exact .inl h
  · exact .inr ⟨i, u, h1, by simpa using h2, h3⟩
def ownE (l : List Str) : List (AV × AV) := l.map fun n => (.str n, .bool true)
def ownU (n : Str) (l : List Str) : List Str := if n ∈ l then l else l ++ [n]
theorem find_own (n : Str) (l : List Str) : (n ∉ l ∧ findA .str (.str n) (ownE l) 0 = some none ∧ ownE (ownU n l) = ownE l ++ [(.str n, .bool true)]) ∨
    ∃ i, n ∈ l ∧ findA .str (.str n) (ownE l) 0 = some (some (i, .bool true)) ∧ ownE (ownU n l) = (ownE l).set i (.str n, .bool true) := by
  have : ∀ (l : List Str) (m : Nat), (n ∉ l ∧ findA .str (.str n) (ownE l) m = some none) ∨ ∃ i, n ∈ l ∧ findA .str (.str n) (ownE l) m = some (some (m + i, .bool true)) ∧ ownE l = (ownE l).set i (.str n, .bool true) := by
    intro l
    induction l with
    | nil => intro m; left; simp [ownE, findA]
    | cons x l ih =>
      intro m
      by_cases e : n = x
      · right; exact ⟨0, by simp [e], by simp [ownE, findA, leafEq, e], by simp [ownE, e]⟩
      · have he : (n == x) = false := by simpa using e
        rcases ih (m + 1) with ⟨h1, h2⟩ | ⟨i, h1, h2, h3⟩
        · left
          simp only [ownE] at h2
          exact ⟨by simp [e, h1], by simp [ownE, findA, leafEq, he, h2]⟩
        · right
          simp only [ownE] at h2 h3
          refine ⟨i + 1, by simp [h1], ?_, by simp [ownE, ← h3]⟩
          simp [ownE, findA, leafEq, he, h2]; omega
  rcases this l 0 with ⟨h1, h2⟩ | ⟨i, h1, h2, h3⟩
  · exact .inl ⟨h1, h2, by simp [ownU, h1, ownE]⟩
  · exact .inr ⟨i, h1, by simpa using h2, by rw [ownU, if_pos h1]; exact h3⟩
def freeP (sc : Scope) (n : Str) : Bool := match sc.lookup n with | none => true | some t => t.kind == 2
def varsT : List Pa → List Str → Scope → Scope
  | [], _, sc => sc
  | v :: l, own, sc => varsT l (ownU v.name own) (if v.name ∉ own ∧ freeP sc v.name = true then updS v.name ⟨3, v.typ, 0⟩ sc else sc)
def Ex.zero : Ex := .mk 0 0 0 [] 0 []
def ifK (k : Ke) (e : Ex) : Ke := { k with body := [.mk 5 0 0 0 [] e Ex.zero [] []] }
def typeOfP (k : Ke) (vars : List Pa) (e : Ex) : Int × Int :=
  if checkP k ≠ 0 then (0, checkP k) else if validP (ifK k e) = false then (0, 1) else exprT k (varsT vars [] (globalsP k).1) e
theorem updS_lookup (n m : Str) (t : Thing) (sc : Scope) : (updS n t sc).lookup m = if m = n then some t else sc.lookup m := by
  induction sc with
  | nil =>
    by_cases h : m = n
    · simp [updS, h]
    · have : (m == n) = false := by simpa using h
      simp [updS, List.lookup, h, this]
  | cons x sc ih =>
    simp only [updS]
    split
    · rename_i e
      by_cases h : m = n
      · simp [List.lookup, h]
      · have h1 : (m == n) = false := by simpa using h
        have h2 : (m == x.1) = false := by simpa [← e] using h
        simp [List.lookup, h, h1, h2]
    · rename_i e
      by_cases h : m = n
      · have h2 : (n == x.1) = false := by simpa using e
        subst h
        simp [List.lookup, h2, ih]
      · simp [List.lookup, ih, h]
theorem InR_upd {k : Ke} {sc : Scope} (h : InR k sc) (n : Str) (t : Int) : InR k (updS n ⟨3, t, 0⟩ sc) := by
  intro m u hu
  rw [updS_lookup] at hu
  split at hu
  · cases hu; simp
  · exact h m u hu
theorem InR_vars {k : Ke} : ∀ (l : List Pa) (own : List Str) (sc : Scope), InR k sc → InR k (varsT l own sc)
  | [], _, _, h => h
  | v :: l, own, sc, h => by
    simp only [varsT]
    refine InR_vars l _ _ ?_
    split
    · exact InR_upd h _ _
    · exact h
theorem NewC.other {st s : St} {o mo : Nat} {k : Ke} {sc : Scope} {inF : Bool} (h : NewC st o mo k sc inF s) {q : Nat} (x : AObj) (h1 : st.next ≤ q) (h2 : o ≠ q) (h3 : mo ≠ q) (h4 : q < s.next) : NewC st o mo k sc inF (s.put q x) := by
  refine ⟨wf_put h.wf h4, h.next, h.ge, h.ge', ⟨by rw [put_objs, if_neg h2]; exact h.sees.obj, by rw [put_objs, if_neg h3]; exact h.sees.map⟩, fun p hp => ?_⟩
  rw [put_objs, if_neg (by omega)]
  exact h.old p hp
theorem varsT_drop (l : List Pa) (own : List Str) (sc : Scope) (j : Nat) (y : Pa) (h : l[j]? = some y) : varsT (l.drop j) own sc = varsT (l.drop (j + 1)) (ownU y.name own) (if y.name ∉ own ∧ freeP sc y.name = true then updS y.name ⟨3, y.typ, 0⟩ sc else sc) := by
  obtain ⟨hlt, e⟩ := List.getElem?_eq_some_iff.1 h
  rw [List.drop_eq_getElem_cons hlt, e]
  rfl
theorem del_put_ne {s : St} {o o' : Nat} {x : AObj} (h : o' ≠ o) : (s.put o x).del o' = (s.del o').put o x := by
  simp only [St.del, St.put, St.mk.injEq, and_true]
  funext j
  simp only [upd]
  by_cases h1 : j = o'
  · by_cases h2 : j = o
    · exact absurd (h1.symm.trans h2) h
    · simp [h1, h]
  · by_cases h2 : j = o
    · simp [h1, h2, Ne.symm h]
    · simp [h1, h2]
theorem d17 (hT : Tabs w0 base) (st : St) (k : Ke) (vars : List Pa) (e : Ex) (hk : k.ok) (hbig : (kernelP k).1.length ≤ 140737488355328) (he : e.ok) (hbig2 : (kernelP (ifK k e)).1.length ≤ 140737488355328) :
    Det Tryz.prog w0 base 17 [.agg k.cells, .sl (rowOf Pa.cells vars) vars.length .no, .agg e.cells] st (tup (typeOfP k vars e)) st := by
  refine det_self (enters_fn Tryz.func17 r17) fun hwf hfit => det_fn Tryz.func17 r17 rfl ?_
  have hlen : vars.length ≤ big := hfit.2.1.1
  unfold big at hlen
  clear hfit
  have hn0 := wf_none0 hwf
  have hn := wf_none hwf
  have hk2 : (ifK k e).ok := ⟨hk.group, hk.sub, hk.arrays, hk.funcs, by simp [ifK, Sm.okL, Sm.ok, he, Ex.zero, Ex.ok, Ex.okL]⟩
  have hc := fun {st : St} (hwf : st.wf) => w34 (w0 := w0) (base := base) hT hwf k hk hbig
  have hv := fun st => d45 (w0 := w0) (base := base) hT st (ifK k e) hk2 hbig2
  have hvP : validP (ifK k e) = (withinP (ifK k e) && !(kernelP (ifK k e)).2) := rfl
  rw [← hvP] at hv
  have bk := Ke.bare_cells k
  have bk2 := Ke.bare_cells (ifK k e)
  have be := Ex.bare_cells e
  have har : validP (ifK k e) = true → e.ar := fun h => by
    have := (valid_ar h).body
    simp only [ifK, arS, Sm.ar] at this
    exact this.1.1
  have hce := fun (s : St) (o mo : Nat) (sc : Scope) (hin : InR k sc) (hv : validP (ifK k e) = true) (h : Sees s o mo k sc false 0) => d46 (w0 := w0) (base := base) hin e (har hv) s h
  have kc : k.cells = [.str k.name, vi k.group, vi k.sub, .sl (rowOf Ar.cells k.arrays) k.arrays.length .no, .sl (rowOf Pa.cells k.params) k.params.length .no, .sl (rowOf Fu.cells k.funcs) k.funcs.length .no, .sl (Sm.cellsL k.body) k.body.length .no] := rfl
  have kc2 : (ifK k e).cells = [.str k.name, vi k.group, vi k.sub, .sl (rowOf Ar.cells k.arrays) k.arrays.length .no, .sl (rowOf Pa.cells k.params) k.params.length .no, .sl (rowOf Fu.cells k.funcs) k.funcs.length .no, .sl (Sm.cellsL [.mk 5 0 0 0 [] e Ex.zero [] []]) 1 .no] := rfl
  have hrow := fun j x => @rowOf_at _ Pa.cells 2 Pa.cells_len vars j x
  have hle := fun j x => @rowOf_le _ Pa.cells 2 Pa.cells_len vars j x
  generalize hG : typeOfP k vars e = G
  unfold typeOfP at hG
  generalize validP (ifK k e) = V at *
  obtain ⟨ek, eo, et, en, ev, ea⟩ := e
  simp only [Sm.cellsL, Sm.cells, Ex.cells, Ex.zero, Ex.cellsL, List.cons_append, List.nil_append, List.length_nil] at kc2 be hce
  rw [kc] at bk ⊢
  simp only [kc] at hc
  rw [kc2] at bk2 hv
  simp only [Ex.cells]
  generalize rowOf Pa.cells vars = cv at *
  unfold b17
  simp -dsimp -implicitDefEqProofs [hn0, hn, del_none, del_put_ne, old_ne, old_ne0, new_ne, new_ne0]
  refine call_then (hc (wf_bump hwf)) (by simpa [AV.bareL, AV.bare] using bk) ?_
  rintro v s ⟨c, rfl, ho, hok⟩
  have hOs : ∀ p, p < st.next → s.objs p = st.objs p := fun p hp => ho.old p (Nat.lt_of_lt_of_le hp (Nat.le_add_right _ _))
  have q0 := wf_none0 ho.wf
  have q := wf_none ho.wf
  simp -dsimp -implicitDefEqProofs
  refine Br_iff (fun hb => ?_) (fun hb => ?_)
  · have hc0 : checkP k ≠ 0 := by simpa using hb
    simp -dsimp -implicitDefEqProofs
    refine fin_pure hwf (fun p hp => by simp [hOs p hp]) ?_
    rw [← hG, if_pos hc0]
    simp [eraseA, eraseL, tup]
  · have hc0 : checkP k = 0 := by simpa using hb
    obtain ⟨o, mo, rfl, hN⟩ := hok hc0
    rw [if_neg (by simp [hc0])] at hG
    clear hok hb
    simp -dsimp -implicitDefEqProofs [q0, q, del_none]
    refine call_bare (hv _) (by simpa [AV.bareL, AV.bare] using bk2) ?_
    cases V
    · simp -dsimp -implicitDefEqProofs
      refine fin_pure hwf (fun p hp => by simp [hOs p hp]) ?_
      rw [← hG]
      simp [eraseA, eraseL, tup]
    · simp -dsimp -implicitDefEqProofs
      have lo := hN.wf _ _ hN.sees.obj
      have lm := hN.wf _ _ hN.sees.map
      have hne := hN.sees.ne
      have hsn := ho.next
      simp only [bump_next] at hsn
      refine range_by (d := 36) (x := 35) (n := 34) (y := 75) vars.length (fun j e s' => ∃ own sc, NewC (st.bump 11) o mo k sc false s' ∧ s'.objs (s.next + 13) = some (.map (ownE own)) ∧ s.next + 13 < s'.next ∧ varsT vars [] (globalsP k).1 = varsT (vars.drop j) own sc ∧ InR k sc) hlen (by simp) (by simp) ⟨[], (globalsP k).1, (hN.bump 18).other _ (by simp; omega) (by omega) (by omega) (by simp), by simp [ownE], by simp, by simp, InR_globals k⟩ rfl (fun j e e' s' n h he => ?_) ?_ ?_
      · obtain ⟨own, sc, h1, h2, h3, h4, h5⟩ := h
        exact ⟨own, sc, h1.bump n, h2, Nat.lt_of_lt_of_le h3 (Nat.le_add_right _ _), h4, h5⟩
      · rintro j e s' hj hf hx ⟨own, sc, hI, hq, hlq, hvar, hin⟩
        have e33 : e 33 = .sl cv vars.length .no := by rw [hf 33 rfl]; simp
        have e8 : e 8 = .ptr o 0 := by rw [hf 8 rfl]; simp
        have e11 : e 11 = .map (s.next + 13) := by rw [hf 11 rfl]; simp
        obtain ⟨y, hy⟩ : ∃ y, vars[j]? = some y := ⟨_, List.getElem?_eq_getElem hj⟩
        have hr := hrow j y hy
        have hl := hle j y hy
        have q0 := wf_none0 hI.wf
        have q := wf_none hI.wf
        have ho1 := hI.sees.row
        have hm1 := hI.sees.map
        have n1 : ¬ s.next + 13 = o := by omega
        have n2 : ¬ s.next + 13 = mo := by omega
        have n3 : ¬ o = s.next + 13 := by omega
        have n4 : ¬ mo = s.next + 13 := by omega
        have n5 : ∀ i, ¬ s'.next + i = o := by intro i; have := hI.wf _ _ hI.sees.obj; omega
        have n6 : ∀ i, ¬ s'.next + i = mo := by intro i; have := hI.wf _ _ hI.sees.map; omega
        have hvs := varsT_drop vars own sc j y hy
        rw [hvs] at hvar
        obtain ⟨yn, yt⟩ := y
        simp only [Pa.cells] at hr
        simp only at hvar
        have fo := find_own yn own
        have fs := find_upd yn ⟨3, yt, 0⟩ sc
        have fin : ∀ n, NewC (st.bump 11) o mo k sc false ((s'.bump n).put (s.next + 13) (.map (ownE (ownU yn own)))) := fun n => (hI.bump n).other _ (by simp; omega) n3 n4 (by simp; omega)
        have fin2 : ∀ n, NewC (st.bump 11) o mo k (updS yn ⟨3, yt, 0⟩ sc) false (((s'.bump n).put mo (.map (updS yn ⟨3, yt, 0⟩ sc).enc)).put (s.next + 13) (.map (ownE (ownU yn own)))) := fun n => ((hI.bump n).put _).other _ (by simp; omega) n3 n4 (by simp; omega)
        have hin2 := InR_upd hin yn yt
        rcases fo with ⟨o1, o2, o3⟩ | ⟨i, o1, o2, o3⟩
        · rw [o3] at fin fin2
          rcases fs with ⟨f1, f2, f3⟩ | ⟨i2, u, f1, f2, f3⟩
          · have hfree : freeP sc yn = true := by simp [freeP, f1]
            rw [if_pos ⟨o1, hfree⟩] at hvar
            rw [f3] at fin2
            simp -dsimp -implicitDefEqProofs [e33, e8, e11, hx, hj, hr, hl, q0, q, del_none, ho1, hm1, hq, o2, f2, n1, n2, n3, n4, n5, n6]
            exact hold ⟨ownU yn own, _, fin2 45, by simp [o3], by simp; omega, hvar, hin2⟩
          · obtain ⟨uk, ut, ua⟩ := u
            simp only [Thing.cells] at f2 f3
            have hfree : freeP sc yn = (uk == 2) := by simp [freeP, f1]
            rw [hfree] at hvar
            rw [f3] at fin2
            simp -dsimp -implicitDefEqProofs [e33, e8, e11, hx, hj, hr, hl, q0, q, del_none, ho1, hm1, hq, o2, f2, n1, n2, n3, n4, n5, n6]
            refine Br_iff (fun hb => ?_) (fun hb => ?_)
            · rw [if_pos ⟨o1, hb⟩] at hvar
              simp -dsimp -implicitDefEqProofs [e33, e8, e11, hx, hj, hr, hl, q0, q, del_none, ho1, hm1, hq, o2, f2, n1, n2, n3, n4, n5, n6]
              exact hold ⟨ownU yn own, _, fin2 45, by simp [o3], by simp; omega, hvar, hin2⟩
            · rw [if_neg (by simp [hb])] at hvar
              simp -dsimp -implicitDefEqProofs [e33, e8, e11, hx, hj, hr, hl, q0, q, del_none, ho1, hm1, hq, o2, f2, n1, n2, n3, n4, n5, n6]
              exact hold ⟨ownU yn own, _, fin _, by simp [o3], by simp; omega, hvar, hin⟩
        · rw [o3] at fin fin2
          rw [if_neg (fun h => h.1 o1)] at hvar
          rcases fs with ⟨f1, f2, f3⟩ | ⟨i2, ⟨uk, ut, ua⟩, f1, f2, f3⟩
          · simp -dsimp -implicitDefEqProofs [e33, e8, e11, hx, hj, hr, hl, q0, q, del_none, ho1, hm1, hq, o2, f2, n1, n2, n3, n4, n5, n6]
            exact hold ⟨ownU yn own, _, fin _, by simp [o3], by simp; omega, hvar, hin⟩
          · simp only [Thing.cells] at f2 f3
            simp -dsimp -implicitDefEqProofs [e33, e8, e11, hx, hj, hr, hl, q0, q, del_none, ho1, hm1, hq, o2, f2, n1, n2, n3, n4, n5, n6]
            exact hold ⟨ownU yn own, _, fin _, by simp [o3], by simp; omega, hvar, hin⟩
      · rintro e s' hf ⟨own, sc, hI, hq, hlq, hvar, hin⟩
        have e8 : e 8 = .ptr o 0 := by rw [hf 8 rfl]; simp
        have e5 : e 5 = .iptr [vi ek, vi eo, vi et, .str en, .int .i32 ev, .sl (Ex.cellsL ea) ea.length .no] 0 := by rw [hf 5 rfl]; simp
        rw [show varsT vars [] (globalsP k).1 = sc by rw [hvar]; simp [varsT]] at hG
        simp -dsimp -implicitDefEqProofs [e8, e5]
        refine call_bare (hce _ _ _ sc hin rfl (hI.sees.bump _)) (by simpa [AV.bareL, AV.bare] using be) ?_
        simp -dsimp -implicitDefEqProofs [tup]
        refine fin_pure hwf (fun p hp => ?_) ?_
        · simpa using hI.old p (Nat.lt_of_lt_of_le hp (Nat.le_add_right _ _))
        · rw [← hG]
          simp [eraseA, eraseL, tup]
end Go.Proofs.YthaekebedmoipaaGreatDoor.AM

/- Contracts: what the laws are made of. -/
set_option linter.unusedVariables false
set_option linter.unusedSimpArgs false
set_option maxRecDepth 100000
namespace Go.Proofs.YthaekebedmoipaaGreatDoor.AM
open Go Go.RowKit
variable {w0 : World} {base : Nat}

def numE (n : Int) : Ex := .mk 1 0 1 [] n []
def nameE (s : Str) : Ex := .mk 2 0 0 s 0 []
def smallK (body : List Sm) : Ke := ⟨[107], 4, 2, [⟨[97], 1, 1, 8⟩], [], [], body⟩
def numAV (n : Int) : AV := .agg [vi 1, vi 0, vi 1, .str [], .int .i32 n, .sl [] 0 .full]
def nameAV (s : Str) : AV := .agg [vi 2, vi 0, vi 0, .str s, .int .i32 0, .sl [] 0 .full]
def smallAV (b : AV) : AV := .agg [.str [107], vi 4, vi 2, .sl [.str [97], vi 1, vi 1, vi 8] 1 .full, .sl [] 0 .full, .sl [] 0 .full, b]
theorem d19 (st : St) (n : Int) : Det Tryz.prog w0 base 19 [.int .i32 n] st (numAV n) st := by
  refine det_self (enters_fn Tryz.func19 r19) fun hwf hfit => det_fn Tryz.func19 r19 rfl ?_
  have hn0 := wf_none0 hwf
  have hn := wf_none hwf
  unfold b19
  simp -dsimp -implicitDefEqProofs [hn0, hn, del_none]
  refine fin_pure hwf (fun p hp => by simp [hp, old_ne, old_ne0]) (by simp [eraseA, eraseL, numAV])
theorem d25 (st : St) (s : Str) : Det Tryz.prog w0 base 25 [.str s] st (nameAV s) st := by
  refine det_self (enters_fn Tryz.func25 r25) fun hwf hfit => det_fn Tryz.func25 r25 rfl ?_
  have hn0 := wf_none0 hwf
  have hn := wf_none hwf
  unfold b25
  simp -dsimp -implicitDefEqProofs [hn0, hn, del_none]
  refine fin_pure hwf (fun p hp => by simp [hp, old_ne, old_ne0]) (by simp [eraseA, eraseL, nameAV])
theorem d22 (st : St) (cs : List AV) (n : Nat) (h : ∀ m, eraseL m cs = some cs) (p : Perm) (hp : p = .no ∨ p = .full) : Det Tryz.prog w0 base 22 [.sl cs n p] st (smallAV (.sl cs n p)) st := by
  refine det_self (enters_fn Tryz.func22 r22) fun hwf hfit => det_fn Tryz.func22 r22 rfl ?_
  have hn0 := wf_none0 hwf
  have hn := wf_none hwf
  unfold b22
  simp -dsimp -implicitDefEqProofs [hn0, hn, del_none]
  refine fin_pure hwf (fun p hp => by simp [hp, old_ne, old_ne0]) ?_
  rcases hp with rfl | rfl <;> simp [eraseA, eraseL, smallAV, h]

def exX : Sm := .mk 1 0 1 0 [120] (.mk 3 2 0 [] 0 []) Ex.zero [] []
def exSum : Ex := .mk 5 10 0 [] 0 [nameE [120], numE 1]
def exStore : Sm := .mk 3 0 0 0 [97] (nameE [120]) exSum [] []
def exHalf : Sm := .mk 3 0 0 0 [97] (nameE [120]) (.mk 1 0 2 [] 98304 []) [] []
def exOther : Sm := .mk 3 0 0 0 [97] (nameE [121]) exSum [] []
def exLess : Ex := .mk 5 26 0 [] 0 [nameE [120], numE 2]
def exY : Sm := .mk 1 0 1 0 [121] (numE 1) Ex.zero [] []
def exInner : List Sm := [exX, .mk 5 0 0 0 [] exLess Ex.zero [exY] [], .mk 3 0 0 0 [97] (numE 0) (nameE [121]) [] []]
def exWide : Ke := { smallK [exX] with sub := 3 }
theorem exp1 : checkP (smallK [exX, exStore]) = 0 := by decide +kernel
theorem exp2 : checkP (smallK [exX, exHalf]) = 31 := by decide +kernel
theorem exp3 : checkP (smallK [exX, exOther]) = 30 := by decide +kernel
theorem exp4 : checkP (smallK exInner) = 30 := by decide +kernel
theorem exp5 : checkP (smallK [.mk 7 0 0 0 [] Ex.zero Ex.zero [] []]) = 31 := by decide +kernel
theorem exp6 : checkP exWide = 1 := by decide +kernel
theorem exp7 : typeOfP (smallK [exX]) [⟨[120], 1⟩] exLess = (3, 0) := by decide +kernel
theorem kl1 : (kernelP (smallK [exX, exStore])).1.length ≤ 140737488355328 := by decide +kernel
end Go.Proofs.YthaekebedmoipaaGreatDoor.AM

/- Contracts: the law's examples. -/
set_option linter.unusedVariables false
set_option linter.unusedSimpArgs false
set_option maxRecDepth 100000
namespace Go.Proofs.YthaekebedmoipaaGreatDoor.AM
open Go Go.RowKit
variable {w0 : World} {base : Nat}

theorem kl2 : (kernelP (smallK [exX, exHalf])).1.length ≤ 140737488355328 := by decide +kernel
theorem kl3 : (kernelP (smallK [exX, exOther])).1.length ≤ 140737488355328 := by decide +kernel
theorem kl4 : (kernelP (smallK exInner)).1.length ≤ 140737488355328 := by decide +kernel
theorem kl5 : (kernelP (smallK [.mk 7 0 0 0 [] Ex.zero Ex.zero [] []])).1.length ≤ 140737488355328 := by decide +kernel
theorem kl6 : (kernelP exWide).1.length ≤ 140737488355328 := by decide +kernel
theorem kl7 : (kernelP (smallK [exX])).1.length ≤ 140737488355328 := by decide +kernel
theorem kl8 : (kernelP (ifK (smallK [exX]) exLess)).1.length ≤ 140737488355328 := by decide +kernel
theorem okSmall {body : List Sm} (h : Sm.okL body) : (smallK body).ok := ⟨by simp [smallK, i64ok], by simp [smallK, i64ok], by simp [smallK, i64ok], by simp [smallK], h⟩
theorem okWide : exWide.ok := ⟨by simp [exWide, smallK, i64ok], by simp [exWide, i64ok], by simp [exWide, smallK, i64ok], by simp [exWide, smallK], by simp [exWide, smallK, exX, Sm.okL, Sm.ok, Ex.ok, Ex.okL, Ex.zero]⟩
theorem c17x (hT : Tabs w0 base) (st : St) : Det Tryz.prog w0 base 17 [.agg (smallK [exX]).cells, .sl (rowOf Pa.cells [⟨[120], 1⟩]) 1 .no, .agg exLess.cells] st (.tuple [vi 3, vi 0]) st := by
  have := d17 hT st (smallK [exX]) [⟨[120], 1⟩] exLess (okSmall (by simp [exX, Sm.okL, Sm.ok, Ex.ok, Ex.okL, Ex.zero])) kl7 (by simp [exLess, nameE, numE, Ex.ok, Ex.okL]) kl8
  rw [exp7] at this
  exact this
theorem c14x1 (hT : Tabs w0 base) (st : St) : Det Tryz.prog w0 base 14 [.agg (smallK [exX, exStore]).cells] st (vi 0) st := by
  have := d14 hT st (smallK [exX, exStore]) (okSmall (by simp [exX, exStore, exHalf, exOther, exInner, exSum, exLess, exY, nameE, numE, Sm.okL, Sm.ok, Ex.ok, Ex.okL, Ex.zero])) kl1
  rw [exp1] at this
  exact this
theorem c14x2 (hT : Tabs w0 base) (st : St) : Det Tryz.prog w0 base 14 [.agg (smallK [exX, exHalf]).cells] st (vi 31) st := by
  have := d14 hT st (smallK [exX, exHalf]) (okSmall (by simp [exX, exStore, exHalf, exOther, exInner, exSum, exLess, exY, nameE, numE, Sm.okL, Sm.ok, Ex.ok, Ex.okL, Ex.zero])) kl2
  rw [exp2] at this
  exact this
theorem c14x3 (hT : Tabs w0 base) (st : St) : Det Tryz.prog w0 base 14 [.agg (smallK [exX, exOther]).cells] st (vi 30) st := by
  have := d14 hT st (smallK [exX, exOther]) (okSmall (by simp [exX, exStore, exHalf, exOther, exInner, exSum, exLess, exY, nameE, numE, Sm.okL, Sm.ok, Ex.ok, Ex.okL, Ex.zero])) kl3
  rw [exp3] at this
  exact this
theorem c14x4 (hT : Tabs w0 base) (st : St) : Det Tryz.prog w0 base 14 [.agg (smallK exInner).cells] st (vi 30) st := by
  have := d14 hT st (smallK exInner) (okSmall (by simp [exX, exStore, exHalf, exOther, exInner, exSum, exLess, exY, nameE, numE, Sm.okL, Sm.ok, Ex.ok, Ex.okL, Ex.zero])) kl4
  rw [exp4] at this
  exact this
theorem c14x5 (hT : Tabs w0 base) (st : St) : Det Tryz.prog w0 base 14 [.agg (smallK [.mk 7 0 0 0 [] Ex.zero Ex.zero [] []]).cells] st (vi 31) st := by
  have := d14 hT st (smallK [.mk 7 0 0 0 [] Ex.zero Ex.zero [] []]) (okSmall (by simp [exX, exStore, exHalf, exOther, exInner, exSum, exLess, exY, nameE, numE, Sm.okL, Sm.ok, Ex.ok, Ex.okL, Ex.zero])) kl5
  rw [exp5] at this
  exact this
theorem c14x6 (hT : Tabs w0 base) (st : St) : Det Tryz.prog w0 base 14 [.agg exWide.cells] st (vi 1) st := by
  have := d14 hT st exWide okWide kl6
  rw [exp6] at this
  exact this
theorem d11 (hT : Tabs w0 base) (st : St) : Det Tryz.prog w0 base 11 [] st (.bool true) st := by
  refine det_self (enters_fn Tryz.func11 r11) fun hwf hfit => det_fn Tryz.func11 r11 rfl ?_
  have hn0 := wf_none0 hwf
  have hn := wf_none hwf
  unfold b11
  simp -dsimp -implicitDefEqProofs [hn0, hn, del_none, numAV, nameAV, smallAV]
  refine call_of (d25 _ _) ?_
  simp -dsimp -implicitDefEqProofs [hn0, hn, del_none, numAV, nameAV, smallAV]
  refine call_of (d19 _ _) ?_
  simp -dsimp -implicitDefEqProofs [hn0, hn, del_none, numAV, nameAV, smallAV]
  refine call_of (d25 _ _) ?_
  simp -dsimp -implicitDefEqProofs [hn0, hn, del_none, numAV, nameAV, smallAV]
  refine call_of (d25 _ _) ?_
  simp -dsimp -implicitDefEqProofs [hn0, hn, del_none, numAV, nameAV, smallAV]
  refine call_of (d25 _ _) ?_
  simp -dsimp -implicitDefEqProofs [hn0, hn, del_none, numAV, nameAV, smallAV]
  refine call_of (d19 _ _) ?_
  simp -dsimp -implicitDefEqProofs [hn0, hn, del_none, numAV, nameAV, smallAV]
  refine call_of (d19 _ _) ?_
  simp -dsimp -implicitDefEqProofs [hn0, hn, del_none, numAV, nameAV, smallAV]
  refine call_of (d19 _ _) ?_
  simp -dsimp -implicitDefEqProofs [hn0, hn, del_none, numAV, nameAV, smallAV]
  refine call_of (d25 _ _) ?_
  simp -dsimp -implicitDefEqProofs [hn0, hn, del_none, numAV, nameAV, smallAV]
  refine call_of (d22 _ _ _ (by simp [eraseL, eraseA]) _ (.inr rfl)) ?_
  simp -dsimp -implicitDefEqProofs [hn0, hn, del_none, numAV, nameAV, smallAV]
  refine call_bare (c17x hT _) (by simp [AV.bareL, AV.bare, smallK, exWide, Ke.cells, rowOf, Ar.cells, Pa.cells, Sm.cellsL, Sm.cells, Ex.cells, Ex.cellsL, exX, exStore, exHalf, exOther, exInner, exSum, exLess, exY, nameE, numE, Ex.zero]) ?_
  simp -dsimp -implicitDefEqProofs [hn0, hn, del_none, numAV, nameAV, smallAV]
  refine call_of (d22 _ _ _ (by simp [eraseL, eraseA]) _ (.inr rfl)) ?_
  simp -dsimp -implicitDefEqProofs [hn0, hn, del_none, numAV, nameAV, smallAV]
  refine call_of (d22 _ _ _ (by simp [eraseL, eraseA]) _ (.inr rfl)) ?_
  simp -dsimp -implicitDefEqProofs [hn0, hn, del_none, numAV, nameAV, smallAV]
  refine call_bare (c14x1 hT _) (by simp [AV.bareL, AV.bare, smallK, exWide, Ke.cells, rowOf, Ar.cells, Pa.cells, Sm.cellsL, Sm.cells, Ex.cells, Ex.cellsL, exX, exStore, exHalf, exOther, exInner, exSum, exLess, exY, nameE, numE, Ex.zero]) ?_
  simp -dsimp -implicitDefEqProofs [hn0, hn, del_none, numAV, nameAV, smallAV]
  refine call_of (d22 _ _ _ (by simp [eraseL, eraseA]) _ (.inr rfl)) ?_
  simp -dsimp -implicitDefEqProofs [hn0, hn, del_none, numAV, nameAV, smallAV]
  refine call_bare (c14x2 hT _) (by simp [AV.bareL, AV.bare, smallK, exWide, Ke.cells, rowOf, Ar.cells, Pa.cells, Sm.cellsL, Sm.cells, Ex.cells, Ex.cellsL, exX, exStore, exHalf, exOther, exInner, exSum, exLess, exY, nameE, numE, Ex.zero]) ?_
  simp -dsimp -implicitDefEqProofs [hn0, hn, del_none, numAV, nameAV, smallAV]
  refine call_of (d22 _ _ _ (by simp [eraseL, eraseA]) _ (.inr rfl)) ?_
  simp -dsimp -implicitDefEqProofs [hn0, hn, del_none, numAV, nameAV, smallAV]
  refine call_bare (c14x3 hT _) (by simp [AV.bareL, AV.bare, smallK, exWide, Ke.cells, rowOf, Ar.cells, Pa.cells, Sm.cellsL, Sm.cells, Ex.cells, Ex.cellsL, exX, exStore, exHalf, exOther, exInner, exSum, exLess, exY, nameE, numE, Ex.zero]) ?_
  simp -dsimp -implicitDefEqProofs [hn0, hn, del_none, numAV, nameAV, smallAV]
  refine call_of (d22 _ _ _ (by simp [eraseL, eraseA]) _ (.inr rfl)) ?_
  simp -dsimp -implicitDefEqProofs [hn0, hn, del_none, numAV, nameAV, smallAV]
  refine call_bare (c14x4 hT _) (by simp [AV.bareL, AV.bare, smallK, exWide, Ke.cells, rowOf, Ar.cells, Pa.cells, Sm.cellsL, Sm.cells, Ex.cells, Ex.cellsL, exX, exStore, exHalf, exOther, exInner, exSum, exLess, exY, nameE, numE, Ex.zero]) ?_
  simp -dsimp -implicitDefEqProofs [hn0, hn, del_none, numAV, nameAV, smallAV]
  refine call_of (d22 _ _ _ (by simp [eraseL, eraseA]) _ (.inr rfl)) ?_
  simp -dsimp -implicitDefEqProofs [hn0, hn, del_none, numAV, nameAV, smallAV]
  refine call_bare (c14x5 hT _) (by simp [AV.bareL, AV.bare, smallK, exWide, Ke.cells, rowOf, Ar.cells, Pa.cells, Sm.cellsL, Sm.cells, Ex.cells, Ex.cellsL, exX, exStore, exHalf, exOther, exInner, exSum, exLess, exY, nameE, numE, Ex.zero]) ?_
  simp -dsimp -implicitDefEqProofs [hn0, hn, del_none, numAV, nameAV, smallAV]
  refine call_bare (c14x6 hT _) (by simp [AV.bareL, AV.bare, smallK, exWide, Ke.cells, rowOf, Ar.cells, Pa.cells, Sm.cellsL, Sm.cells, Ex.cells, Ex.cellsL, exX, exStore, exHalf, exOther, exInner, exSum, exLess, exY, nameE, numE, Ex.zero]) ?_
  simp -dsimp -implicitDefEqProofs [hn0, hn, del_none, numAV, nameAV, smallAV]
  exact fin_bump hwf (by simp [eraseA])
end Go.Proofs.YthaekebedmoipaaGreatDoor.AM

/- The law TypesRefuses: what is checked. -/
set_option linter.unusedVariables false
set_option linter.unusedSimpArgs false
set_option maxRecDepth 100000
namespace Go.Proofs.YthaekebedmoipaaGreatDoor.AM
open Go Go.RowKit
variable {w0 : World} {base : Nat}

theorem cat_len (a b : Str × Bool) : (cat a b).1.length = a.1.length + b.1.length := by simp [cat]
def kGS (g s : Int) : Ke := { smallK [] with group := g, sub := s }
def kLen (n : Int) : Ke := { smallK [] with arrays := [⟨[97], 1, 1, n⟩] }
def whileS (n : Int) : Sm := .mk 6 0 0 n [] (.mk 1 0 3 [] 0 []) Ex.zero [.mk 8 0 0 0 [] Ex.zero Ex.zero [] []] []
def kLoop (n : Int) : Ke := smallK [whileS n]
theorem check_gs (g s : Int) : checkP (kGS g s) = if numP g s then 0 else 1 := by
  have hv : validP (kGS g s) = true := by kernel_rfl
  have hn : numbersP (kGS g s) = numP g s := by simp [numbersP, kGS, smallK, lenP]
  have h1 : funcsT (kGS g s) 0 (kGS g s).funcs (globE (kGS g s)) = 0 := by kernel_rfl
  have h2 : (listT (kGS g s) false (kGS g s).body 0 (globalsP (kGS g s)).1).2 = 0 := by kernel_rfl
  unfold checkP
  rw [hv, hn, h1, h2]
  cases numP g s <;> simp
theorem check_len (n : Int) : checkP (kLen n) = if decide (1 ≤ n) && decide (n ≤ 4096) then 0 else 1 := by
  have hv : validP (kLen n) = true := by kernel_rfl
  have hn : numbersP (kLen n) = (decide (1 ≤ n) && decide (n ≤ 4096)) := by
    have : numP 4 2 = true := by decide
    simp [numbersP, kLen, smallK, lenP, this]
  have h1 : funcsT (kLen n) 0 (kLen n).funcs (globE (kLen n)) = 0 := by kernel_rfl
  have h2 : (listT (kLen n) false (kLen n).body 0 (globalsP (kLen n)).1).2 = 0 := by kernel_rfl
  unfold checkP
  rw [hv, hn, h1, h2]
  cases decide (1 ≤ n) && decide (n ≤ 4096) <;> simp
theorem check_loop (n : Int) : checkP (kLoop n) = if decide (1 ≤ n) && decide (n ≤ 1024) then 0 else 1 := by
  have hv : validP (kLoop n) = true := by kernel_rfl
  have hn : numbersP (kLoop n) = true := by kernel_rfl
  have h1 : funcsT (kLoop n) 0 (kLoop n).funcs (globE (kLoop n)) = 0 := by kernel_rfl
  have h3 : asT (kLoop n) (globalsP (kLoop n)).1 (.mk 1 0 3 [] 0 []) 3 = 0 := by kernel_rfl
  have h4 : (listT (kLoop n) false [.mk 8 0 0 0 [] Ex.zero Ex.zero [] []] (incW 0) (globalsP (kLoop n)).1).2 = 0 := by kernel_rfl
  have h2 : (listT (kLoop n) false (kLoop n).body 0 (globalsP (kLoop n)).1).2 = if n < 1 ∨ 1024 < n then 1 else 0 := by
    show (listT (kLoop n) false [whileS n] 0 (globalsP (kLoop n)).1).2 = _
    simp only [listT, stmtT, whileS, h3, h4]
    have hi : ¬ incW 0 = 0 := by decide
    by_cases hc : n < 1 ∨ 1024 < n
    · simp [hc]
    · simp [hc, hi]
  unfold checkP
  rw [hv, hn, h1, h2]
  by_cases hc : n < 1 ∨ 1024 < n
  · have : (decide (1 ≤ n) && decide (n ≤ 1024)) = false := by simp; omega
    simp [hc, this]
  · have : (decide (1 ≤ n) && decide (n ≤ 1024)) = true := by simp; omega
    simp [hc, this]
theorem len_gs {g s : Int} (hg : i64ok g) (hs : i64ok s) : (kernelP (kGS g s)).1.length ≤ 140737488355328 := by
  have e : (kernelP (kGS g s)).1.length = 7 + (1 + ((headP g s).length + (cats ((smallK []).arrays.flatMap arrPs ++ endPs (smallK []))).1.length)) := by
    simp [kernelP, textPs, kGS, smallK, cat_len]
    rfl
  rw [e]
  have h1 : (cats ((smallK []).arrays.flatMap arrPs ++ endPs (smallK []))).1.length ≤ 1000 := by decide +kernel
  have := itoa_fit g hg.1 hg.2
  have := itoa_fit s hs.1 hs.2
  simp only [headP, List.length_append, List.length_cons, List.length_nil]
  omega
theorem len_len {n : Int} (hn : i64ok n) : (kernelP (kLen n)).1.length ≤ 140737488355328 := by
  have e : (kernelP (kLen n)).1.length = 7 + (1 + ((headP 4 2).length + ((pickP wSpaces (subW 1 1)).1.length + (1 + ((paramP [97] 1).1.length + ((1 + ((Lib.itoa n).length + 1)) + (cats (endPs (smallK []))).1.length)))))) := by
    simp [kernelP, textPs, kLen, smallK, cat_len, arrPs, endPs]
    omega
  rw [e]
  have h1 : (cats (endPs (smallK []))).1.length ≤ 1000 := by decide +kernel
  have h2 : (headP 4 2).length ≤ 1000 := by decide +kernel
  have h3 : (pickP wSpaces (subW 1 1)).1.length ≤ 1000 := by decide +kernel
  have h4 : (paramP [97] 1).1.length ≤ 1000 := by decide +kernel
  have := itoa_fit n hn.1 hn.2
  omega
theorem len_loop {n : Int} (hn : i64ok n) : (kernelP (kLoop n)).1.length ≤ 140737488355328 := by
  have h1 : (cats (arrPs ⟨[97], 1, 1, 8⟩)).1.length ≤ 1000 := by decide +kernel
  have h2 : (headP 4 2).length ≤ 1000 := by decide +kernel
  have h3 : (exprP (.mk 1 0 3 [] 0 [])).1.length ≤ 1000 := by decide +kernel
  have h4 : (otherP (.mk 8 0 0 0 [] Ex.zero Ex.zero [] [])).1.length ≤ 1000 := by decide +kernel
  have h0 := itoa_fit n hn.1 hn.2
  have e : (kernelP (kLoop n)).1.length = 7 + (1 + ((headP 4 2).length + ((cats (arrPs ⟨[97], 1, 1, 8⟩)).1.length + (2 + (2 + (6 + ((exprP (.mk 1 0 3 [] 0 [])).1.length + (6 + ((Lib.itoa n).length + (1 + (2 + (4 + ((otherP (.mk 8 0 0 0 [] Ex.zero Ex.zero [] [])).1.length + (1 + (3 + (1 + (1 + 1))))))))))))))))) := by
    simp [kernelP, textPs, kLoop, smallK, cat_len, cats_app, endPs, bodyP, stmtsP, stmtP, whileS, linesP, blockP]
    generalize (otherP (.mk 8 0 0 0 [] Ex.zero Ex.zero [] [])).1.length = a4
    omega
  rw [e]
  clear e
  revert h0 h1 h2 h3 h4
  generalize (cats (arrPs ⟨[97], 1, 1, 8⟩)).1.length = a1
  generalize (headP 4 2).length = a2
  generalize (exprP (.mk 1 0 3 [] 0 [])).1.length = a3
  generalize (otherP (.mk 8 0 0 0 [] Ex.zero Ex.zero [] [])).1.length = a4
  generalize (Lib.itoa n).length = a5
  intro h0 h1 h2 h3 h4
  omega
end Go.Proofs.YthaekebedmoipaaGreatDoor.AM

/- The law TypesRefuses. -/
set_option linter.unusedVariables false
set_option linter.unusedSimpArgs false
set_option maxRecDepth 100000
namespace Go.Proofs.YthaekebedmoipaaGreatDoor.AM
open Go Go.RowKit
variable {w0 : World} {base : Nat}

def b10r : SCode := (.seq (.frz [11] (.draw [0, 0, 0, 4, 0, 16, 62, 126, 255, 0, 0, 2047, 4095] [0, 1, 2, 3, 4, 5, 6, 7, 8, 9, 10, 11, 12] [⟨(some 51), none, (.call 22 [(.lit (.sl [] 0 .full))])⟩, ⟨(some 52), none, (.pe (.build [(.int .i64 0), (.int .i64 0), (.int .i64 0), (.str []), (.int .i32 0), (.sl [] 0 .full)] [(0, (1, (i 1))), (2, (1, (i 3)))]))⟩, ⟨(some 53), none, (.pe (.idxArr 1 2 (t 5) (i 1)))⟩, ⟨(some 54), none, (.load 1 false (t 53))⟩, ⟨(some 55), none, (.pe (.build [(.int .i64 0), (.int .i64 0), (.int .i64 0), (.int .i64 0), (.str []), (.int .i64 0), (.int .i64 0), (.int .i64 0), (.str []), (.int .i32 0), (.sl [] 0 .full), (.int .i64 0), (.int .i64 0), (.int .i64 0), (.str []), (.int .i32 0), (.sl [] 0 .full), (.sl [] 0 .full), (.sl [] 0 .full)] [(0, (1, (i 8)))]))⟩, ⟨(some 56), none, (.pe (.lits 19 [(t 55)]))⟩, ⟨(some 57), none, (.pe (.build [(.int .i64 0), (.int .i64 0), (.int .i64 0), (.int .i64 0), (.str []), (.int .i64 0), (.int .i64 0), (.int .i64 0), (.str []), (.int .i32 0), (.sl [] 0 .full), (.int .i64 0), (.int .i64 0), (.int .i64 0), (.str []), (.int .i32 0), (.sl [] 0 .full), (.sl [] 0 .full), (.sl [] 0 .full)] [(0, (1, (i 6))), (5, (6, (t 52))), (3, (1, (t 54))), (17, (1, (t 56)))]))⟩, ⟨(some 58), none, (.pe (.lits 19 [(t 57)]))⟩, ⟨(some 59), none, (.call 22 [(t 58)])⟩, ⟨(some 10), none, (.alloc 38 (.agg [(.str []), (.int .i64 0), (.int .i64 0), (.sl [] 0 .full), (.sl [] 0 .full), (.sl [] 0 .full), (.sl [] 0 .full)]) 9)⟩, ⟨(some 11), none, (.alloc 38 (.agg [(.str []), (.int .i64 0), (.int .i64 0), (.sl [] 0 .full), (.sl [] 0 .full), (.sl [] 0 .full), (.sl [] 0 .full)]) 10)⟩, ⟨none, none, (.store 7 (t 10) (t 51))⟩, ⟨none, none, (.store 7 (t 11) (t 59))⟩])) (.seq (.frz [10] (.reg [⟨(some 60), none, (.pe (.idxArr 1 2 (t 5) (i 0)))⟩, ⟨(some 61), none, (.load 1 false (t 60))⟩, ⟨(some 62), none, (.pe (.build [(.str []), (.int .i64 0), (.int .i64 0), (.int .i64 0)] [(0, (1, (.lit (.str [97])))), (1, (1, (i 1))), (2, (1, (i 1))), (3, (1, (t 61)))]))⟩, ⟨(some 63), none, (.pe (.lits 4 [(t 62)]))⟩, ⟨(some 64), none, (.pe (.fldA 3 (t 10)))⟩, ⟨none, none, (.store 1 (t 64) (t 63))⟩])) (.seq (.draw [0, 1, 0, 7, 0, 31, 63, 127, 255] [0, 1, 2, 3, 4, 5, 6, 7, 8] [⟨(some 65), none, (.load 7 true (t 8))⟩, ⟨(some 66), none, (.call 14 [(t 65)])⟩, ⟨(some 67), none, (.load 7 true (t 10))⟩, ⟨(some 68), none, (.call 14 [(t 67)])⟩, ⟨(some 69), none, (.load 7 true (t 11))⟩, ⟨(some 70), none, (.call 14 [(t 69)])⟩, m 12 66, m 13 68, m 14 70]) (.seq (.seq (.reg [m 71 12, ⟨(some 72), none, (.pe (.bin .int .eql (t 71) (i 0)))⟩, m 73 9, ⟨(some 74), none, (.pe (.bin .bool .neq (t 72) (t 73)))⟩, m 75 74, ⟨(some 76), (some (75, false)), (.pe (.mov (t 13)))⟩, ⟨(some 77), (some (75, false)), (.pe (.bin .int .eql (t 76) (i 0)))⟩, ⟨(some 78), (some (75, false)), (.pe (.idxArr 1 2 (t 5) (i 0)))⟩, ⟨(some 79), (some (75, false)), (.load 1 false (t 78))⟩, ⟨(some 80), (some (75, false)), (.pe (.bin .int .geq (t 79) (i 1)))⟩, ⟨(some 81), (some (75, false)), (.pe (.mov (t 80)))⟩, ⟨(some 82), (some (81, true)), (.pe (.idxArr 1 2 (t 5) (i 0)))⟩, ⟨(some 83), (some (81, true)), (.load 1 false (t 82))⟩, ⟨(some 84), (some (81, true)), (.pe (.bin .int .leq (t 83) (i 4096)))⟩, ⟨(some 85), (some (75, false)), (.pe (.pick (t 81) (t 84) (.lit (.bool false))))⟩, ⟨(some 86), (some (75, false)), (.pe (.bin .bool .neq (t 77) (t 85)))⟩, ⟨(some 87), none, (.pe (.pick (t 75) (.lit (.bool true)) (t 86)))⟩, m 88 87, ⟨(some 89), (some (88, false)), (.pe (.mov (t 14)))⟩, ⟨(some 90), (some (88, false)), (.pe (.bin .int .eql (t 89) (i 0)))⟩, ⟨(some 91), (some (88, false)), (.pe (.idxArr 1 2 (t 5) (i 1)))⟩, ⟨(some 92), (some (88, false)), (.load 1 false (t 91))⟩, ⟨(some 93), (some (88, false)), (.pe (.bin .int .geq (t 92) (i 1)))⟩, ⟨(some 94), (some (88, false)), (.pe (.mov (t 93)))⟩, ⟨(some 95), (some (94, true)), (.pe (.idxArr 1 2 (t 5) (i 1)))⟩, ⟨(some 96), (some (94, true)), (.load 1 false (t 95))⟩, ⟨(some 97), (some (94, true)), (.pe (.bin .int .leq (t 96) (i 1024)))⟩, ⟨(some 98), (some (88, false)), (.pe (.pick (t 94) (t 97) (.lit (.bool false))))⟩, ⟨(some 99), (some (88, false)), (.pe (.bin .bool .neq (t 90) (t 98)))⟩, ⟨(some 100), none, (.pe (.pick (t 88) (.lit (.bool true)) (t 99)))⟩]) (.cond (t 100) (.seq (.reg [⟨(some 6), none, (.pe (.mov (.lit (.bool false))))⟩]) .ret) .skip)) (.seq (.reg [m 101 12, ⟨(some 102), none, (.pe (.bin .int .eql (t 101) (i 0)))⟩, m 103 102, ⟨(some 104), (some (103, false)), (.pe (.mov (t 12)))⟩, ⟨(some 105), (some (103, false)), (.pe (.bin .int .eql (t 104) (i 1)))⟩, ⟨(some 106), none, (.pe (.pick (t 103) (.lit (.bool true)) (t 105)))⟩, m 107 106, ⟨(some 108), (some (107, true)), (.pe (.mov (t 13)))⟩, ⟨(some 109), (some (107, true)), (.pe (.bin .int .eql (t 108) (i 0)))⟩, ⟨(some 110), (some (107, true)), (.pe (.mov (t 109)))⟩, ⟨(some 111), (some (110, false)), (.pe (.mov (t 13)))⟩, ⟨(some 112), (some (110, false)), (.pe (.bin .int .eql (t 111) (i 1)))⟩, ⟨(some 113), (some (107, true)), (.pe (.pick (t 110) (.lit (.bool true)) (t 112)))⟩, ⟨(some 114), none, (.pe (.pick (t 107) (t 113) (.lit (.bool false))))⟩, m 115 114, ⟨(some 116), (some (115, true)), (.pe (.mov (t 14)))⟩, ⟨(some 117), (some (115, true)), (.pe (.bin .int .eql (t 116) (i 0)))⟩, ⟨(some 118), (some (115, true)), (.pe (.mov (t 117)))⟩, ⟨(some 119), (some (118, false)), (.pe (.mov (t 14)))⟩, ⟨(some 120), (some (118, false)), (.pe (.bin .int .eql (t 119) (i 1)))⟩, ⟨(some 121), (some (115, true)), (.pe (.pick (t 118) (.lit (.bool true)) (t 120)))⟩, ⟨(some 122), none, (.pe (.pick (t 115) (t 121) (.lit (.bool false))))⟩, m 123 122, ⟨(some 124), (some (123, true)), (.pe (.mov (t 7)))⟩, ⟨(some 125), none, (.pe (.pick (t 123) (t 124) (.lit (.bool false))))⟩, m 6 125]) .ret)))))
theorem okGS {g s : Int} (hg : i64ok g) (hs : i64ok s) : (kGS g s).ok := ⟨hg, hs, by simp [kGS, smallK, i64ok], by simp [kGS, smallK], by simp [kGS, smallK, Sm.okL]⟩
theorem okLen {n : Int} (hn : i64ok n) : (kLen n).ok := ⟨by simp [kLen, smallK, i64ok], by simp [kLen, smallK, i64ok], by simpa [kLen] using hn, by simp [kLen, smallK], by simp [kLen, smallK, Sm.okL]⟩
theorem okLoop {n : Int} (hn : i64ok n) : (kLoop n).ok := okSmall (by simp [whileS, Sm.okL, Sm.ok, Ex.ok, Ex.okL, Ex.zero]; exact hn)
theorem t10 (hT : Tabs w0 base) {st : St} (hwf : st.wf) {g s n0 n1 : Int} (hg : i64ok g) (hs : i64ok s) (h0 : i64ok n0) (h1 : i64ok n1) (e : Env) (n : Nat) (e9 : e 9 = .bool (numP g s)) (e8 : e 8 = .iptr [.str [107], vi g, vi s, .sl [.str [97], vi 1, vi 1, vi 8] 1 .full, .sl [] 0 .full, .sl [] 0 .full, .sl [] 0 .full] 0) (e5 : e 5 = .iptr [vi n0, vi n1] 0) (e7 : e 7 = .bool true) :
      awp Tryz.prog w0 base b10r e [] (st.bump n) (Ends Tryz.prog w0 base [.tmp 6] st (.bool true) st) := by
  have hn0 := wf_none0 hwf
  have hn := wf_none hwf
  have k1 := fun st => d14 (w0 := w0) (base := base) hT st (kGS g s) (okGS hg hs) (len_gs hg hs)
  have k2 := fun st => d14 (w0 := w0) (base := base) hT st (kLen n0) (okLen h0) (len_len h0)
  have k3 := fun st => d14 (w0 := w0) (base := base) hT st (kLoop n1) (okLoop h1) (len_loop h1)
  rw [check_gs] at k1
  rw [check_len] at k2
  rw [check_loop] at k3
  unfold b10r
  simp -dsimp -implicitDefEqProofs [e9, e8, e5, e7, hn, del_none, smallAV]
  refine call_of (d22 _ _ _ (by simp [eraseL, eraseA]) _ (.inr rfl)) ?_
  simp -dsimp -implicitDefEqProofs [e9, e8, e5, e7, hn, del_none, smallAV, wrap_i64]
  refine call_of (d22 _ _ _ (by simp [eraseL, eraseA]) _ (.inr rfl)) ?_
  simp -dsimp -implicitDefEqProofs [e9, e8, e5, e7, hn, del_none, del_put_ne, smallAV, wrap_i64]
  refine call_bare (k1 _) (by simp [AV.bareL, AV.bare, smallK, kGS, kLen, kLoop, whileS, Ke.cells, rowOf, Ar.cells, Pa.cells, Sm.cellsL, Sm.cells, Ex.cells, Ex.cellsL, Ex.zero]) ?_
  simp -dsimp -implicitDefEqProofs [e9, e8, e5, e7, hn, del_none, smallAV]
  refine call_bare (k2 _) (by simp [AV.bareL, AV.bare, smallK, kGS, kLen, kLoop, whileS, Ke.cells, rowOf, Ar.cells, Pa.cells, Sm.cellsL, Sm.cells, Ex.cells, Ex.cellsL, Ex.zero]) ?_
  simp -dsimp -implicitDefEqProofs [e9, e8, e5, e7, hn, del_none, smallAV]
  refine call_bare (k3 _) (by simp [AV.bareL, AV.bare, smallK, kGS, kLen, kLoop, whileS, Ke.cells, rowOf, Ar.cells, Pa.cells, Sm.cellsL, Sm.cells, Ex.cells, Ex.cellsL, Ex.zero]) ?_
  cases hN : numP g s <;> by_cases a1 : 1 ≤ n0 <;> by_cases a2 : n0 ≤ 4096 <;> by_cases b1 : 1 ≤ n1 <;> by_cases b2 : n1 ≤ 1024
  all_goals
    simp -dsimp -implicitDefEqProofs [e9, e8, e5, e7, hn, del_none, hN, a1, a2, b1, b2]
    exact fin_bump hwf (by simp [eraseA])
theorem d10 (hT : Tabs w0 base) (st : St) (g s n0 n1 : Int) (hg : i64ok g) (hs : i64ok s) (h0 : i64ok n0) (h1 : i64ok n1) : Det Tryz.prog w0 base 10 [vi g, vi s, .agg [vi n0, vi n1]] st (.bool true) st := by
  refine det_self (enters_fn Tryz.func10 r10) fun hwf hfit => det_fn Tryz.func10 r10 rfl ?_
  clear hfit
  have hn0 := wf_none0 hwf
  have hn := wf_none hwf
  unfold b10
  simp -dsimp -implicitDefEqProofs [hn0, hn, del_none]
  refine call_of (d11 hT _) ?_
  simp -dsimp -implicitDefEqProofs [hn0, hn, del_none]
  refine call_of (d22 _ _ _ (by simp [eraseL, eraseA]) _ (.inr rfl)) ?_
  simp -dsimp -implicitDefEqProofs [hn0, hn, del_none, smallAV, -awp_seq]
  rw [awp_seq]
  simp -dsimp -implicitDefEqProofs [hn0, hn, del_none, smallAV, -awp_seq]
  rw [awp_seq]
  by_cases c1 : 1 ≤ g
  · by_cases c2 : g ≤ 256
    · by_cases c3 : 1 ≤ s
      · by_cases c4 : s ≤ 32
        · have hpow : (IntKind.i64.wrap ↑((s % 2 ^ IntKind.i64.bits).toNat &&& (IntKind.i64.wrap (s - 1) % 2 ^ IntKind.i64.bits).toNat) == 0) = powS s := by
            obtain ⟨n, hsn⟩ : ∃ n : Nat, s = n := ⟨s.toNat, by omega⟩
            have := pow_and n (by omega) (by omega)
            rw [← hsn] at this
            simpa [bne] using this
          have hmax : max s 1 = s := by omega
          have hs0 : (s == 0) = false := by simp; omega
          have hs1 : ¬ s = 0 := by omega
          have hs2 : ¬ s < 1 := by omega
          cases hp : powS s
          · rw [hp] at hpow
            simp -dsimp -implicitDefEqProofs [c1, c2, c3, c4, hpow, -awp_seq]
            exact t10 hT hwf hg hs h0 h1 _ _ (by simp [numP, hp]) (by simp) (by simp) (by simp)
          · rw [hp] at hpow
            simp -dsimp -implicitDefEqProofs [c1, c2, c3, c4, hpow, hmax, hs0, hs1, hs2, -awp_seq]
            exact t10 hT hwf hg hs h0 h1 _ _ (by simp [numP, hp, c1, c2, c3, c4]; rfl) (by simp) (by simp) (by simp)
        · simp -dsimp -implicitDefEqProofs [c1, c2, c3, c4, -awp_seq]
          exact t10 hT hwf hg hs h0 h1 _ _ (by simp [numP, c1, c2, c3, c4]) (by simp) (by simp) (by simp)
      · simp -dsimp -implicitDefEqProofs [c1, c2, c3, -awp_seq]
        exact t10 hT hwf hg hs h0 h1 _ _ (by simp [numP, c1, c2, c3]) (by simp) (by simp) (by simp)
    · simp -dsimp -implicitDefEqProofs [c1, c2, -awp_seq]
      exact t10 hT hwf hg hs h0 h1 _ _ (by simp [numP, c1, c2]) (by simp) (by simp) (by simp)
  · simp -dsimp -implicitDefEqProofs [c1, -awp_seq]
    exact t10 hT hwf hg hs h0 h1 _ _ (by simp [numP, c1]) (by simp) (by simp) (by simp)
end Go.Proofs.YthaekebedmoipaaGreatDoor.AM

/- From a contract to a row: what every card of the seat wants. -/
set_option linter.unusedVariables false
set_option linter.unusedSimpArgs false
namespace Go.Proofs.YthaekebedmoipaaGreatDoor.AM
open Go Go.ChangeShapes Go.WideShapes Go.ChangeAt Go.RowKit

def St.nil : St := ⟨fun _ => none, 0⟩
def Gh.nil : Gh := ⟨fun _ => False, fun _ => none, fun _ => none, fun _ => 0, fun _ => 0, fun _ => 0, fun _ => none, fun _ => 0⟩
theorem inv_nil (W : World) : Inv W W.heap.size Gh.nil (St.nil.add fun _ => none) W :=
  ⟨Below.refl _ _, fun _ h => h.elim, fun _ _ h => by simp [St.add, St.nil] at h, fun _ _ => ⟨rfl, rfl⟩, Nat.le_refl _⟩
theorem law_of_det {P : Program} {W : World} {f : FuncId} {args : List AV} {us : List Value} {st' : St} (h : Det P W W.heap.size f args St.nil (.bool true) st') (hR : RepL Gh.nil W args us) :
    Calls P f ⟨us⟩ W fun e W' => e = .returned (.bool true) ∧ Below W.heap.size W W' := by
  refine (h.calls (fun _ => none) Gh.nil W us (fun _ h => (h rfl).elim) (inv_nil W) hR).mono ?_
  rintro e w' ⟨v, G', rfl, he, _, hI, hr⟩
  have : v = .bool true := hr
  subst this
  exact ⟨rfl, hI.old⟩

theorem own : ownKnob Tryz.prog.godebug = none := by kernel_rfl
theorem gPow : Tryz.prog.globalNamed "internal/strconv.uint64pow10" = some 0 := by kernel_rfl
theorem gPowType : (Tryz.prog.globals[0]?).map (·.type) = some 253 := by kernel_rfl
theorem cells253 : Tryz.prog.cellsOf 253 = 20 := by kernel_rfl
def laidL : List (String × DataW Unit) := [("math/bits.deBruijn32tab", Rows.laid_math_bits_deBruijn32tab), ("math/bits.deBruijn64tab", Rows.laid_math_bits_deBruijn64tab), ("internal/strconv.uint64pow10", Rows.laid_internal_strconv_uint64pow10)]
theorem pow_data : (Rows.laid_internal_strconv_uint64pow10 : DataW Unit) = Lib.tabData .u64 Lib.pow10Tab := by kernel_rfl
theorem cells244 : Tryz.prog.cellsOf 244 = 1 := by kernel_rfl
/-- What the rows' lists give. -/
theorem tabs_of {W : World} (h : laidMet Tryz.prog laidL W) : Tabs W W.heap.size := by
  refine ⟨?_, rfl⟩
  have h2 : laidMet Tryz.prog [("internal/strconv.uint64pow10", Rows.laid_internal_strconv_uint64pow10)] W := h.tail.tail
  rw [pow_data] at h2
  exact Lib.tabIs_of_head (rest := []) gPow gPowType Tryz.underlying253 Tryz.underlying244 cells244 cells253 h2

def datInts : DataW Unit → List Int
  | .agg l => l.filterMap fun | .lit (.int _ n) => some n | _ => none
  | _ => []
def setCells (vs : Array Value) : Obj → Obj
  | .cells _ t fz => .cells vs t fz
  | o => o
/-- A world for the witness: the settled one, the tables holding what is listed. -/
noncomputable def laidWorld (os : Os) : World :=
  let w := World.holding Tryz.prog os ⟨#[], #[], []⟩
  { w with heap := ((w.heap.modify 0 (setCells ((datInts Rows.laid_internal_strconv_uint64pow10).map (Value.int .u64)).toArray)).modify 1 (setCells ((datInts Rows.laid_math_bits_deBruijn32tab).map (Value.int .u8)).toArray)).modify 2 (setCells ((datInts Rows.laid_math_bits_deBruijn64tab).map (Value.int .u8)).toArray) }
theorem laid_met (os : Os) (args : Array Value) : laidMet Tryz.prog laidL ((laidWorld os).forCall (fun _ _ => 0) ⟨#[], args, []⟩).memory :=
  laidMet_of_run' 8 (by kernel_rfl) (by kernel_rfl)
end Go.Proofs.YthaekebedmoipaaGreatDoor.AM
