/- Part 12 of the proof: M10 N16 M11 M12 N17. -/
import Derived.Test.YthaekebedmoipaaGreatDoorJ11
set_option linter.unusedVariables false
set_option linter.unusedSimpArgs false
set_option linter.unusedSectionVars false
set_option maxRecDepth 100000
namespace Go.Proofs.YthaekebedmoipaaGreatDoor.AM
open Go Go.RowKit
section
theorem nodesSL_append (m : List Sm) : ∀ l : List Sm, nodesSL (l ++ m) = nodesSL l + nodesSL m
 | [] => by simp [nodesSL]
 | s :: l => by simp [nodesSL, nodesSL_append m l, Nat.add_assoc]
theorem wSL_append (m : List Sm) (d : Nat) : ∀ l : List Sm, wSL (l ++ m) d = wSL l d + wSL m d
 | [] => by simp [wSL]
 | s :: l => by simp [wSL, wSL_append m d l, Nat.add_assoc]
theorem listT_pre {k : Ke} {inF : Bool} {lp : Int} (m : List Sm) : ∀ (l : List Sm) (sc : Scope), (listT k inF (l ++ m) lp sc).2 = 0 → (listT k inF l lp sc).2 = 0
 | [], sc, h => rfl
 | s :: l, sc, h => by
  simp only [listT, List.cons_append] at h ⊢
  split at h
  ·rename_i h1; exact absurd h h1
  ·rename_i h1; simp only [if_neg h1]; exact listT_pre m l _ h
theorem GL.pre {k : Ke} {sc sc' : Scope} {inF : Bool} {lp u : Int} {h : Nat} {l m : List Sm} (a : GL k sc sc' inF lp u h (l ++ m)) : GL k sc (listT k inF l lp sc).1 inF lp u h l := by
 have ht : (listT k inF l lp sc).2 = 0 := listT_pre m l sc (by rw [a.typ])
 refine ⟨Prod.ext rfl ht, fun ind => ?_, fun hf => ?_, fun n hn => a.decl n (by rw [declsL_append]; exact List.mem_append_left _ hn), ?_, ?_, ?_, ?_⟩
 ·have := a.good ind
  rw [bodyP_bad] at *
  simp only [List.any_append, Bool.or_eq_false_iff] at this
  exact this.1
 ·have := a.pure hf
  rw [anyImpure_any] at *
  simp only [List.any_append, Bool.or_eq_false_iff] at this
  exact this.1
 ·exact (Sm.okL_iff _).2 fun s hs => (Sm.okL_iff _).1 a.co.ok s (List.mem_append_left _ hs)
 ·intro d h0 h1
  have := a.co.over d h0 h1
  rw [overSL_iff] at *
  simp only [List.any_append, Bool.or_eq_false_iff] at this
  exact this.1
 ·have := a.co.nodes; rw [nodesSL_append] at this; omega
 ·intro d hd; have := a.co.w d hd; rw [wSL_append] at this; omega
theorem CoL.deep {u : Int} {h h' : Nat} {l : List Sm} (a : CoL u h l) (hh : h ≤ h') : CoL u h' l := ⟨a.ok, fun d h0 h1 => a.over d h0 (by omega), a.nodes, fun d hd => a.w d (by omega)⟩
section
variable {bs : List UInt8}
structure Like (bs : List UInt8) (k : Ke) : Prop where
 name : k.name = [107]
 group : k.group = gM bs
 sub : k.sub = sM bs
 arrays : k.arrays = arrsM
 params : k.params = parsM
 funcs : k.funcs = (headM bs (qM bs)).1
theorem Like.made {k : Ke} (h : Like bs k) : MadeOk bs k := made_ok h.arrays h.params h.funcs
theorem Like.ok {k : Ke} (h : Like bs k) {u : Int} {d : Nat} (hc : CoL u d k.body) : k.ok := made_okK h.made h.group h.sub h.arrays hc.ok
theorem Like.len {k : Ke} (h : Like bs k) {u : Int} {d : Nat} (hc : CoL u d k.body) (hu : u ≤ 100000) (hd : d ≤ 10) : (kernelP k).1.length ≤ 140737488355328 := by
 have h1 := hc.w 2 (by omega)
 have := kern_len (h.ok hc) (by rw [h.name]; decide) h.arrays h.params (funs_len h.made) (Nat.le_refl _)
 omega
theorem Like.valid {k : Ke} (h : Like bs k) {sc sc' : Scope} {u : Int} {d : Nat} (g : GL k sc sc' false 0 u d k.body) (hu : u ≤ 20) (hd : d ≤ 10) : validP k = true := by
 have hm := h.made
 have h1 : overK k = false := by
  have h2 := hm.few
  have h3 := g.co.over 1 (by omega) (by omega)
  have h4 : k.funcs.any overF = false := List.any_eq_false.2 fun f hf => by simp [(hm.each f hf).over]
  have h5 : decide (8 < k.arrays.length) = false := by rw [h.arrays]; rfl
  have h6 : decide (8 < k.params.length) = false := by rw [h.params]; rfl
  have h7 : decide (8 < k.funcs.length) = false := by simp; omega
  simp [overK, h3, h4, h5, h6, h7]
 have h2 : wn (nodesK k) ≤ 2000 := by
  have h3 := g.co.nodes
  have h4 := funs_nodes hm
  have : nodesK k ≤ 1500 := by unfold nodesK; omega
  rw [wn, yy (by omega) (by omega)]; omega
 have h3 : (kernelP k).2 = false := by
  have h4 : (bodyP [32, 32] k.body).2 = false := g.good _
  have h5 : ((k.funcs.flatMap funPs).any (·.2)) = false := by
   rw [List.any_flatMap, List.any_eq_false]
   intro f hf
   simp [funPs, (hm.each f hf).pure, (hm.each f hf).good]
  have h6 : (k.arrays.flatMap arrPs).any (·.2) = false := by
   rw [h.arrays]
   decide +kernel
  have h7 : (k.params.flatMap parPs).any (·.2) = false := by
   rw [h.params]
   decide +kernel
  have h8 : isNameP k.name = true := by
   rw [h.name]
   decide +kernel
  simp only [kernelP, xm, textPs, List.any_cons, List.any_append, h5, h6, h7, h8, endPs]
  simp [blockP, cat, h4]
 simp [validP, withinP, h1, h2, h3]
theorem Like.numbers {k : Ke} (h : Like bs k) : numbersP k = true := by
 have h1 : k.arrays.all lenP = true := by
  rw [h.arrays]
  decide +kernel
 simp only [numbersP, h1, Bool.and_true, h.group, h.sub]
 exact num_ok bs
theorem Like.check {k : Ke} (h : Like bs k) {sc' : Scope} {u : Int} {d : Nat} (g : GL k (globalsP k).1 sc' false 0 u d k.body) (hu : u ≤ 20) (hd : d ≤ 10) : checkP k = 0 := by
 have hm := h.made
 have hG : globE k = 0 := by simp [globE, hm.glob]
 simp [checkP, h.valid g hu hd, h.numbers, hG, hm.funs, g.typ]
theorem Like.check_or {k : Ke} (h : Like bs k) : checkP k = 1 ∨ checkP k = (listT k false k.body 0 (globalsP k).1).2 := by
 have hm := h.made
 have hG : globE k = 0 := by simp [globE, hm.glob]
 unfold checkP
 split
 ·exact .inl rfl
 ·rw [hG, if_pos hm.funs]; exact .inr rfl
theorem like_body (bs : List UInt8) (l : List Sm) : Like bs { madeM bs with body := l } := ⟨rfl, rfl, rfl, rfl, rfl, rfl⟩
def partM (bs : List UInt8) (j : Nat) : Ke := { madeM bs with body := (madeM bs).body.take j }
theorem part_gl (bs : List UInt8) (j : Nat) : ∃ sc', GL (partM bs j) (globalsP (partM bs j)).1 sc' false 0 15 2 (partM bs j).body := by
 have h : Like bs (partM bs j) := like_body bs _
 obtain ⟨sc', g, _⟩ := h.made.body
 have e : (madeM bs).body = (partM bs j).body ++ (madeM bs).body.drop j := (List.take_append_drop j (madeM bs).body).symm
 rw [e] at g
 exact ⟨_, g.pre⟩
theorem part_check (bs : List UInt8) (j : Nat) : checkP (partM bs j) = 0 ∧ (partM bs j).ok ∧ (kernelP (partM bs j)).1.length ≤ 140737488355328 := by
 obtain ⟨sc', g⟩ := part_gl bs j
 have h : Like bs (partM bs j) := like_body bs _
 exact ⟨h.check g (by omega) (by omega), h.ok g.co, h.len g.co (by omega) (by omega)⟩
def firstP : List Sm → Str
 | [] => []
 | s :: l => if s.kind = 1 then s.name else firstP l
theorem stmt_scope {k : Ke} {inF : Bool} {lp : Int} : ∀ (s : Sm) (sc : Scope), s.kind ≠ 1 → (stmtT k inF s lp sc).1 = sc
 | .mk kd op ty bd nm x y body els, sc, h => by
  have h1 : ¬ kd = 1 := h
  unfold stmtT
  simp only [if_neg h1]
  repeat' split
  all_goals rfl
theorem stmt_keeps {k : Ke} {inF : Bool} {lp : Int} {n : Str} : ∀ (s : Sm) (sc : Scope), sc.lookup n ≠ none → (stmtT k inF s lp sc).1.lookup n ≠ none
 | .mk kd op ty bd nm x y body els, sc, h => by
  by_cases h1 : kd = 1
  ·subst h1
   simp only [stmtT, varT, declP]
   repeat' split
   all_goals (try exact h)
   all_goals
    rcases hs : sc.lookup n with _ | t
    ·exact absurd hs h
    ·simp [List.lookup_append, hs]
  ·rw [stmt_scope (.mk kd op ty bd nm x y body els) sc h1]; exact h
theorem list_keeps {k : Ke} {inF : Bool} {lp : Int} {n : Str} : ∀ (l : List Sm) (sc : Scope), sc.lookup n ≠ none → (listT k inF l lp sc).1.lookup n ≠ none
 | [], sc, h => h
 | s :: l, sc, h => by
  simp only [listT]
  split
  ·exact stmt_keeps s sc h
  ·exact list_keeps l _ (stmt_keeps s sc h)
theorem firstP_none {k : Ke} {inF : Bool} {lp : Int} : ∀ (l : List Sm) (sc : Scope), (∀ s ∈ l, s.kind = 1 → s.name ≠ []) → firstP l = [] → (listT k inF l lp sc).1 = sc
 | [], sc, _, _ => rfl
 | s :: l, sc, hn, h => by
  simp only [firstP] at h
  split at h
  ·rename_i h1; exact absurd h (hn s (by simp) h1)
  ·rename_i h1
   simp only [listT]
   split
   ·exact stmt_scope s sc h1
   ·rw [firstP_none l _ (fun s hs => hn s (List.mem_cons_of_mem _ hs)) h]; exact stmt_scope s sc h1
theorem var_ok {k : Ke} {sc : Scope} {ty : Int} {nm : Str} {x : Ex} (h : (varT k sc ty nm x).2 = 0) : sc.lookup nm = none ∧ (varT k sc ty nm x).1.lookup nm ≠ none := by
 by_cases h3 : (exprT k sc x).2 = 0
 ·rcases hs : sc.lookup nm with _ | t
  ·refine ⟨rfl, ?_⟩
   have : varT k sc ty nm x = (sc ++ [(nm, ⟨3, ty, 0⟩)], if (exprT k sc x).1 ≠ ty then 31 else 0) := by simp [varT, declP, h3, hs]
   rw [this]
   simp only
   rw [wt hs]
   simp
  ·have : varT k sc ty nm x = (sc, 30) := by simp [varT, declP, h3, hs]
   rw [this] at h; simp at h
 ·have : varT k sc ty nm x = (sc, (exprT k sc x).2) := by simp [varT, h3]
  rw [this] at h; exact absurd h h3
theorem firstP_some {k : Ke} {inF : Bool} {lp : Int} (hF : inF = false) : ∀ (l : List Sm) (sc : Scope), firstP l ≠ [] → (listT k inF l lp sc).2 = 0 → sc.lookup (firstP l) = none ∧ (listT k inF l lp sc).1.lookup (firstP l) ≠ none
 | [], sc, h, _ => absurd rfl h
 | s :: l, sc, h, ht => by
  simp only [firstP] at h ⊢
  simp only [listT] at ht ⊢
  split at ht
  ·rename_i h1; exact absurd ht h1
  ·rename_i h1
   rw [if_neg h1]
   split
   ·rename_i h2
    obtain ⟨kd, op, ty, bd, nm, x, y, body, els⟩ := s
    simp only [Sm.kind] at h2
    subst h2 hF
    simp only [Sm.name]
    have hv : stmtT k false (.mk 1 op ty bd nm x y body els) lp sc = varT k sc ty nm x := by simp [stmtT]
    rw [hv] at h1 ⊢
    obtain ⟨h3, h4⟩ := var_ok (Decidable.of_not_not h1)
    exact ⟨h3, list_keeps l _ h4⟩
   ·rename_i h2
    rw [if_neg h2] at h
    have h4 := firstP_some hF l _ h ht
    rw [stmt_scope s sc h2] at h4 ⊢
    exact h4
theorem decl_named : ∀ (l : List Sm), (∀ n ∈ declsL l, IsV n) → ∀ s ∈ l, s.kind = 1 → s.name ≠ []
 | .mk kd op ty bd nm x y body els :: l, h, s, hs, hk => by
  simp only [declsL, declsS] at h
  rcases List.mem_cons.1 hs with rfl | hs
  ·simp only [Sm.kind] at hk
   subst hk
   obtain ⟨c, hc, e⟩ := h nm (by simp)
   simp only [Sm.name, e, vN]
   exact List.cons_ne_nil _ _
  ·exact decl_named l (fun n hn => h n (by simp [hn])) s hs hk
def yesE : Ex := numX 3 1
def againS (l : List Sm) : Sm := .mk 5 0 0 0 [] yesE zE l []
def moreM (bs : List UInt8) : Ke := { madeM bs with body := (madeM bs).body ++ [againS (madeM bs).body] }
theorem more_check (bs : List UInt8) : (moreM bs).ok ∧ (kernelP (moreM bs)).1.length ≤ 140737488355328 ∧ (checkP (moreM bs) = 1 ∨ (checkP (moreM bs) = 0 ↔ firstP (madeM bs).body = [])) := by
 have h : Like bs (moreM bs) := like_body bs _
 obtain ⟨sc', g, _⟩ := h.made.body
 have hx : GE (moreM bs) sc' 3 1 92 0 yesE := ge_num (.inr (.inr ⟨rfl, .inr rfl⟩)) (by omega) (by omega)
 have hc : CoL (15 + ((1 + 15 + 0) + 0)) 3 (moreM bs).body := CoL.append (CoL.cons (co_block (XO.ge hx (by omega) (by omega) (by omega)) (by omega) g.co (CoL.nil 2)) (CoL.nil 3)) _ (g.co.deep (by omega))
 refine ⟨h.ok hc, h.len hc (by omega) (by omega), ?_⟩
 rcases h.check_or with h1 | h1
 ·exact .inl h1
 ·refine .inr ?_
  rw [h1]
  have h2 : (moreM bs).body = (madeM bs).body ++ [againS (madeM bs).body] := rfl
  have h3 : (listT (moreM bs) false (moreM bs).body 0 (globalsP (moreM bs)).1).2 = (listT (moreM bs) false (madeM bs).body 0 sc').2 := by
   rw [h2, listT_append _ _ _ (by rw [g.typ]), g.typ]
   simp only [listT, againS, stmtT, asT_ge hx]
   simp
   split <;> simp_all
  rw [h3]
  by_cases hf : firstP (madeM bs).body = []
  ·have h4 := firstP_none (k := moreM bs) (inF := false) (lp := 0) (madeM bs).body (globalsP (moreM bs)).1 (decl_named _ g.decl) hf
   rw [g.typ] at h4
   simp only at h4
   rw [h4, g.typ]
   simp [hf]
  ·obtain ⟨_, h5⟩ := firstP_some (k := moreM bs) (inF := false) (lp := 0) rfl (madeM bs).body (globalsP (moreM bs)).1 hf (by rw [g.typ])
   rw [g.typ] at h5
   simp only [hf, iff_false]
   intro h6
   exact h5 (firstP_some (k := moreM bs) (inF := false) (lp := 0) rfl (madeM bs).body sc' hf h6).1
end
end
section
variable {w0 : World} {base : Nat}
theorem firstP_drop (l : List Sm) (j : Nat) (s : Sm) (h : l[j]? = some s) : firstP (l.drop j) = if s.kind = 1 then s.name else firstP (l.drop (j + 1)) := by
 obtain ⟨hlt, e⟩ := List.getElem?_eq_some_iff.1 h
 rw [List.drop_eq_getElem_cons hlt, e]
 rfl
theorem d20 (st : St) (l : List Sm) : Det Tryz.prog w0 base 20 [.sl (Sm.cellsL l) l.length .no] st (.str (firstP l)) st := by
 refine zh (zp Tryz.func20 r20) fun hwf hfit => z6 Tryz.func20 r20 rfl ?_
 have hlen : l.length ≤ big := hfit.1.1
 unfold big at hlen
 clear hfit
 have hrow := fun j x => @yg _ Sm.cells 19 Sm.cells_len l j x
 have hle := fun j x => @ye _ Sm.cells 19 Sm.cells_len l j x
 rw [← Sm.cellsL_row] at hrow hle
 unfold b20
 simp -dsimp -implicitDefEqProofs
 refine loop_by (fun k e z => ∃ j, j + k = l.length ∧ e 3 = vi j ∧ (∀ p, p < st.next → z.objs p = st.objs p) ∧ z.wf ∧ st.next ≤ z.next ∧ firstP l = firstP (l.drop j)) l.length ⟨0, by omega, by simp, fun _ _ => by simp, zk hwf, by simp, rfl⟩ (by decide) ?_
 rintro k e z hfr ⟨j, hjk, e3, hold', hzw, hzn, hj⟩
 have e0 : e 0 = .sl (Sm.cellsL l) l.length .no := by rw [hfr 0 rfl]; simp
 unfold l20_0
 simp -dsimp -implicitDefEqProofs [e0, e3]
 refine Br_iff (fun hb => ?_) (fun hb => ?_)
 ·have hjl : j < l.length := by simpa using hb
  obtain ⟨s, hs⟩ : ∃ s, l[j]? = some s := ⟨_, List.getElem?_eq_getElem hjl⟩
  have h1 := hrow j s hs
  have h2 := hle j s hs
  have hf := firstP_drop l j s hs
  have hwj : IntKind.i64.wrap ((j : Int) + 1) = (j : Int) + 1 := yy (by omega) (by omega)
  have c1 : (Sm.cellsL l)[j * 19]? = some (vi s.kind) := by
   have := congrArg (fun x => x[0]?) h1
   simp only [List.getElem?_take, List.getElem?_drop] at this
   obtain ⟨kd, op, ty, bd, nm, x, y, body, els⟩ := s
   simpa [Sm.cells, Sm.kind] using this
  have c2 : (Sm.cellsL l)[j * 19 + 4]? = some (.str s.name) := by
   have := congrArg (fun x => x[4]?) h1
   simp only [List.getElem?_take, List.getElem?_drop] at this
   obtain ⟨kd, op, ty, bd, nm, x, y, body, els⟩ := s
   simpa [Sm.cells, Sm.name] using this
  simp -dsimp -implicitDefEqProofs [e0, e3, hjl, h2, c1, c2, loadA]
  refine Br_iff (fun hb => ?_) (fun hb => ?_)
  ·have hk : s.kind = 1 := by simpa using hb
   simp -dsimp -implicitDefEqProofs [e0, e3, hjl, h2, c1, c2, loadA]
   rw [hj, hf, if_pos hk]
   refine zg hwf (fun p hp => ?_) (by simp [eraseA])
   simp [hold' p hp]
  ·have hk : ¬ s.kind = 1 := by simpa using hb
   rw [if_neg hk] at hf
   simp -dsimp -implicitDefEqProofs [e0, e3, hjl, hwj]
   refine hold ⟨k - 1, by omega, j + 1, by omega, by simp, fun p hp => by simp [hold' p hp], zk (zk hzw), by simp; omega, by rw [hj, hf]⟩
 ·have hjl : ¬ j < l.length := by simpa using hb
  have : l.drop j = [] := List.drop_eq_nil_of_le (by omega)
  rw [this] at hj
  simp -dsimp -implicitDefEqProofs [e0, e3]
  rw [hj]
  refine zg hwf (fun p hp => ?_) (by simp [eraseA, firstP])
  simp [hold' p hp]
theorem cellsL_take (l : List Sm) (j : Nat) : Sm.cellsL (l.take j) = (Sm.cellsL l).take (j * 19) := by
 rw [Sm.cellsL_row, Sm.cellsL_row]
 induction l generalizing j with
 | nil => simp [rowOf]
 | cons s l ih =>
  cases j with
  | zero => simp [rowOf]
  | succ j =>
   have h1 : s.cells.take ((j + 1) * 19) = s.cells := List.take_of_length_le (by rw [Sm.cells_len]; omega)
   have h2 : (j + 1) * 19 - 19 = j * 19 := by omega
   rw [List.take_succ_cons, xj, xj, ih, List.take_append, Sm.cells_len, h1, h2]
theorem d8 (hT : Tabs w0 base) (st : St) (bs : List UInt8) (n : Int) (h0 : 0 ≤ n) (h1 : n ≤ 255) : Det Tryz.prog w0 base 8 [.agg [bytesV bs], .int .u8 n] st (.bool true) st := by
 refine zh (zp Tryz.func8 r8) fun hwf hfit => z6 Tryz.func8 r8 rfl ?_
 clear hfit
 have hn0 := zj hwf
 have hn := zf hwf
 have hbf := body_few bs
 obtain ⟨m, hm⟩ : ∃ m : Nat, n % (((madeM bs).body.length : Int) + 1) = m := ⟨(n % (((madeM bs).body.length : Int) + 1)).toNat, by have := Int.emod_nonneg n (show ((madeM bs).body.length : Int) + 1 ≠ 0 by omega); omega⟩
 have hml : m ≤ (madeM bs).body.length := by have := Int.emod_lt_of_pos n (show (0 : Int) < ((madeM bs).body.length : Int) + 1 by omega); omega
 have htm : n.tmod (((madeM bs).body.length : Int) + 1) = m := by rw [Int.tmod_eq_emod_of_nonneg h0, hm]
 obtain ⟨pc, pk, pl⟩ := part_check bs m
 obtain ⟨mk, ml, mc⟩ := more_check bs
 have k1 := fun st => d14 (w0 := w0) (base := base) hT st (partM bs m) pk pl
 have k2 := fun st => d14 (w0 := w0) (base := base) hT st (moreM bs) mk ml
 have k3 := fun st => d20 (w0 := w0) (base := base) st (madeM bs).body
 rw [pc] at k1
 have bca := xb Ar.cells Ar.bare_cells (madeM bs).arrays
 have bcp := xb Pa.cells Pa.bare_cells (madeM bs).params
 have bcf := xb Fu.cells Fu.bare_cells (madeM bs).funcs
 have ap : AV.bareL (Sm.cellsL ((madeM bs).body.take m)) = Sm.cellsL ((madeM bs).body.take m) := Sm.bare_cellsL _
 rw [cellsL_take] at ap
 have kp : (partM bs m).cells = [.str (madeM bs).name, vi (madeM bs).group, vi (madeM bs).sub, .sl (rowOf Ar.cells (madeM bs).arrays) (madeM bs).arrays.length .no, .sl (rowOf Pa.cells (madeM bs).params) (madeM bs).params.length .no, .sl (rowOf Fu.cells (madeM bs).funcs) (madeM bs).funcs.length .no, .sl ((Sm.cellsL (madeM bs).body).take (m * 19)) m .no] := by
  simp [partM, Ke.cells, cellsL_take, Nat.min_eq_left hml]
 have ko : (moreM bs).cells = [.str (madeM bs).name, vi (madeM bs).group, vi (madeM bs).sub, .sl (rowOf Ar.cells (madeM bs).arrays) (madeM bs).arrays.length .no, .sl (rowOf Pa.cells (madeM bs).params) (madeM bs).params.length .no, .sl (rowOf Fu.cells (madeM bs).funcs) (madeM bs).funcs.length .no, .sl (Sm.cellsL (madeM bs).body ++ (againS (madeM bs).body).cells) ((madeM bs).body.length + 1) .no] := by
  simp [moreM, Ke.cells, cellsL_append, Sm.cellsL]
 have kc : (madeM bs).cells = [.str (madeM bs).name, vi (madeM bs).group, vi (madeM bs).sub, .sl (rowOf Ar.cells (madeM bs).arrays) (madeM bs).arrays.length .no, .sl (rowOf Pa.cells (madeM bs).params) (madeM bs).params.length .no, .sl (rowOf Fu.cells (madeM bs).funcs) (madeM bs).funcs.length .no, .sl (Sm.cellsL (madeM bs).body) (madeM bs).body.length .no] := rfl
 have su : (againS (madeM bs).body).cells = [vi 5, vi 0, vi 0, vi 0, .str [], vi 1, vi 0, vi 3, .str [], .int .i32 1, .sl [] 0 .no, vi 0, vi 0, vi 0, .str [], .int .i32 0, .sl [] 0 .no, .sl (Sm.cellsL (madeM bs).body) (madeM bs).body.length .no, .sl [] 0 .no] := by simp [againS, yesE, numX, zE, Sm.cells, Sm.cellsL, Ex.cells, Ex.cellsL]
 have hm12 := fun st => d12 (w0 := w0) (base := base) st bs
 rw [kc] at hm12
 rw [kp] at k1
 rw [ko, su] at k2
 have hcl : (Sm.cellsL (madeM bs).body).length = (madeM bs).body.length * 19 := Sm.cellsL_len _
 generalize checkP (moreM bs) = co at *
 clear pk pl mk ml kp ko kc su
 generalize firstP (madeM bs).body = fn at *
 generalize madeM bs = K at *
 generalize rowOf Ar.cells K.arrays = ca at *
 generalize rowOf Pa.cells K.params = cp at *
 generalize rowOf Fu.cells K.funcs = cf at *
 have bcb : AV.bareL (Sm.cellsL K.body) = Sm.cellsL K.body := Sm.bare_cellsL _
 generalize hcb : Sm.cellsL K.body = cb at *
 unfold b8
 simp -dsimp -implicitDefEqProofs [hn0, hn, zz, bytesV]
 refine zt (d11 hT _) ?_
 simp -dsimp -implicitDefEqProofs [hn0, hn, zz]
 refine zt (hm12 _) ?_
 simp -dsimp -implicitDefEqProofs [hn0, hn, zz, hcl, -yr]
 rw [yr]
 simp -dsimp -implicitDefEqProofs [hn0, hn, zz, hcl, -yr]
 rw [yr]
 have hw1 : IntKind.i64.wrap n = n := yy (by omega) (by omega)
 have hw2 : IntKind.i64.wrap ((K.body.length : Int) + 1) = K.body.length + 1 := yy (by omega) (by omega)
 have hne : ¬ (K.body.length : Int) + 1 = 0 := by omega
 have hmc : (m : Int) ≤ K.body.length := by omega
 have hm19 : m * 19 ≤ K.body.length * 19 := by omega
 simp -dsimp -implicitDefEqProofs [hn0, hn, zz, hcl, hw1, hw2, hne, htm, hmc, hml, hm19, -yr]
 rw [yr]
 simp -dsimp -implicitDefEqProofs [hn0, hn, zz, hcl, -yr]
 rw [yr]
 have b1 : K.body.length * 240 ≤ big := by unfold big; omega
 have b2 : K.body.length ≤ big := by unfold big; omega
 have b3 : (K.body.length + 1) * 240 ≤ big := by unfold big; omega
 have b4 : K.body.length + 1 ≤ big := by unfold big; omega
 have b5 : (1 : Nat) * 240 ≤ big := by unfold big; omega
 have b6 : (1 : Nat) ≤ big := by unfold big; omega
 by_cases hz : K.body = []
 ·have hcb0 : cb = [] := by rw [← hcb, hz]; simp [Sm.cellsL]
  subst hcb0
  have hlz : K.body.length = 0 := by rw [hz]; rfl
  rw [hlz] at k2 k3
  simp -dsimp -implicitDefEqProofs [hn0, hn, zz, hcl, hz, b1, b2, b3, b4, b5, b6]
  refine zo (k2 _) (by simp [AV.bareL, AV.bare, zm, bca, bcp, bcf, bcb]) ?_
  simp -dsimp -implicitDefEqProofs [hn0, hn, zz]
  refine Br_iff (fun hb => ?_) (fun hb => ?_)
  ·simp -dsimp -implicitDefEqProofs [hn0, hn, zz]
   refine zo (k1 _) (by simp [AV.bareL, AV.bare, bca, bcp, bcf, ap]) ?_
   simp -dsimp -implicitDefEqProofs [hn0, hn, zz]
   refine zg hwf (fun p hp => ?_) (by simp [eraseA])
   have h1 : p ≠ st.next + 12 := by omega
   have h2 : p ≠ st.next + 13 := by omega
   have h3 : p ≠ st.next + 34 := by omega
   have h4 : p ≠ st.next + 40 := by omega
   simp [h1, h2, h3, h4]
  ·have hco : co = 0 ↔ fn = [] := by
    rcases mc with h | h
    ·exfalso; rw [h] at hb; simp at hb
    ·exact h
   simp -dsimp -implicitDefEqProofs [hn0, hn, zz]
   refine zo (k1 _) (by simp [AV.bareL, AV.bare, bca, bcp, bcf, ap]) ?_
   simp -dsimp -implicitDefEqProofs [hn0, hn, zz]
   refine zo (k3 _) (by simp [AV.bareL, AV.bare, bcb]) ?_
   have hq : ((co == 0) == List.isEmpty fn) = true := by
    cases fn with
    | nil => simp [hco.2 rfl]
    | cons c l =>
     have : ¬ co = 0 := fun h => by have := hco.1 h; simp at this
     simp [this]
   simp -dsimp -implicitDefEqProofs [hn0, hn, zz, hq]
   refine zg hwf (fun p hp => ?_) (by simp [eraseA])
   have h1 : p ≠ st.next + 12 := by omega
   have h2 : p ≠ st.next + 13 := by omega
   have h3 : p ≠ st.next + 34 := by omega
   have h4 : p ≠ st.next + 40 := by omega
   simp [h1, h2, h3, h4]
 ·simp -dsimp -implicitDefEqProofs [hn0, hn, zz, hcl, hz, b1, b2, b3, b4, b5, b6]
  refine zo (k2 _) (by simp [AV.bareL, AV.bare, zm, bca, bcp, bcf, bcb]) ?_
  simp -dsimp -implicitDefEqProofs [hn0, hn, zz]
  refine Br_iff (fun hb => ?_) (fun hb => ?_)
  ·simp -dsimp -implicitDefEqProofs [hn0, hn, zz]
   refine zo (k1 _) (by simp [AV.bareL, AV.bare, bca, bcp, bcf, ap]) ?_
   simp -dsimp -implicitDefEqProofs [hn0, hn, zz]
   refine zg hwf (fun p hp => ?_) (by simp [eraseA])
   have h1 : p ≠ st.next + 12 := by omega
   have h2 : p ≠ st.next + 13 := by omega
   have h3 : p ≠ st.next + 34 := by omega
   have h4 : p ≠ st.next + 40 := by omega
   simp [h1, h2, h3, h4]
  ·have hco : co = 0 ↔ fn = [] := by
    rcases mc with h | h
    ·exfalso; rw [h] at hb; simp at hb
    ·exact h
   simp -dsimp -implicitDefEqProofs [hn0, hn, zz]
   refine zo (k1 _) (by simp [AV.bareL, AV.bare, bca, bcp, bcf, ap]) ?_
   simp -dsimp -implicitDefEqProofs [hn0, hn, zz]
   refine zo (k3 _) (by simp [AV.bareL, AV.bare, bcb]) ?_
   have hq : ((co == 0) == List.isEmpty fn) = true := by
    cases fn with
    | nil => simp [hco.2 rfl]
    | cons c l =>
     have : ¬ co = 0 := fun h => by have := hco.1 h; simp at this
     simp [this]
   simp -dsimp -implicitDefEqProofs [hn0, hn, zz, hq]
   refine zg hwf (fun p hp => ?_) (by simp [eraseA])
   have h1 : p ≠ st.next + 12 := by omega
   have h2 : p ≠ st.next + 13 := by omega
   have h3 : p ≠ st.next + 34 := by omega
   have h4 : p ≠ st.next + 40 := by omega
   simp [h1, h2, h3, h4]
end
section
def qF : Fu := ⟨[113, 113, 57], [⟨[113, 113, 56], 1⟩], 1, [], varX [113, 113, 56]⟩
def badF (kd : Int) : Fu := { qF with body := [.mk kd 0 0 0 [] zE zE [] []] }
section
variable {bs : List UInt8}
structure Near (bs : List UInt8) (k : Ke) : Prop where
 name : k.name = [107]
 group : k.group = gM bs
 sub : k.sub = sM bs
 arrays : k.arrays = arrsM
 params : k.params = parsM
theorem Near.valid {k : Ke} (h : Near bs k) (hfew : k.funcs.length ≤ 8) (heach : ∀ f ∈ k.funcs, (functionP f).2 = false ∧ anyImpure f.body = false ∧ overF f = false) (hn : (k.funcs.map nodesF).sum ≤ 700)
  (hov : overSL k.body 1 = false) (hgood : (bodyP [32, 32] k.body).2 = false) (hno : nodesSL k.body ≤ 1200) : validP k = true := by
 have h1 : overK k = false := by
  have h4 : k.funcs.any overF = false := List.any_eq_false.2 fun f hf => by simp [(heach f hf).2.2]
  have h5 : decide (8 < k.arrays.length) = false := by rw [h.arrays]; rfl
  have h6 : decide (8 < k.params.length) = false := by rw [h.params]; rfl
  have h7 : decide (8 < k.funcs.length) = false := by simp; omega
  simp [overK, hov, h4, h5, h6, h7]
 have h2 : wn (nodesK k) ≤ 2000 := by
  have : nodesK k ≤ 1900 := by unfold nodesK; omega
  rw [wn, yy (by omega) (by omega)]; omega
 have h3 : (kernelP k).2 = false := by
  have h5 : ((k.funcs.flatMap funPs).any (·.2)) = false := by
   rw [List.any_flatMap, List.any_eq_false]
   intro f hf
   simp [funPs, (heach f hf).2.1, (heach f hf).1]
  have h6 : (k.arrays.flatMap arrPs).any (·.2) = false := by
   rw [h.arrays]
   decide +kernel
  have h7 : (k.params.flatMap parPs).any (·.2) = false := by
   rw [h.params]
   decide +kernel
  have h8 : isNameP k.name = true := by
   rw [h.name]
   decide +kernel
  simp only [kernelP, xm, textPs, List.any_cons, List.any_append, h5, h6, h7, h8, endPs]
  simp [blockP, cat, hgood]
 simp [validP, withinP, h1, h2, h3]
theorem Near.numbers {k : Ke} (h : Near bs k) : numbersP k = true := by
 have h1 : k.arrays.all lenP = true := by
  rw [h.arrays]
  decide +kernel
 simp only [numbersP, h1, Bool.and_true, h.group, h.sub]
 exact num_ok bs
theorem Near.ok {k : Ke} (h : Near bs k) (hf : ∀ f ∈ k.funcs, Sm.okL f.body ∧ f.ret.ok) (hb : Sm.okL k.body) : k.ok := by
 have hn := num_ok bs
 simp only [numP, Bool.and_eq_true, decide_eq_true_eq] at hn
 exact ⟨by rw [h.group]; unfold i64ok; omega, by rw [h.sub]; unfold i64ok; omega, by rw [h.arrays]; simp [arrsM, i64ok], hf, hb⟩
theorem Near.len {k : Ke} (h : Near bs k) (hk : k.ok) (hf : (k.funcs.map fun f => (functionP f).1.length).sum ≤ 1000000) (hb : wSL k.body 2 ≤ 1000000) : (kernelP k).1.length ≤ 140737488355328 := by
 have := kern_len hk (by rw [h.name]; decide) h.arrays h.params hf hb
 omega
theorem scope0_zero {k : Ke} (hA : k.arrays = arrsM) : scope0 k 0 = arrs0 := by
 rw [scope0, hA]
 simp only [List.take_zero, funT, List.zipIdx_nil, List.map_nil, List.append_nil, arrs0_eq]
theorem qF_ok {k : Ke} (hA : k.arrays = arrsM) : FnOk k 0 qF := by
 have h0 := scope0_zero hA
 have hl : arrs0.lookup [113, 113, 56] = none := by decide +kernel
 have hd : declL arrs0 true (parT qF.params) = (arrs0 ++ [([113, 113, 56], ⟨2, 1, 0⟩)], true) := by simp [qF, parT, declL, declP, hl]
 have g : GE k (arrs0 ++ [([113, 113, 56], ⟨2, 1, 0⟩)]) 1 1 92 0 (varX [113, 113, 56]) := ge_var (.inl rfl) (wt hl) (by decide +kernel)
 refine ⟨?_, by decide +kernel, rfl, by decide +kernel, by decide +kernel, by simp [qF, Sm.okL], g.ok, by decide +kernel, by simp [qF, declsL]⟩
 rw [functionT, h0, hd]
 have : qF.ret = varX [113, 113, 56] := rfl
 rw [this]
 simp [qF, listT, asT_ge g]
theorem badF_no {k : Ke} (hA : k.arrays = arrsM) {kd : Int} (hk : kd = 10 ∨ kd = 9 ∨ kd = 7) : functionT k 0 (badF kd) = 31 := by
 have h0 := scope0_zero hA
 have hl : arrs0.lookup [113, 113, 56] = none := by decide +kernel
 have hd : declL arrs0 true (parT (badF kd).params) = (arrs0 ++ [([113, 113, 56], ⟨2, 1, 0⟩)], true) := by simp [badF, qF, parT, declL, declP, hl]
 rw [functionT, h0, hd]
 rcases hk with rfl | rfl | rfl <;> simp [badF, qF, listT, stmtT]
def moreF (bs : List UInt8) : Ke := { madeM bs with funcs := qF :: (madeM bs).funcs }
def wrongF (bs : List UInt8) (kd : Int) : Ke := { madeM bs with funcs := badF kd :: (madeM bs).funcs }
theorem near_funcs (bs : List UInt8) (l : List Fu) : Near bs { madeM bs with funcs := l } := ⟨rfl, rfl, rfl, rfl, rfl⟩
structure MoreOk (bs : List UInt8) : Prop where
 glob : (globalsP (moreF bs)).2 = true
 find : (globalsP (moreF bs)).1.lookup [113, 113, 57] = some ⟨1, 1, 0⟩
 funs : funcsT (moreF bs) 0 (moreF bs).funcs 0 = 0
 each : ∀ f ∈ (moreF bs).funcs, (functionP f).2 = false ∧ anyImpure f.body = false ∧ overF f = false ∧ nodesF f ≤ 300 ∧ Sm.okL f.body ∧ f.ret.ok ∧ (functionP f).1.length ≤ 100000
 few : (moreF bs).funcs.length ≤ 2
 body : ∃ sc', GL (moreF bs) (globalsP (moreF bs)).1 sc' false 0 15 2 (madeM bs).body
theorem FnOk.part {k : Ke} {n : Nat} {f : Fu} (h : FnOk k n f) : (functionP f).2 = false ∧ anyImpure f.body = false ∧ overF f = false ∧ nodesF f ≤ 300 ∧ Sm.okL f.body ∧ f.ret.ok ∧ (functionP f).1.length ≤ 100000 := ⟨h.good, h.pure, h.over, h.nodes, h.okb, h.okr, h.len⟩
theorem more_ok (bs : List UInt8) : MoreOk bs := by
 have hb : (madeM bs).body = bodyM bs (headM bs (qM bs)).2 := rfl
 have hq := qF_ok (k := moreF bs) rfl
 have hfun : (moreF bs).funcs = qF :: (headM bs (qM bs)).1 := rfl
 have hl0 : glob0.lookup [113, 113, 57] = none := by decide +kernel
 have hv : ∀ c, c < 20 → vT c ≠ [113, 113, 57] := vT_q
 have hg : Glob (glob0 ++ [([113, 113, 57], ⟨1, 1, 0⟩)]) := Glob.zero.add hv fun _ => rfl
 rcases head_cases bs with ⟨h1, h2, h3⟩ | ⟨f, h1, hn, hp, ht, h2, h3, h4⟩
 ·rw [h1] at hfun
  have hG : globalsP (moreF bs) = (glob0 ++ [([113, 113, 57], ⟨1, 1, 0⟩)], true) := by
   rw [globalsP, hfun, vc]
   have : declL [] true (arrT (moreF bs).arrays ++ parT (moreF bs).params) = (glob0, true) := glob0_eq
   rw [this]
   simp [funT, declL, declP, qF, hl0]
  refine ⟨by rw [hG], by rw [hG]; exact wt hl0, by rw [hfun]; simp [funcsT, hq.typ], by rw [hfun]; simpa using hq.part, by rw [hfun]; simp, ?_⟩
  rw [hG, hb]
  obtain ⟨sc', g, _⟩ := bodyM_ok (bs := bs) (k := moreF bs) (s := (headM bs (qM bs)).2) rfl hg h3 (by rw [h2]; simp)
  exact ⟨sc', g⟩
 ·rw [h1] at hfun
  have hlh : (glob0 ++ [([113, 113, 57], ⟨1, 1, 0⟩)] : Scope).lookup [104] = none := by decide +kernel
  have hvh : ∀ c, c < 20 → vT c ≠ [104] := by decide +kernel
  have hG : globalsP (moreF bs) = (glob0 ++ [([113, 113, 57], ⟨1, 1, 0⟩)] ++ [([104], ⟨1, 1, 1⟩)], true) := by
   rw [globalsP, hfun, vc]
   have : declL [] true (arrT (moreF bs).arrays ++ parT (moreF bs).params) = (glob0, true) := glob0_eq
   rw [this]
   simp [funT, declL, declP, qF, hl0, hn, ht, hlh]
  have hS : scope0 (moreF bs) 1 = arrs0 ++ [([113, 113, 57], ⟨1, 1, 0⟩)] := by
   rw [scope0, hfun, vc]
   have h5 : declL [] true (arrT (moreF bs).arrays) = (arrs0, true) := arrs0_eq
   have h6 : arrs0.lookup [113, 113, 57] = none := by decide +kernel
   rw [h5]
   simp [funT, declL, declP, qF, h6]
  have hf : FnOk (moreF bs) 1 f := h4 _ 1 (by rw [hS]; exact Bare.arrs.add hv fun _ => rfl) (by rw [hS]; decide +kernel) (by rw [hS]; decide +kernel)
  refine ⟨by rw [hG], by rw [hG]; exact yi (wt hl0), by rw [hfun]; simp [funcsT, hq.typ, hf.typ], by rw [hfun]; simpa using ⟨hq.part, hf.part⟩, by rw [hfun]; simp, ?_⟩
  rw [hG, hb]
  obtain ⟨sc', g, _⟩ := bodyM_ok (bs := bs) (k := moreF bs) (s := (headM bs (qM bs)).2) rfl (hg.add hvh (fun h => absurd h (by decide))) h3 fun _ => ⟨1, f, wt hlh, by rw [hfun]; rfl, by rw [hp]; rfl, ht⟩
  exact ⟨sc', g⟩
end
end
section
def callQ : Ex := callX [113, 113, 57] [numX 1 3]
def callN : Ex := callX [113, 113, 57] []
section
variable {bs : List UInt8}
theorem sum_two {α : Type} (g : α → Nat) (B : Nat) : ∀ l : List α, l.length ≤ 2 → (∀ x ∈ l, g x ≤ B) → (l.map g).sum ≤ 2 * B
 | [], _, _ => by simp
 | [a], _, h => by have := h a (by simp); simp; omega
 | [a, b], _, h => by have := h a (by simp); have := h b (by simp); simp; omega
 | _ :: _ :: _ :: _, h, _ => by simp at h
theorem moreF_near (bs : List UInt8) : Near bs (moreF bs) := near_funcs bs _
theorem moreF_valid (bs : List UInt8) {k : Ke} (h : Near bs k) (hf : k.funcs = (moreF bs).funcs) (hov : overSL k.body 1 = false) (hgood : (bodyP [32, 32] k.body).2 = false) (hno : nodesSL k.body ≤ 1200) : validP k = true := by
 have hm := more_ok bs
 refine h.valid (by rw [hf]; have := hm.few; omega) (fun f hfm => ?_) ?_ hov hgood hno
 ·rw [hf] at hfm; have := hm.each f hfm; exact ⟨this.1, this.2.1, this.2.2.1⟩
 ·rw [hf]; have := sum_two nodesF 300 _ hm.few fun f hfm => (hm.each f hfm).2.2.2.1; omega
theorem moreF_ok (bs : List UInt8) {k : Ke} (h : Near bs k) (hf : k.funcs = (moreF bs).funcs) (hb : Sm.okL k.body) (hw : wSL k.body 2 ≤ 1000000) : k.ok ∧ (kernelP k).1.length ≤ 140737488355328 := by
 have hm := more_ok bs
 have hk : k.ok := h.ok (fun f hfm => by rw [hf] at hfm; have := hm.each f hfm; exact ⟨this.2.2.2.2.1, this.2.2.2.2.2.1⟩) hb
 refine ⟨hk, h.len hk ?_ hw⟩
 rw [hf]
 have := sum_two (fun f => (functionP f).1.length) 100000 _ hm.few fun f hfm => (hm.each f hfm).2.2.2.2.2.2
 omega
theorem moreF_check (bs : List UInt8) : checkP (moreF bs) = 0 ∧ (moreF bs).ok ∧ (kernelP (moreF bs)).1.length ≤ 140737488355328 := by
 have hm := more_ok bs
 obtain ⟨sc', g⟩ := hm.body
 have hn := g.co.nodes
 have hw := g.co.w 2 (by omega)
 have hv := moreF_valid bs (moreF_near bs) rfl (g.co.over 1 (by omega) (by omega)) (g.good _) (by show nodesSL (madeM bs).body ≤ 1200; omega)
 have ho := moreF_ok bs (moreF_near bs) rfl g.co.ok (by show wSL (madeM bs).body 2 ≤ 1000000; omega)
 refine ⟨?_, ho.1, ho.2⟩
 have hG : globE (moreF bs) = 0 := by simp [globE, hm.glob]
 have ht : (listT (moreF bs) false (moreF bs).body 0 (globalsP (moreF bs)).1).2 = 0 := by
  show (listT (moreF bs) false (madeM bs).body 0 (globalsP (moreF bs)).1).2 = 0
  rw [g.typ]
 simp [checkP, hv, (moreF_near bs).numbers, hG, hm.funs, ht]
theorem callQ_ok : callQ.ok := by simp [callQ, callX, numX, Ex.ok, Ex.okL]
theorem callN_ok : callN.ok := by simp [callN, callX, Ex.ok, Ex.okL]
theorem ifK_more (bs : List UInt8) {e : Ex} (he : e = callQ ∨ e = callN) : validP (ifK (moreF bs) e) = true ∧ (kernelP (ifK (moreF bs) e)).1.length ≤ 140737488355328 := by
 have h : Near bs (ifK (moreF bs) e) := ⟨rfl, rfl, rfl, rfl, rfl⟩
 have hb : (ifK (moreF bs) e).body = [.mk 5 0 0 0 [] e Ex.zero [] []] := rfl
 rcases he with rfl | rfl
 ·refine ⟨moreF_valid bs h rfl (by rw [hb]; decide +kernel) (by rw [hb]; decide +kernel) (by rw [hb]; decide +kernel), (moreF_ok bs h rfl (by rw [hb]; simp [Sm.okL, Sm.ok, callQ_ok, Ex.zero, Ex.ok, Ex.okL]) (by rw [hb]; decide +kernel)).2⟩
 ·refine ⟨moreF_valid bs h rfl (by rw [hb]; decide +kernel) (by rw [hb]; decide +kernel) (by rw [hb]; decide +kernel), (moreF_ok bs h rfl (by rw [hb]; simp [Sm.okL, Sm.ok, callN_ok, Ex.zero, Ex.ok, Ex.okL]) (by rw [hb]; decide +kernel)).2⟩
theorem typeQ (bs : List UInt8) : typeOfP (moreF bs) [] callQ = (1, 0) := by
 have hm := more_ok bs
 have hf : findP (globalsP (moreF bs)).1 [113, 113, 57] [1] = some ⟨1, 1, 0⟩ := by simp [findP, hm.find]
 have h0 : (moreF bs).funcs[0]? = some qF := rfl
 have he : exprT (moreF bs) (globalsP (moreF bs)).1 callQ = (1, 0) := by
  simp only [callQ, callX, numX, exprT, allT, nodeT, comb]
  simp [hf, h0, callT, qF]
 simp [typeOfP, (moreF_check bs).1, (ifK_more bs (.inl rfl)).1, varsT, he]
theorem typeN (bs : List UInt8) : typeOfP (moreF bs) [] callN = (0, 31) := by
 have hm := more_ok bs
 have hf : findP (globalsP (moreF bs)).1 [113, 113, 57] [1] = some ⟨1, 1, 0⟩ := by simp [findP, hm.find]
 have h0 : (moreF bs).funcs[0]? = some qF := rfl
 have he : exprT (moreF bs) (globalsP (moreF bs)).1 callN = (0, 31) := by
  simp only [callN, callX, exprT, allT, nodeT]
  simp [hf, h0, callT, qF]
 simp [typeOfP, (moreF_check bs).1, (ifK_more bs (.inr rfl)).1, varsT, he]
theorem ifK_made (bs : List UInt8) : validP (ifK (madeM bs) callQ) = true ∧ (kernelP (ifK (madeM bs) callQ)).1.length ≤ 140737488355328 := by
 have hm := ul bs
 have h : Near bs (ifK (madeM bs) callQ) := ⟨rfl, rfl, rfl, rfl, rfl⟩
 have hb : (ifK (madeM bs) callQ).body = [.mk 5 0 0 0 [] callQ Ex.zero [] []] := rfl
 have hk : (ifK (madeM bs) callQ).ok := h.ok (fun f hf => ⟨(hm.each f hf).okb, (hm.each f hf).okr⟩) (by rw [hb]; simp [Sm.okL, Sm.ok, callQ_ok, Ex.zero, Ex.ok, Ex.okL])
 refine ⟨h.valid (by have := hm.few; show (madeM bs).funcs.length ≤ 8; omega) (fun f hf => ⟨(hm.each f hf).good, (hm.each f hf).pure, (hm.each f hf).over⟩) (by have := funs_nodes hm; show ((madeM bs).funcs.map nodesF).sum ≤ 700; omega)
  (by rw [hb]; decide +kernel) (by rw [hb]; decide +kernel) (by rw [hb]; decide +kernel), h.len hk (by have := funs_len hm; show ((madeM bs).funcs.map fun f => (functionP f).1.length).sum ≤ 1000000; omega) (by rw [hb]; decide +kernel)⟩
theorem typeM (bs : List UInt8) : typeOfP (madeM bs) [] callQ = (0, 30) := by
 have hl : ∀ t, (globalsP (madeM bs)).1.lookup [113, 113, 57] = some t → False := by
  intro t ht
  have h0 : globalsP (madeM bs) = declL (glob0) true (funT (headM bs (qM bs)).1) := by
   rw [globalsP, vc]
   have : declL [] true (arrT (madeM bs).arrays ++ parT (madeM bs).params) = (glob0, true) := glob0_eq
   rw [this]
   rfl
  rw [h0] at ht
  rcases head_cases bs with ⟨h1, _⟩ | ⟨f, h1, hn, _, hty, _⟩
  ·rw [h1] at ht
   have : glob0.lookup [113, 113, 57] = none := by decide +kernel
   simp [funT, declL, this] at ht
  ·rw [h1] at ht
   have h2 : glob0.lookup [104] = none := by decide +kernel
   have h3 : (glob0 ++ [([104], ⟨1, 1, 0⟩)] : Scope).lookup [113, 113, 57] = none := by decide +kernel
   simp [funT, declL, declP, hn, hty, h2, h3] at ht
 have hf : findP (globalsP (madeM bs)).1 [113, 113, 57] [1] = none := by
  unfold findP
  split
  ·rename_i t ht; exact (hl t ht).elim
  ·rfl
 have he : exprT (madeM bs) (globalsP (madeM bs)).1 callQ = (0, 30) := by
  simp only [callQ, callX, numX, exprT, allT, nodeT, comb]
  simp [hf]
 simp [typeOfP, made_check, (ifK_made bs).1, varsT, he]
theorem funcsT_no (k : Ke) : ∀ (l : List Fu) (n : Nat) (e : Int), e ≠ 0 → funcsT k n l e ≠ 0
 | [], n, e, h => h
 | f :: l, n, e, h => by simp only [funcsT, if_neg h]; exact funcsT_no k l _ _ h
theorem wrongF_check (bs : List UInt8) {kd : Int} (hk : kd = 10 ∨ kd = 9 ∨ kd = 7) : checkP (wrongF bs kd) ≠ 0 ∧ (wrongF bs kd).ok ∧ (kernelP (wrongF bs kd)).1.length ≤ 140737488355328 := by
 have h : Near bs (wrongF bs kd) := near_funcs bs _
 have hm := ul bs
 obtain ⟨sc', g, _⟩ := hm.body
 have hw := g.co.w 2 (by omega)
 have hfs : (wrongF bs kd).funcs = badF kd :: (madeM bs).funcs := rfl
 have hko : (wrongF bs kd).ok := by
  refine h.ok (fun f hf => ?_) g.co.ok
  rw [hfs] at hf
  rcases List.mem_cons.1 hf with rfl | hf
  ·simp [badF, qF, varX, Sm.okL, Sm.ok, zE, Ex.ok, Ex.okL]
  ·exact ⟨(hm.each f hf).okb, (hm.each f hf).okr⟩
 refine ⟨?_, hko, h.len hko ?_ (by show wSL (madeM bs).body 2 ≤ 1000000; omega)⟩
 ·unfold checkP
  split
  ·decide
  ·have hz : funcsT (wrongF bs kd) 0 (wrongF bs kd).funcs (globE (wrongF bs kd)) ≠ 0 := by
    rw [hfs]
    simp only [funcsT]
    refine funcsT_no _ _ _ _ ?_
    split
    ·rw [badF_no rfl hk]; decide
    ·assumption
   rw [if_neg hz]
   exact hz
 ·rw [hfs]
  have h1 := funs_len hm
  have h2 : (functionP (badF kd)).1.length ≤ 100000 := by rcases hk with rfl | rfl | rfl <;> decide +kernel
  simp only [List.map_cons, List.sum_cons]
  omega
end
end
section
variable {w0 : World} {base : Nat}
def qCells : List AV := [.str [113, 113, 57], .sl [.str [113, 113, 56], vi 1] 1 .no, vi 1, .sl [] 0 .no, vi 2, vi 0, vi 0, .str [113, 113, 56], .int .i32 0, .sl [] 0 .no]
def bCells (kd : Int) : List AV := [.str [113, 113, 57], .sl [.str [113, 113, 56], vi 1] 1 .no, vi 1, .sl [vi kd, vi 0, vi 0, vi 0, .str [], vi 0, vi 0, vi 0, .str [], .int .i32 0, .sl [] 0 .no, vi 0, vi 0, vi 0, .str [], .int .i32 0, .sl [] 0 .no, .sl [] 0 .no, .sl [] 0 .no] 1 .no, vi 2, vi 0, vi 0, .str [113, 113, 56], .int .i32 0, .sl [] 0 .no]
theorem qF_cells : qF.cells = qCells := by simp [qF, qCells, Fu.cells, rowOf, Pa.cells, Sm.cellsL, varX, Ex.cells, Ex.cellsL]
theorem bF_cells (kd : Int) : (badF kd).cells = bCells kd := by simp [badF, qF, bCells, Fu.cells, rowOf, Pa.cells, Sm.cellsL, Sm.cells, zE, varX, Ex.cells, Ex.cellsL]
theorem kind_at : ∀ m : Nat, m < 3 → (([10, 9, 7] : List Int)[m]?.getD 0 = 10 ∨ ([10, 9, 7] : List Int)[m]?.getD 0 = 9 ∨ ([10, 9, 7] : List Int)[m]?.getD 0 = 7) := by decide
theorem d9 (hT : Tabs w0 base) (st : St) (bs : List UInt8) (n : Int) (h0 : 0 ≤ n) (h1 : n ≤ 255) : Det Tryz.prog w0 base 9 [.agg [bytesV bs], .int .u8 n] st (.bool true) st := by
 refine zh (zp Tryz.func9 r9) fun hwf hfit => z6 Tryz.func9 r9 rfl ?_
 clear hfit
 have hn0 := zj hwf
 have hn := zf hwf
 obtain ⟨m, hm⟩ : ∃ m : Nat, n % 3 = m := ⟨(n % 3).toNat, by omega⟩
 have hm3 : m < 3 := by omega
 have htm : n.tmod 3 = m := by rw [Int.tmod_eq_emod_of_nonneg h0, hm]
 have hkd := kind_at m hm3
 obtain ⟨c1, o1, l1⟩ := moreF_check bs
 obtain ⟨c2, o2, l2⟩ := wrongF_check bs hkd
 have k1 := fun st => d14 (w0 := w0) (base := base) hT st (moreF bs) o1 l1
 have k2 := fun st => d14 (w0 := w0) (base := base) hT st (wrongF bs (([10, 9, 7] : List Int)[m]?.getD 0)) o2 l2
 have k3 := fun st => d17 (w0 := w0) (base := base) hT st (moreF bs) [] callQ o1 l1 callQ_ok (ifK_more bs (.inl rfl)).2
 have k4 := fun st => d17 (w0 := w0) (base := base) hT st (moreF bs) [] callN o1 l1 callN_ok (ifK_more bs (.inr rfl)).2
 have k5 := fun st => d17 (w0 := w0) (base := base) hT st (madeM bs) [] callQ (made_kok bs) (made_len bs) callQ_ok (ifK_made bs).2
 rw [c1] at k1
 rw [typeQ] at k3
 rw [typeN] at k4
 rw [typeM] at k5
 have bca := xb Ar.cells Ar.bare_cells (madeM bs).arrays
 have bcp := xb Pa.cells Pa.bare_cells (madeM bs).params
 have bcf := xb Fu.cells Fu.bare_cells (madeM bs).funcs
 have bcb : AV.bareL (Sm.cellsL (madeM bs).body) = Sm.cellsL (madeM bs).body := Sm.bare_cellsL _
 have kp : (moreF bs).cells = [.str (madeM bs).name, vi (madeM bs).group, vi (madeM bs).sub, .sl (rowOf Ar.cells (madeM bs).arrays) (madeM bs).arrays.length .no, .sl (rowOf Pa.cells (madeM bs).params) (madeM bs).params.length .no, .sl (qCells ++ rowOf Fu.cells (madeM bs).funcs) ((madeM bs).funcs.length + 1) .no, .sl (Sm.cellsL (madeM bs).body) (madeM bs).body.length .no] := by
  simp [moreF, Ke.cells, xj, qF_cells]
 have ko : (wrongF bs (([10, 9, 7] : List Int)[m]?.getD 0)).cells = [.str (madeM bs).name, vi (madeM bs).group, vi (madeM bs).sub, .sl (rowOf Ar.cells (madeM bs).arrays) (madeM bs).arrays.length .no, .sl (rowOf Pa.cells (madeM bs).params) (madeM bs).params.length .no, .sl (bCells (([10, 9, 7] : List Int)[m]?.getD 0) ++ rowOf Fu.cells (madeM bs).funcs) ((madeM bs).funcs.length + 1) .no, .sl (Sm.cellsL (madeM bs).body) (madeM bs).body.length .no] := by
  simp only [wrongF, Ke.cells, xj, bF_cells, List.length_cons]
 have kc : (madeM bs).cells = [.str (madeM bs).name, vi (madeM bs).group, vi (madeM bs).sub, .sl (rowOf Ar.cells (madeM bs).arrays) (madeM bs).arrays.length .no, .sl (rowOf Pa.cells (madeM bs).params) (madeM bs).params.length .no, .sl (rowOf Fu.cells (madeM bs).funcs) (madeM bs).funcs.length .no, .sl (Sm.cellsL (madeM bs).body) (madeM bs).body.length .no] := rfl
 have hm12 := fun st => d12 (w0 := w0) (base := base) st bs
 rw [kc] at hm12 k5
 rw [kp] at k1 k3 k4
 rw [ko] at k2
 have hfew := (ul bs).few
 have hfl : (rowOf Fu.cells (madeM bs).funcs).length = (madeM bs).funcs.length * 10 := x5 Fu.cells_len _
 have hgg : ∀ h, ([vi 10, vi 9, vi 7] : List AV)[m]'h = (vi (([10, 9, 7] : List Int)[m]?.getD 0)) := fun hy => vx [10, 9, 7] m hy
 generalize checkP (wrongF bs (([10, 9, 7] : List Int)[m]?.getD 0)) = co at *
 generalize ([10, 9, 7] : List Int)[m]?.getD 0 = kd at *
 clear o1 l1 o2 l2 kp ko kc c1
 have hcz : (co == 0) = false := by simpa using c2
 have hcn : (co != 0) = true := by simpa using c2
 generalize madeM bs = K at *
 generalize rowOf Ar.cells K.arrays = ca at *
 generalize rowOf Pa.cells K.params = cp at *
 generalize rowOf Fu.cells K.funcs = cf at *
 generalize Sm.cellsL K.body = cb at *
 unfold b9
 simp -dsimp -implicitDefEqProofs [hn0, hn, zz, bytesV]
 refine zt (d11 hT _) ?_
 simp -dsimp -implicitDefEqProofs [hn0, hn, zz]
 refine zt (hm12 _) ?_
 have hf8 : ¬ (8 : Int) ≤ (K.funcs.length : Int) := by omega
 have hm3i : (m : Int) < 3 := by omega
 have q1 : (1 + K.funcs.length) * 144 ≤ big := by unfold big; omega
 have q2 : 1 + K.funcs.length ≤ big := by unfold big; omega
 have q3 : K.funcs.length + 1 = 1 + K.funcs.length := by omega
 rw [q3] at k1 k2 k3 k4
 simp -dsimp -implicitDefEqProofs [hn0, hn, zz, hf8]
 refine zt (d25 _ _) ?_
 simp -dsimp -implicitDefEqProofs [hn0, hn, zz, hf8, nameAV]
 refine zt (d19 _ _) ?_
 by_cases hz : K.funcs = []
 ·have hz0 : K.funcs.length = 0 := by rw [hz]; rfl
  have hcf : cf = [] := List.eq_nil_of_length_eq_zero (by omega)
  subst hcf
  rw [hz0] at k1 k2 k3 k4 k5
  simp -dsimp -implicitDefEqProofs [hn0, hn, zz, hf8, numAV, hfl, hz]
  refine zo (k1 _) (by simp [AV.bareL, AV.bare, zm, bca, bcp, bcf, bcb, qCells]) ?_
  simp -dsimp -implicitDefEqProofs [hn0, hn, zz]
  refine zo (k3 _) (by simp [AV.bareL, AV.bare, zm, bca, bcp, bcf, bcb, qCells, bCells, callQ, callN, callX, numX, Ex.cells, Ex.cellsL, rowOf]) ?_
  simp -dsimp -implicitDefEqProofs [hn0, hn, zz, tup]
  refine zo (k4 _) (by simp [AV.bareL, AV.bare, zm, bca, bcp, bcf, bcb, qCells, bCells, callQ, callN, callX, numX, Ex.cells, Ex.cellsL, rowOf]) ?_
  simp -dsimp -implicitDefEqProofs [hn0, hn, zz, tup]
  refine zo (k5 _) (by simp [AV.bareL, AV.bare, zm, bca, bcp, bcf, bcb, qCells, bCells, callQ, callN, callX, numX, Ex.cells, Ex.cellsL, rowOf]) ?_
  simp -dsimp -implicitDefEqProofs [hn0, hn, zz, tup, htm, hgg, hm3, hm3i, hfl, hz, q1, q2, loadA]
  refine zo (k1 _) (by simp [AV.bareL, AV.bare, zm, bca, bcp, bcf, bcb, qCells, bCells, callQ, callN, callX, numX, Ex.cells, Ex.cellsL, rowOf]) ?_
  simp -dsimp -implicitDefEqProofs [hn0, hn, zz]
  refine zo (k2 _) (by simp [AV.bareL, AV.bare, zm, bca, bcp, bcf, bcb, qCells, bCells, callQ, callN, callX, numX, Ex.cells, Ex.cellsL, rowOf]) ?_
  simp -dsimp -implicitDefEqProofs [hn0, hn, zz, hcz, hcn]
  refine zg hwf (fun p hp => ?_) (by simp [eraseA])
  have g1 : p ≠ st.next + 18 := by omega
  have g2 : p ≠ st.next + 29 := by omega
  have g3 : p ≠ st.next + 35 := by omega
  have g4 : p ≠ st.next + 75 := by omega
  have g5 : p ≠ st.next + 81 := by omega
  simp [g1, g2, g3, g4, g5]
 ·simp -dsimp -implicitDefEqProofs [hn0, hn, zz, hf8, numAV, hfl, hz, q1, q2]
  refine zo (k1 _) (by simp [AV.bareL, AV.bare, zm, bca, bcp, bcf, bcb, qCells]) ?_
  simp -dsimp -implicitDefEqProofs [hn0, hn, zz]
  refine zo (k3 _) (by simp [AV.bareL, AV.bare, zm, bca, bcp, bcf, bcb, qCells, bCells, callQ, callN, callX, numX, Ex.cells, Ex.cellsL, rowOf]) ?_
  simp -dsimp -implicitDefEqProofs [hn0, hn, zz, tup]
  refine zo (k4 _) (by simp [AV.bareL, AV.bare, zm, bca, bcp, bcf, bcb, qCells, bCells, callQ, callN, callX, numX, Ex.cells, Ex.cellsL, rowOf]) ?_
  simp -dsimp -implicitDefEqProofs [hn0, hn, zz, tup]
  refine zo (k5 _) (by simp [AV.bareL, AV.bare, zm, bca, bcp, bcf, bcb, qCells, bCells, callQ, callN, callX, numX, Ex.cells, Ex.cellsL, rowOf]) ?_
  simp -dsimp -implicitDefEqProofs [hn0, hn, zz, tup, htm, hgg, hm3, hm3i, hfl, hz, q1, q2, loadA]
  refine zo (k1 _) (by simp [AV.bareL, AV.bare, zm, bca, bcp, bcf, bcb, qCells, bCells, callQ, callN, callX, numX, Ex.cells, Ex.cellsL, rowOf]) ?_
  simp -dsimp -implicitDefEqProofs [hn0, hn, zz]
  refine zo (k2 _) (by simp [AV.bareL, AV.bare, zm, bca, bcp, bcf, bcb, qCells, bCells, callQ, callN, callX, numX, Ex.cells, Ex.cellsL, rowOf]) ?_
  simp -dsimp -implicitDefEqProofs [hn0, hn, zz, hcz, hcn]
  refine zg hwf (fun p hp => ?_) (by simp [eraseA])
  have g1 : p ≠ st.next + 18 := by omega
  have g2 : p ≠ st.next + 29 := by omega
  have g3 : p ≠ st.next + 35 := by omega
  have g4 : p ≠ st.next + 75 := by omega
  have g5 : p ≠ st.next + 81 := by omega
  simp [g1, g2, g3, g4, g5]
end
end Go.Proofs.YthaekebedmoipaaGreatDoor.AM
