/- Part 13 of the proof: G25 G26. -/
import Derived.Test.YthaekebedmoipaaGreatDoorJ12
/- The law TypesOperators: what is asked. -/
set_option linter.unusedVariables false
set_option linter.unusedSimpArgs false
set_option maxRecDepth 100000
namespace Go.Proofs.YthaekebedmoipaaGreatDoor.AM
open Go Go.RowKit
variable {w0 : World} {base : Nat}

def numT (t : Nat) : Ex := .mk 1 0 (1 + t) [] 1 []
def unE (u t : Nat) : Ex := .mk 4 (1 + u) 0 [] 0 [numT t]
def binE (o t r : Nat) : Ex := .mk 5 (10 + o) 0 [] 0 [numT t, numT r]
def condE (t r q : Nat) : Ex := .mk 6 0 0 [] 0 [numT t, numT r, numT q]
def lenOk (e : Ex) : Bool := Nat.ble (kernelP (ifK (smallK []) e)).1.length 100000
def un1 (u t : Nat) : Bool := typeOfP (smallK []) [] (unE u t) == unTypeP (1 + u) (1 + t) && lenOk (unE u t)
def bin1 (o t r : Nat) : Bool := typeOfP (smallK []) [] (binE o t r) == binTypeP (10 + o) (1 + t) (1 + r) && lenOk (binE o t r)
def cond1 (t r q : Nat) : Bool := typeOfP (smallK []) [] (condE t r q) == (if t = 2 ∧ r = q then (((1 + r : Nat) : Int), 0) else (0, 31)) && lenOk (condE t r q)
def unAll : Bool := (List.range 5).all fun u => (List.range 3).all fun t => un1 u t
def binAll : Bool := (List.range 20).all fun o => (List.range 3).all fun t => (List.range 3).all fun r => bin1 o t r
def condAll : Bool := (List.range 3).all fun t => (List.range 3).all fun r => (List.range 3).all fun q => cond1 t r q
theorem un_all : unAll = true := by kernel_rfl
theorem bin_all : binAll = true := by kernel_rfl
theorem cond_all : condAll = true := by kernel_rfl
theorem numT_ok (t : Nat) : (numT t).ok := by simp [numT, Ex.ok, Ex.okL]
theorem small_nil_ok : (smallK []).ok := okSmall (by simp [Sm.okL])
theorem kl0 : (kernelP (smallK [])).1.length ≤ 140737488355328 := by decide +kernel
theorem k17 (hT : Tabs w0 base) (st : St) (e : Ex) (he : e.ok) (hl : lenOk e = true) {r : Int × Int} (hr : typeOfP (smallK []) [] e = r) :
    Det Tryz.prog w0 base 17 [.agg (smallK []).cells, .sl [] 0 .no, .agg e.cells] st (tup r) st := by
  have h := Nat.le_of_ble_eq_true hl
  have := d17 hT st (smallK []) [] e small_nil_ok kl0 he (by omega)
  rw [hr] at this
  exact this
theorem k17un (hT : Tabs w0 base) (st : St) {u t : Nat} (hu : u < 5) (ht : t < 3) : Det Tryz.prog w0 base 17 [.agg (smallK []).cells, .sl [] 0 .no, .agg (unE u t).cells] st (tup (unTypeP (1 + u) (1 + t))) st := by
  have h := un_all
  simp only [unAll, List.all_eq_true, List.mem_range, un1, Bool.and_eq_true, beq_iff_eq] at h
  obtain ⟨h1, h2⟩ := h u hu t ht
  exact k17 hT st _ (by simp [unE, numT, Ex.ok, Ex.okL]) h2 h1
theorem k17bin (hT : Tabs w0 base) (st : St) {o t r : Nat} (ho : o < 20) (ht : t < 3) (hr : r < 3) : Det Tryz.prog w0 base 17 [.agg (smallK []).cells, .sl [] 0 .no, .agg (binE o t r).cells] st (tup (binTypeP (10 + o) (1 + t) (1 + r))) st := by
  have h := bin_all
  simp only [binAll, List.all_eq_true, List.mem_range, bin1, Bool.and_eq_true, beq_iff_eq] at h
  obtain ⟨h1, h2⟩ := h o ho t ht r hr
  exact k17 hT st _ (by simp [binE, numT, Ex.ok, Ex.okL]) h2 h1
theorem k17cond (hT : Tabs w0 base) (st : St) {t r q : Nat} (ht : t < 3) (hr : r < 3) (hq : q < 3) : Det Tryz.prog w0 base 17 [.agg (smallK []).cells, .sl [] 0 .no, .agg (condE t r q).cells] st (tup (if t = 2 ∧ r = q then (((1 + r : Nat) : Int), 0) else (0, 31))) st := by
  have h := cond_all
  simp only [condAll, List.all_eq_true, List.mem_range, cond1, Bool.and_eq_true, beq_iff_eq] at h
  obtain ⟨h1, h2⟩ := h t ht r hr q hq
  exact k17 hT st _ (by simp [condE, numT, Ex.ok, Ex.okL]) h2 h1
end Go.Proofs.YthaekebedmoipaaGreatDoor.AM

/- The law TypesOperators (draft). -/
set_option linter.unusedVariables false
set_option linter.unusedSimpArgs false
set_option maxRecDepth 100000
namespace Go.Proofs.YthaekebedmoipaaGreatDoor.AM
open Go Go.RowKit
variable {w0 : World} {base : Nat}

def nC (t : Nat) : List AV := [vi 1, vi 0, vi (1 + t), .str [], .int .i32 1, .sl [] 0 .full]
/-- A list of expressions that grows behind a token. -/
structure Tip6 (st : St) (n q : Nat) (s : St) : Prop where
  le : st.next ≤ q
  lt : q < s.next
  old : ∀ p, p < st.next → s.objs p = st.objs p
  at_ : s.objs q = some (.tip 31 6 n)
  no : ∀ p, p ≠ q → st.next ≤ p → s.objs p = none
theorem Tip6.bump {st s : St} {n q : Nat} (h : Tip6 st n q s) (k : Nat) : Tip6 st n q (s.bump k) := ⟨h.le, Nat.lt_of_lt_of_le h.lt (Nat.le_add_right _ _), h.old, h.at_, h.no⟩
set_option maxHeartbeats 2000000 in
theorem d7 (hT : Tabs w0 base) (st : St) (op a b c : Int) (hop : 0 ≤ op) (hop2 : op ≤ 255) (ha : 0 ≤ a) (hb : 0 ≤ b) (hc : 0 ≤ c) : Det Tryz.prog w0 base 7 [.int .u8 op, .agg [.int .u8 a, .int .u8 b, .int .u8 c]] st (.bool true) st := by
  refine det_self (enters_fn Tryz.func7 r7) fun hwf hfit => det_fn Tryz.func7 r7 rfl ?_
  clear hfit
  have hn0 := wf_none0 hwf
  have hn := wf_none hwf
  obtain ⟨t0, ht0, hm0⟩ : ∃ t : Nat, t < 3 ∧ a.tmod 3 = t := ⟨(a % 3).toNat, by omega, by rw [Int.tmod_eq_emod_of_nonneg ha]; omega⟩
  obtain ⟨t1, ht1, hm1⟩ : ∃ t : Nat, t < 3 ∧ b.tmod 3 = t := ⟨(b % 3).toNat, by omega, by rw [Int.tmod_eq_emod_of_nonneg hb]; omega⟩
  obtain ⟨t2, ht2, hm2⟩ : ∃ t : Nat, t < 3 ∧ c.tmod 3 = t := ⟨(c % 3).toNat, by omega, by rw [Int.tmod_eq_emod_of_nonneg hc]; omega⟩
  obtain ⟨u, hu, hmu⟩ : ∃ t : Nat, t < 5 ∧ op.tmod 5 = t := ⟨(op % 5).toNat, by omega, by rw [Int.tmod_eq_emod_of_nonneg hop]; omega⟩
  obtain ⟨o, ho, hmo⟩ : ∃ t : Nat, t < 20 ∧ op.tmod 20 = t := ⟨(op % 20).toNat, by omega, by rw [Int.tmod_eq_emod_of_nonneg hop]; omega⟩
  have w : ∀ n : Nat, n < 300 → IntKind.i64.wrap (n : Int) = n ∧ IntKind.i64.wrap (1 + (n : Int)) = 1 + n ∧ IntKind.i64.wrap (10 + (n : Int)) = 10 + n := fun n h => ⟨wrap_of (by omega) (by omega), wrap_of (by omega) (by omega), wrap_of (by omega) (by omega)⟩
  have wop : IntKind.i64.wrap op = op := wrap_of (by omega) (by omega)
  unfold b7
  simp -dsimp -implicitDefEqProofs [hn0, hn, del_none]
  refine call_of (d11 hT _) ?_
  simp -dsimp -implicitDefEqProofs [hn0, hn, del_none]
  refine loop_by (fun n e s => (n = 3 ∧ e 7 = vi 0 ∧ e 6 = .sl [] 0 .full ∧ Akin st s) ∨ (n = 2 ∧ e 7 = vi 1 ∧ ∃ q, e 6 = .sl (nC t0) 1 (.tok q) ∧ Tip6 st 1 q s) ∨ (n = 1 ∧ e 7 = vi 2 ∧ ∃ q, e 6 = .sl (nC t0 ++ nC t1) 2 (.tok q) ∧ Tip6 st 2 q s) ∨ (n = 0 ∧ e 7 = vi 3 ∧ ∃ q, e 6 = .sl (nC t0 ++ (nC t1 ++ nC t2)) 3 (.tok q) ∧ Tip6 st 3 q s)) 3 (.inl ⟨rfl, by simp, by simp, Akin.refl _ _⟩) rfl ?_
  rintro n e s hf h
  have e3 : e 3 = .iptr [.int .u8 a, .int .u8 b, .int .u8 c] 0 := by rw [hf 3 rfl]; simp
  rcases h with ⟨rfl, e7, e6, hs⟩ | ⟨rfl, e7, q, e6, hs⟩ | ⟨rfl, e7, q, e6, hs⟩ | ⟨rfl, e7, q, e6, hs⟩
  · unfold l7_0
    simp -dsimp -implicitDefEqProofs [e3, e7, e6, hm0, w t0 (by omega)]
    rw [if_pos (by decide)]
    simp -dsimp -implicitDefEqProofs [e3, e7, e6, wrap_of]
    have hle := hs.le
    refine hold ⟨2, by omega, .inr (.inl ⟨rfl, by simp, s.next + 11, by simp [nC], ?_⟩)⟩
    refine ⟨by omega, by simp, fun p hp => ?_, by simp, fun p hp hp' => ?_⟩
    · have : p ≠ s.next + 11 := by omega
      simp [this, hs.objs]
    · simp [hp, hs.objs]
      exact none_from hwf hp'
  · unfold l7_0
    have hq := hs.at_
    have hle := hs.le
    simp only [nC] at e6
    simp -dsimp -implicitDefEqProofs [e3, e7, e6, hm1, w t1 (by omega), hq]
    rw [if_pos (by decide)]
    simp -dsimp -implicitDefEqProofs [e3, e7, e6, wrap_of, hq]
    refine hold ⟨1, by omega, .inr (.inr (.inl ⟨rfl, by simp, q, by simp [nC], ?_⟩))⟩
    refine ⟨by omega, by have := hs.lt; simp; omega, fun p hp => ?_, by simp, fun p hp hp' => ?_⟩
    · have : p ≠ q := by omega
      simp [this, hs.old p hp]
    · simp [hp, hs.no p hp hp']
  · unfold l7_0
    have hq := hs.at_
    have hle := hs.le
    simp only [nC, List.cons_append, List.nil_append] at e6
    simp -dsimp -implicitDefEqProofs [e3, e7, e6, hm2, w t2 (by omega), hq]
    rw [if_pos (by decide)]
    simp -dsimp -implicitDefEqProofs [e3, e7, e6, wrap_of, hq]
    refine hold ⟨0, by omega, .inr (.inr (.inr ⟨rfl, by simp, q, by simp [nC], ?_⟩))⟩
    refine ⟨by omega, by have := hs.lt; simp; omega, fun p hp => ?_, by simp, fun p hp hp' => ?_⟩
    · have : p ≠ q := by omega
      simp [this, hs.old p hp]
    · simp [hp, hs.no p hp hp']
  · unfold l7_0
    simp only [nC, List.cons_append, List.nil_append] at e6
    have e0 : e 0 = .int .u8 op := by rw [hf 0 rfl]; simp
    have e5 : e 5 = .bool true := by rw [hf 5 rfl]; simp
    have qq : ∀ k, s.objs (s.next + k) = none := fun k => hs.no _ (by have := hs.lt; omega) (by have := hs.lt; have := hs.le; omega)
    have q0 := qq 0
    simp only [Nat.add_zero] at q0
    simp -dsimp -implicitDefEqProofs [e3, e7, e6, e0, e5, q0, qq, del_none, smallAV, wop, hmu, hmo, w u (by omega), w o (by omega), tup]
    refine call_of (d22 _ _ _ (by simp [eraseL, eraseA]) _ (.inr rfl)) ?_
    simp -dsimp -implicitDefEqProofs [e3, e7, e6, e0, e5, q0, qq, del_none, smallAV, wop, hmu, hmo, w u (by omega), w o (by omega), tup]
    refine call_bare (k17un hT _ hu ht0) (by simp [AV.bareL, AV.bare, unE, binE, condE, numT, smallK, Ke.cells, rowOf, Ar.cells, Pa.cells, Sm.cellsL, Sm.cells, Ex.cells, Ex.cellsL, Ex.zero]) ?_
    simp -dsimp -implicitDefEqProofs [e3, e7, e6, e0, e5, q0, qq, del_none, smallAV, wop, hmu, hmo, w u (by omega), w o (by omega), tup]
    refine call_bare (k17bin hT _ ho ht0 ht1) (by simp [AV.bareL, AV.bare, unE, binE, condE, numT, smallK, Ke.cells, rowOf, Ar.cells, Pa.cells, Sm.cellsL, Sm.cells, Ex.cells, Ex.cellsL, Ex.zero]) ?_
    simp -dsimp -implicitDefEqProofs [e3, e7, e6, e0, e5, q0, qq, del_none, smallAV, wop, hmu, hmo, w u (by omega), w o (by omega), tup]
    refine call_bare (k17cond hT _ ht0 ht1 ht2) (by simp [AV.bareL, AV.bare, unE, binE, condE, numT, smallK, Ke.cells, rowOf, Ar.cells, Pa.cells, Sm.cellsL, Sm.cells, Ex.cells, Ex.cellsL, Ex.zero]) ?_
    simp -dsimp -implicitDefEqProofs [e3, e7, e6, e0, e5, q0, qq, del_none, smallAV, wop, hmu, hmo, w u (by omega), w o (by omega), tup]
    refine call_of (d23 _ _ _) ?_
    simp -dsimp -implicitDefEqProofs [e3, e7, e6, e0, e5, q0, qq, del_none, smallAV, wop, hmu, hmo, w u (by omega), w o (by omega), tup]
    refine call_of (d24 _ _ _ _) ?_
    by_cases c1 : t0 = 2
    · have b1 : (1 + (t0 : Int) == 3) = true := by simp; omega
      by_cases c2 : t1 = t2
      · have b2 : (1 + (t1 : Int) == 1 + (t2 : Int)) = true := by simp; omega
        have b3 : ((1 + t1 : Nat) : Int) = 1 + (t1 : Int) := by omega
        have b4 : (1 + (t1 : Int) == 1 + (t1 : Int)) = true := by simp
        have hif : (if t0 = 2 ∧ t1 = t2 then (1 + (t1 : Int), (0 : Int)) else (0, 31)) = (1 + (t1 : Int), 0) := by rw [if_pos ⟨c1, c2⟩]
        simp -dsimp -implicitDefEqProofs [e3, e7, e6, e0, e5, q0, qq, del_none, smallAV, wop, hmu, hmo, w u (by omega), w o (by omega), tup, hif, b1, b2, b4]
        exact fin_pure hwf (fun p hp => by simp [hs.old p hp]) (by simp [eraseA])
      · have b2 : (1 + (t1 : Int) == 1 + (t2 : Int)) = false := by simp; omega
        have hif : (if t0 = 2 ∧ t1 = t2 then (1 + (t1 : Int), (0 : Int)) else (0, 31)) = (0, 31) := by rw [if_neg (fun h => c2 h.2)]
        simp -dsimp -implicitDefEqProofs [e3, e7, e6, e0, e5, q0, qq, del_none, smallAV, wop, hmu, hmo, w u (by omega), w o (by omega), tup, hif, b1, b2]
        exact fin_pure hwf (fun p hp => by simp [hs.old p hp]) (by simp [eraseA])
    · have b1 : (1 + (t0 : Int) == 3) = false := by simp; omega
      have hif : (if t0 = 2 ∧ t1 = t2 then (1 + (t1 : Int), (0 : Int)) else (0, 31)) = (0, 31) := by rw [if_neg (fun h => c1 h.1)]
      simp -dsimp -implicitDefEqProofs [e3, e7, e6, e0, e5, q0, qq, del_none, smallAV, wop, hmu, hmo, w u (by omega), w o (by omega), tup, hif, b1]
      exact fin_pure hwf (fun p hp => by simp [hs.old p hp]) (by simp [eraseA])
end Go.Proofs.YthaekebedmoipaaGreatDoor.AM
