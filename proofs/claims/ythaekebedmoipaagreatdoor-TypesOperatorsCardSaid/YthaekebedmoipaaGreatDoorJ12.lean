/- Part 12 of the proof: G23 G24. -/
import Derived.Test.YthaekebedmoipaaGreatDoorJ11
/- The law TypesScopes: what is checked. -/
set_option linter.unusedVariables false
set_option linter.unusedSimpArgs false
set_option maxRecDepth 100000
namespace Go.Proofs.YthaekebedmoipaaGreatDoor.AM
open Go Go.RowKit
variable {w0 : World} {base : Nat}

def vS (t : Int) : Sm := .mk 1 0 t 0 [118] (.mk 1 0 t [] 1 []) Ex.zero [] []
def useS (t : Int) : Sm := .mk 2 0 0 0 [118] (.mk 1 0 t [] 0 []) Ex.zero [] []
def yesE : Ex := .mk 1 0 3 [] 1 []
def inL (deep : Bool) (t : Int) : List Sm := [vS t, if deep then .mk 5 0 0 0 [] yesE Ex.zero [useS t] [] else useS t]
def scS (c : Nat) (deep : Bool) (t bound : Int) : Sm :=
  if c = 1 then .mk 5 0 0 0 [] yesE Ex.zero [] (inL deep t) else if c = 2 then .mk 6 0 0 bound [] yesE Ex.zero (inL deep t) [] else .mk 5 0 0 0 [] yesE Ex.zero (inL deep t) []
def scK (i : Nat) (s : Sm) (t : Int) : Ke := smallK (if i = 0 then [s] else if i = 1 then [s, useS t] else if i = 2 then [s, vS t, useS t] else [vS t, s])
def scR (i : Nat) : Int := if i = 0 ∨ i = 2 then 0 else 30
def sc1 (c : Nat) (d : Bool) (t b i : Nat) : Bool := checkP (scK i (scS c d (1 + t) (1 + b)) (1 + t)) == scR i && Nat.ble (kernelP (scK i (scS c d (1 + t) (1 + b)) (1 + t))).1.length 100000
def scB (n : Nat) : Bool := (List.range 3).all fun c => [true, false].all fun d => (List.range 3).all fun t => (List.range n).all fun b => (List.range 4).all fun i => sc1 c d t b i
theorem sc_1 : scB 1 = true := by kernel_rfl
def scW (d : Bool) (t : Nat) : Bool := (List.range 100).all fun b => (List.range 4).all fun i => sc1 2 d t b i
theorem scW_true0 : scW true 0 = true := by kernel_rfl
theorem scW_true1 : scW true 1 = true := by kernel_rfl
theorem scW_true2 : scW true 2 = true := by kernel_rfl
theorem scW_false0 : scW false 0 = true := by kernel_rfl
theorem scW_false1 : scW false 1 = true := by kernel_rfl
theorem scW_false2 : scW false 2 = true := by kernel_rfl
theorem sc_at {c : Nat} (hc : c < 3) (d : Bool) {t b i : Nat} (ht : t < 3) (hb : b < 100) (hi : i < 4) : sc1 c d t b i = true := by
  by_cases h2 : c = 2
  · subst h2
    have h : scW d t = true := by
      have : t = 0 ∨ t = 1 ∨ t = 2 := by omega
      rcases this with rfl | rfl | rfl <;> cases d
      · exact scW_false0
      · exact scW_true0
      · exact scW_false1
      · exact scW_true1
      · exact scW_false2
      · exact scW_true2
    simp only [scW, List.all_eq_true, List.mem_range] at h
    exact h b hb i hi
  · have h := sc_1
    have e : sc1 c d t b i = sc1 c d t 0 i := by
      have w : ∀ x y : Int, scS c d (1 + t) x = scS c d (1 + t) y := by intro x y; simp [scS, h2]
      unfold sc1
      rw [w (1 + b) (1 + ((0 : Nat) : Int))]
    rw [e]
    simp only [scB, List.all_eq_true, List.mem_range] at h
    exact h c hc d (by cases d <;> simp) t ht 0 (by omega) i hi
theorem okScS (c : Nat) (d : Bool) (t : Int) {b : Int} (h1 : 0 ≤ b) (h2 : b ≤ 1000) : (scS c d t b).ok := by
  unfold scS
  split
  · cases d <;> simp [inL, vS, useS, yesE, Sm.ok, Sm.okL, Ex.ok, Ex.okL, Ex.zero]
  · split
    · cases d <;> simp [inL, vS, useS, yesE, Sm.ok, Sm.okL, Ex.ok, Ex.okL, Ex.zero] <;> omega
    · cases d <;> simp [inL, vS, useS, yesE, Sm.ok, Sm.okL, Ex.ok, Ex.okL, Ex.zero]
theorem k14 (hT : Tabs w0 base) (st : St) {c : Nat} (hc : c < 3) (d : Bool) {t b i : Nat} (ht : t < 3) (hb : b < 100) (hi : i < 4) :
    Det Tryz.prog w0 base 14 [.agg (scK i (scS c d (1 + t) (1 + b)) (1 + t)).cells] st (vi (scR i)) st := by
  have h := sc_at hc d ht hb hi
  simp only [sc1, Bool.and_eq_true, beq_iff_eq] at h
  have hl := Nat.le_of_ble_eq_true h.2
  have hs := okScS c d (1 + t) (b := 1 + b) (by omega) (by omega)
  have := d14 hT st (scK i (scS c d (1 + t) (1 + b)) (1 + t)) (okSmall (by split <;> (try split) <;> (try split) <;> simp [Sm.okL, hs, useS, vS, Sm.ok, Ex.ok, Ex.okL, Ex.zero])) (by omega)
  rw [h.1] at this
  exact this
end Go.Proofs.YthaekebedmoipaaGreatDoor.AM

/- The law TypesScopes. -/
set_option linter.unusedVariables false
set_option linter.unusedSimpArgs false
set_option maxRecDepth 100000
namespace Go.Proofs.YthaekebedmoipaaGreatDoor.AM
open Go Go.RowKit
variable {w0 : World} {base : Nat}

theorem wrap_of {n : Int} (h1 : -9223372036854775808 ≤ n) (h2 : n ≤ 9223372036854775807) : IntKind.i64.wrap n = n := by
  rw [wrap_def]
  split <;> omega
set_option maxHeartbeats 2000000 in
theorem d6 (hT : Tabs w0 base) (st : St) (kd n : Int) (deep : Bool) (hk0 : 0 ≤ kd) (h0 : 0 ≤ n) : Det Tryz.prog w0 base 6 [.int .u8 kd, .int .u8 n, .bool deep] st (.bool true) st := by
  refine det_self (enters_fn Tryz.func6 r6) fun hwf hfit => det_fn Tryz.func6 r6 rfl ?_
  clear hfit
  have hn0 := wf_none0 hwf
  have hn := wf_none hwf
  obtain ⟨t, ht, htm⟩ : ∃ t : Nat, t < 3 ∧ n.tmod 3 = t := ⟨(n % 3).toNat, by omega, by rw [Int.tmod_eq_emod_of_nonneg h0]; omega⟩
  obtain ⟨b, hb, hbm⟩ : ∃ b : Nat, b < 100 ∧ n.tmod 100 = b := ⟨(n % 100).toNat, by omega, by rw [Int.tmod_eq_emod_of_nonneg h0]; omega⟩
  obtain ⟨c, hc, hcm⟩ : ∃ c : Nat, c < 3 ∧ kd.tmod 3 = c := ⟨(kd % 3).toNat, by omega, by rw [Int.tmod_eq_emod_of_nonneg hk0]; omega⟩
  have w1 : IntKind.i64.wrap (t : Int) = t := wrap_of (by omega) (by omega)
  have w2 : IntKind.i64.wrap (1 + (t : Int)) = 1 + t := wrap_of (by omega) (by omega)
  have w3 : IntKind.i64.wrap (b : Int) = b := wrap_of (by omega) (by omega)
  have w4 : IntKind.i64.wrap (1 + (b : Int)) = 1 + b := wrap_of (by omega) (by omega)
  have k0 := fun st => k14 (w0 := w0) (base := base) hT st hc deep ht hb (i := 0) (by decide)
  have k1 := fun st => k14 (w0 := w0) (base := base) hT st hc deep ht hb (i := 1) (by decide)
  have k2 := fun st => k14 (w0 := w0) (base := base) hT st hc deep ht hb (i := 2) (by decide)
  have k3 := fun st => k14 (w0 := w0) (base := base) hT st hc deep ht hb (i := 3) (by decide)
  unfold b6
  simp -dsimp -implicitDefEqProofs [hn0, hn, del_none]
  refine call_of (d11 hT _) ?_
  have hcc : c = 0 ∨ c = 1 ∨ c = 2 := by omega
  rcases hcc with rfl | rfl | rfl <;> cases deep
  all_goals
    simp -dsimp -implicitDefEqProofs [hn0, hn, del_none, htm, hbm, hcm, w1, w2, w3, w4]
    refine call_of (d22 _ _ _ (by simp [eraseL, eraseA]) _ (.inr rfl)) ?_
    simp -dsimp -implicitDefEqProofs [hn0, hn, del_none, new_ne, new_ne0, old_ne, old_ne0, smallAV, scR]
    refine call_bare (k0 _) (by simp [AV.bareL, AV.bare, scK, scS, inL, vS, useS, yesE, smallK, Ke.cells, rowOf, Ar.cells, Pa.cells, Sm.cellsL, Sm.cells, Ex.cells, Ex.cellsL, Ex.zero]) ?_
    simp -dsimp -implicitDefEqProofs [hn0, hn, del_none, new_ne, new_ne0, old_ne, old_ne0, smallAV, scR]
    refine call_of (d22 _ _ _ (by simp [eraseL, eraseA]) _ (.inr rfl)) ?_
    simp -dsimp -implicitDefEqProofs [hn0, hn, del_none, new_ne, new_ne0, old_ne, old_ne0, smallAV, scR]
    refine call_bare (k1 _) (by simp [AV.bareL, AV.bare, scK, scS, inL, vS, useS, yesE, smallK, Ke.cells, rowOf, Ar.cells, Pa.cells, Sm.cellsL, Sm.cells, Ex.cells, Ex.cellsL, Ex.zero]) ?_
    simp -dsimp -implicitDefEqProofs [hn0, hn, del_none, new_ne, new_ne0, old_ne, old_ne0, smallAV, scR]
    refine call_of (d22 _ _ _ (by simp [eraseL, eraseA]) _ (.inr rfl)) ?_
    simp -dsimp -implicitDefEqProofs [hn0, hn, del_none, new_ne, new_ne0, old_ne, old_ne0, smallAV, scR]
    refine call_bare (k2 _) (by simp [AV.bareL, AV.bare, scK, scS, inL, vS, useS, yesE, smallK, Ke.cells, rowOf, Ar.cells, Pa.cells, Sm.cellsL, Sm.cells, Ex.cells, Ex.cellsL, Ex.zero]) ?_
    simp -dsimp -implicitDefEqProofs [hn0, hn, del_none, new_ne, new_ne0, old_ne, old_ne0, smallAV, scR]
    refine call_of (d22 _ _ _ (by simp [eraseL, eraseA]) _ (.inr rfl)) ?_
    simp -dsimp -implicitDefEqProofs [hn0, hn, del_none, new_ne, new_ne0, old_ne, old_ne0, smallAV, scR]
    refine call_bare (k3 _) (by simp [AV.bareL, AV.bare, scK, scS, inL, vS, useS, yesE, smallK, Ke.cells, rowOf, Ar.cells, Pa.cells, Sm.cellsL, Sm.cells, Ex.cells, Ex.cellsL, Ex.zero]) ?_
    simp -dsimp -implicitDefEqProofs [hn0, hn, del_none, new_ne, new_ne0, old_ne, old_ne0, smallAV, scR]
    refine fin_pure hwf (fun p hp => by simp [hp, old_ne, old_ne0]) (by simp [eraseA])
end Go.Proofs.YthaekebedmoipaaGreatDoor.AM
