/- Part 12 of the proof: N15. -/
import Derived.Test.YthaekebedmoipaaGreatDoorJ11
import Derived.Test.YthaekebedmoipaaGreatDoorJ8
set_option linter.unusedVariables false
set_option linter.unusedSimpArgs false
set_option linter.unusedSectionVars false
set_option maxRecDepth 100000
namespace Go.Proofs.YthaekebedmoipaaGreatDoor.AM
open Go Go.RowKit
section
variable {w0 : World} {base : Nat}
theorem cellsL_append (m : List Sm) : ∀ l : List Sm, Sm.cellsL (l ++ m) = Sm.cellsL l ++ Sm.cellsL m
 | [] => by simp [Sm.cellsL]
 | s :: l => by simp [Sm.cellsL, cellsL_append m l]
theorem len_nodes : ∀ l : List Sm, l.length ≤ nodesSL l
 | [] => Nat.le_refl _
 | .mk _ _ _ _ _ _ _ _ _ :: l => by have := len_nodes l; simp only [List.length_cons, nodesSL, nodesS]; omega
theorem body_few (bs : List UInt8) : (madeM bs).body.length ≤ 900 := by
 obtain ⟨sc', g, _⟩ := (made_here bs).body
 have h1 := g.co.nodes
 have h2 := len_nodes (madeM bs).body
 omega
theorem d4 (hT : Tabs w0 base) (st : St) (bs : List UInt8) : Det Tryz.prog w0 base 4 [.agg [bytesV bs]] st (.bool true) st := by
 refine zi (zp Tryz.func4 r4) fun hwf hfit => z6 Tryz.func4 r4 rfl ?_
 clear hfit
 have hn0 := zk hwf
 have hn := zg hwf
 have hk := made_kok bs
 have hl := made_len bs
 obtain ⟨hko, hlo⟩ := other_ok bs
 have k1 := fun st => d14 (w0 := w0) (base := base) hT st (madeM bs) hk hl
 have k2 := fun st => d14 (w0 := w0) (base := base) hT st (otherM bs) hko hlo
 rw [made_check] at k1
 have hoc := other_check bs
 have bca := v8 Ar.cells Ar.bare_cells (madeM bs).arrays
 have bcp := v8 Pa.cells Pa.bare_cells (madeM bs).params
 have bcf := v8 Fu.cells Fu.bare_cells (madeM bs).funcs
 have ko : (otherM bs).cells = [.str (madeM bs).name, vi (madeM bs).group, vi (madeM bs).sub, .sl (rowOf Ar.cells (madeM bs).arrays) (madeM bs).arrays.length .no, .sl (rowOf Pa.cells (madeM bs).params) (madeM bs).params.length .no, .sl (rowOf Fu.cells (madeM bs).funcs) (madeM bs).funcs.length .no, .sl (Sm.cellsL (madeM bs).body ++ setU.cells) ((madeM bs).body.length + 1) .no] := by
  simp [otherM, Ke.cells, cellsL_append, Sm.cellsL]
 have kc : (madeM bs).cells = [.str (madeM bs).name, vi (madeM bs).group, vi (madeM bs).sub, .sl (rowOf Ar.cells (madeM bs).arrays) (madeM bs).arrays.length .no, .sl (rowOf Pa.cells (madeM bs).params) (madeM bs).params.length .no, .sl (rowOf Fu.cells (madeM bs).funcs) (madeM bs).funcs.length .no, .sl (Sm.cellsL (madeM bs).body) (madeM bs).body.length .no] := rfl
 have hm12 := fun st => d12 (w0 := w0) (base := base) st bs
 rw [kc] at k1 hm12
 rw [ko] at k2
 generalize checkP (otherM bs) = co at *
 clear hk hl hko hlo ko kc
 have hcl : (Sm.cellsL (madeM bs).body).length = (madeM bs).body.length * 19 := Sm.cellsL_len _
 have hbf := body_few bs
 generalize madeM bs = K at *
 generalize rowOf Ar.cells K.arrays = ca at *
 generalize rowOf Pa.cells K.params = cp at *
 generalize rowOf Fu.cells K.funcs = cf at *
 generalize hcb : Sm.cellsL K.body = cb at *
 unfold b4
 simp -dsimp -implicitDefEqProofs [hn0, hn, zz, bytesV]
 refine zt (d11 hT _) ?_
 simp -dsimp -implicitDefEqProofs [hn0, hn, zz]
 refine zt (hm12 _) ?_
 simp -dsimp -implicitDefEqProofs [hn0, hn, zz, hcl]
 have b1 : K.body.length * 240 ≤ big := by unfold big; omega
 have b2 : K.body.length ≤ big := by unfold big; omega
 have b3 : (K.body.length + 1) * 240 ≤ big := by unfold big; omega
 have b4 : K.body.length + 1 ≤ big := by unfold big; omega
 have b5 : (1 : Nat) * 240 ≤ big := by unfold big; omega
 have b6 : (1 : Nat) ≤ big := by unfold big; omega
 have su : setU.cells = [vi 2, vi 0, vi 0, vi 0, .str [113, 113, 57], vi 1, vi 0, vi 1, .str [], .int .i32 1, .sl [] 0 .no, vi 0, vi 0, vi 0, .str [], .int .i32 0, .sl [] 0 .no, .sl [] 0 .no, .sl [] 0 .no] := by simp [setU, numX, zE, Sm.cells, Sm.cellsL, Ex.cells, Ex.cellsL]
 have bcb : AV.bareL cb = cb := by rw [← hcb]; exact Sm.bare_cellsL _
 rw [su] at k2
 clear su
 by_cases hz : K.body = []
 ·have hcb0 : cb = [] := by rw [← hcb, hz]; simp [Sm.cellsL]
  subst hcb0
  have hlz : K.body.length = 0 := by rw [hz]; rfl
  rw [hlz] at k1 k2
  simp -dsimp -implicitDefEqProofs [hn0, hn, zz, hcl, hz]
  refine zt (d19 _ _) ?_
  simp -dsimp -implicitDefEqProofs [hn0, hn, zz, hcl, hz, b1, b2, b3, b4, b5, b6, numAV]
  refine zm (k1 _) (by simp [AV.bareL, AV.bare, bca, bcp, bcf]) ?_
  simp -dsimp -implicitDefEqProofs [hn0, hn, zz]
  refine zm (k2 _) (by simp [AV.bareL, AV.bare, bca, bcp, bcf]) ?_
  rcases hoc with rfl | rfl
  ·simp -dsimp -implicitDefEqProofs [hn0, hn, zz]
   refine zh hwf (fun p hp => ?_) (by simp [eraseA])
   have h1 : p ≠ st.next + 11 := by omega
   have h2 : p ≠ st.next + 20 := by omega
   have h3 : p ≠ st.next + 16 := by omega
   simp [h1, h2, h3]
  ·simp -dsimp -implicitDefEqProofs [hn0, hn, zz]
   refine zm (k2 _) (by simp [AV.bareL, AV.bare, bca, bcp, bcf]) ?_
   simp -dsimp -implicitDefEqProofs [hn0, hn, zz]
   refine zh hwf (fun p hp => ?_) (by simp [eraseA])
   have h1 : p ≠ st.next + 11 := by omega
   have h2 : p ≠ st.next + 20 := by omega
   have h3 : p ≠ st.next + 16 := by omega
   simp [h1, h2, h3]
 ·simp -dsimp -implicitDefEqProofs [hn0, hn, zz, hcl, hz, b1, b2]
  refine zt (d19 _ _) ?_
  simp -dsimp -implicitDefEqProofs [hn0, hn, zz, hcl, hz, b1, b2, b3, b4, b5, b6, numAV]
  refine zm (k1 _) (by simp [AV.bareL, AV.bare, bca, bcp, bcf, bcb]) ?_
  simp -dsimp -implicitDefEqProofs [hn0, hn, zz]
  refine zm (k2 _) (by simp [AV.bareL, AV.bare, zf, bca, bcp, bcf, bcb]) ?_
  rcases hoc with rfl | rfl
  ·simp -dsimp -implicitDefEqProofs [hn0, hn, zz]
   refine zh hwf (fun p hp => ?_) (by simp [eraseA])
   have h1 : p ≠ st.next + 11 := by omega
   have h2 : p ≠ st.next + 20 := by omega
   have h3 : p ≠ st.next + 16 := by omega
   simp [h1, h2, h3]
  ·simp -dsimp -implicitDefEqProofs [hn0, hn, zz]
   refine zm (k2 _) (by simp [AV.bareL, AV.bare, zf, bca, bcp, bcf, bcb]) ?_
   simp -dsimp -implicitDefEqProofs [hn0, hn, zz]
   refine zh hwf (fun p hp => ?_) (by simp [eraseA])
   have h1 : p ≠ st.next + 11 := by omega
   have h2 : p ≠ st.next + 20 := by omega
   have h3 : p ≠ st.next + 16 := by omega
   simp [h1, h2, h3]
end
end Go.Proofs.YthaekebedmoipaaGreatDoor.AM
