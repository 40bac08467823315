/- Part 11 of the proof: N14 M3 M4 M5 M6 M7 M8 M9 C4 N15 M10 N16. -/
import Derived.Test.YthaekebedmoipaaGreatDoorJ10
import Derived.Test.YthaekebedmoipaaGreatDoorJ8
import Derived.Test.YthaekebedmoipaaGreatDoorJ9
import Derived.Test.YthaekebedmoipaaGreatDoorProg
import Derived.RowKit
set_option linter.unusedVariables false
set_option linter.unusedSimpArgs false
set_option linter.unusedSectionVars false
set_option maxRecDepth 100000
namespace Go.Proofs.YthaekebedmoipaaGreatDoor.AM
open Go Go.RowKit
section
variable {w0 : World} {base : Nat}
mutual
theorem Sm.erase_cells (n : Nat) : ∀ s : Sm, eraseL n s.cells = some s.cells
 | .mk k op t b nm x y body els => by simp [Sm.cells, eraseL, eraseA, ym, Ex.erase_cells n x, Ex.erase_cells n y, Sm.erase_cellsL n body, Sm.erase_cellsL n els]
theorem Sm.erase_cellsL (n : Nat) : ∀ l : List Sm, eraseL n (Sm.cellsL l) = some (Sm.cellsL l)
 | [] => by simp [Sm.cellsL, eraseL]
 | e :: l => by simp [Sm.cellsL, ym, Sm.erase_cells n e, Sm.erase_cellsL n l]
end
theorem erase_row {α : Type} (f : α → List AV) (n : Nat) (h : ∀ x, eraseL n (f x) = some (f x)) : ∀ l : List α, eraseL n (rowOf f l) = some (rowOf f l)
 | [] => by simp [eraseL]
 | x :: l => by simp [xj, ym, h x, erase_row f n h l]
theorem Pa.erase_cells (n : Nat) (x : Pa) : eraseL n x.cells = some x.cells := by simp [Pa.cells, eraseL, eraseA]
theorem Fu.erase_cells (n : Nat) (x : Fu) : eraseL n x.cells = some x.cells := by
 simp [Fu.cells, eraseL, eraseA, ym, Ex.erase_cells, Sm.erase_cellsL, erase_row _ n (Pa.erase_cells n)]
theorem out_app {z z2 : St} {o lo n b id : Nat} {vj v2 : AV} {p : Perm} (h : OutS z o vj lo n p) (hwf : z.wf) (hK2 : Kp o (rowId vj) (z.bump b) z2 (rowId v2)) (hvj : vj.under (· < z.next)) (hid : z.next ≤ id) (hid2 : id < z.next + b) (hlo : lo ≤ z.next) (holt : o < z.next) :
  ∃ t', (∀ r k cs ds m, r + k = id → appP r k 54 19 n cs ds m z2 p = some (.sl (cs ++ ds) (n + m) (.tok t'), z2.put t' (.tip 54 19 (n + m)))) ∧ lo ≤ t' ∧ t' < z2.next ∧ t' ≠ o ∧ (∀ q, rowId v2 = some q → q ≠ t') ∧ (∀ X T cs, z.objs X = some (.cells T cs) → X ≠ t') := by
 have hnx := hK2.next
 simp only [bump_next] at hnx
 rcases h with ⟨rfl, rfl⟩ | ⟨t, rfl, ht1, ht2, ht3, ht4, ht5, ht6⟩
 ·refine ⟨id, fun r k cs ds m e => by subst e; simp, by omega, by omega, by omega, vu hK2 (by simp; omega) (row_ne hvj hid), fun X T cs hX => ?_⟩
  have := hwf _ _ hX
  omega
 ·have ht7 : z2.objs t = some (.tip 54 19 n) := by rw [hK2.same t (by simp; omega) ht3 ht4]; exact ht5
  refine ⟨t, fun r k cs ds m e => by simp [ht7], ht1, by omega, ht3, vu hK2 (by simp; omega) ht4, fun X T cs hX e => ?_⟩
  rw [e, ht5] at hX; cases hX
def zeroKe : List AV := [.str [], vi 0, vi 0, .sl [] 0 .full, .sl [] 0 .full, .sl [] 0 .full, .sl [] 0 .full]
def parsV : AV := .sl [.str [110], vi 1, .str [116], vi 2, .str [99], vi 3] 3 .full
def arrsV : AV := .sl (rowOf Ar.cells arrsM) 5 .no
def b12d : SCode := (.seq (.seq (.reg [m 67 3, oS 68 (.call 26 [(t 67)]), pE 69 (.bin .int .rem (t 68) (i 8)), pE 70 (.bin .int .add (i 1) (t 69)), m 6 70]) (.block 2 (.loop l12_0))) (.seq (.seq (.reg [m 89 3, oS 90 (.call 26 [(t 89)]), pE 91 (.bin .int .rem (t 90) (i 4)), pE 92 (.bin .int .eql (t 91) (i 0))]) (.cond (t 92) (.frz [4] (.draw [0, 1, 0, 4, 0, 16, 60, 0, 140, 508, 1023, 2047, 4095] [0, 1, 2, 3, 4, 5, 6, 7, 8, 9, 10, 11, 12] [pE 93 (.fldA 6 (t 4)), oS 94 (.load 1 false (t 93)), m 95 3, oS 96 (.call 30 [(t 95), (i 3), (i 3)]), pE 97 (.build [(.int .i64 0), (.int .i64 0), (.int .i64 0), (.int .i64 0), (.str []), (.int .i64 0), (.int .i64 0), (.int .i64 0), (.str []), (.int .i32 0), (.sl [] 0 .full), (.int .i64 0), (.int .i64 0), (.int .i64 0), (.str []), (.int .i32 0), (.sl [] 0 .full), (.sl [] 0 .full), (.sl [] 0 .full)] [(0, (1, (i 9)))]), pE 98 (.lits 19 [(t 97)]), pE 99 (.build [(.int .i64 0), (.int .i64 0), (.int .i64 0), (.int .i64 0), (.str []), (.int .i64 0), (.int .i64 0), (.int .i64 0), (.str []), (.int .i32 0), (.sl [] 0 .full), (.int .i64 0), (.int .i64 0), (.int .i64 0), (.str []), (.int .i32 0), (.sl [] 0 .full), (.sl [] 0 .full), (.sl [] 0 .full)] [(0, (1, (i 5))), (5, (6, (t 96))), (17, (1, (t 98)))]), m 100 3, oS 101 (.call 31 [(t 100)]), pE 102 (.lits 19 [(t 99), (t 101)]), oS 103 (.append false 54 19 240 (t 94) (t 102) 10), pE 104 (.fldA 6 (t 4)), ⟨none, none, (.store 1 (t 104) (t 103))⟩])) .skip)) (.seq (.reg [oS 105 (.load 7 true (t 4)), ⟨none, none, (.store 7 (t 2) (t 105))⟩]) .ret)))
theorem m12d {bs : List UInt8} {st z : St} {o q r : Nat} {vj : AV} {s : MS} {g sb : Int} {fs : List Fu} {pf : Perm} {ee : Env} (hwf : st.wf) (hK : Kp o none st z (rowId vj)) (h : Mk bs z o vj s 22920) (hw : Vw vj) (hso : st.next ≤ o) (hsq : st.next ≤ q) (hsr : st.next ≤ r) (hqo : q ≠ o) (hro : r ≠ o) (hqr : q ≠ r)
  (hrq : some q ≠ rowId vj) (hrr : some r ≠ rowId vj) (hqz : z.objs q = some (.cells 38 [.str [107], vi g, vi sb, arrsV, parsV, .sl (rowOf Fu.cells fs) fs.length pf, .sl [] 0 .full])) (hrz : z.objs r = some (.cells 38 zeroKe)) (hpf : pf = .full) (f2 : ee 2 = .ptr r 0) (f3 : ee 3 = .ptr o 0) (f4 : ee 4 = .ptr q 0) :
  awp Tryz.prog w0 base b12d ee [] z (EndsK Tryz.prog w0 base [SRes.cell 2 7 true] fun v S => FinB st S v (.agg (Ke.mk [107] g sb arrsM parsM fs ((stmtsM (stmtM bs 3 false 2 true false) (1 + (nextM bs s).1 % 8) (nextM bs s).2).1 ++ (tailM bs (stmtsM (stmtM bs 3 false 2 true false) (1 + (nextM bs s).1 % 8) (nextM bs s).2).2).1)).cells) st) := by
 subst hpf
 have al : arrsM.length = 5 := rfl
 have hwz := hK.wf
 have hlt := hwz _ _ h.obj
 have hqo' : ¬ o = q := fun e => hqo e.symm
 have hro' : ¬ o = r := fun e => hro e.symm
 have hqr' : ¬ r = q := fun e => hqr e.symm
 have hql := hwz _ _ hqz
 have hrl := hwz _ _ hrz
 unfold zeroKe at hrz
 unfold b12d
 simp -dsimp -implicitDefEqProofs [f2, f3, f4]
 refine zt (m26 (h.to hwz (by simp [h.obj]) (fun q h1 h2 => by simp) (by simp) (Kc.refl 0 s) (by omega))) ?_
 have kx := zi (bs := bs) s
 have hx := yj bs s
 generalize nextM bs s = Rx at *
 obtain ⟨x, sx⟩ := Rx
 simp only at kx hx ⊢
 have r8 : (x : Int).tmod 8 = ((x % 8 : Nat) : Int) := yz x 8
 have y8 : x % 8 < 8 := Nat.mod_lt _ (by omega)
 generalize x % 8 = y at *
 have wu : IntKind.i64.wrap (1 + (y : Int)) = 1 + (y : Int) := yy (by omega) (by omega)
 simp -dsimp -implicitDefEqProofs [f2, f3, f4, r8, wu]
 have hC := stmt_all (w0 := w0) (base := base) bs 3 (by omega) false 2 (by omega)
 generalize hSM : stmtM bs 3 false 2 = SM at *
 refine loop_by (fun k e z => ∃ (out : List Sm) (p : Perm) (vj : AV) (sj : MS), e 6 = vi k ∧ z.objs q = some (.cells 38 [.str [107], vi g, vi sb, arrsV, parsV, .sl (rowOf Fu.cells fs) fs.length .full, .sl (Sm.cellsL out) out.length p]) ∧ z.objs r = some (.cells 38 zeroKe) ∧ k ≤ 8 ∧ out.length + k ≤ 8 ∧ OutS z o vj st.next out.length p ∧
  Mk bs z o vj sj (k * 2852 + 103) ∧ Vw vj ∧ Kp o none st z (rowId vj) ∧ some q ≠ rowId vj ∧ some r ≠ rowId vj ∧ stmtsM (SM true false) (1 + y) sx = (out ++ (stmtsM (SM true false) k sj).1, (stmtsM (SM true false) k sj).2)) (1 + y) ?_ (by decide) ?_
 ·refine ⟨[], .full, vj, sx, by simp, by simp [Sm.cellsL, hqo, hqz], by simp [hro, hrz, zeroKe], by omega, by simp; omega, .inl ⟨rfl, rfl⟩, h.to hwz (by simp) (fun q h1 h2 => by simp [h2]) (by simp) kx ?_, hw, Kp.over hK (fun p h1 h2 => by simp [h2]) (by simp) (by repeat first | exact hwz | (refine zb ?_ ?_; rotate_left; focus (first | (simp; done) | omega | (simp; omega))) | refine yf ?_ _ | refine zk ?_), hrq, hrr, by simp⟩
  have := Nat.mul_le_mul_right 2852 (show 1 + y ≤ 8 by omega)
  omega
 ·clear h hw hK hrq hrr hqz hrz hwz hlt hql hrl kx
  rintro k e z hfr ⟨out, p, vj, sj, e6, hqz, hrz, hk8, hol, hout, hM, hwj, hK, hrq, hrr, hst⟩
  have e2 : e 2 = .ptr r 0 := by rw [hfr 2 rfl]; simp [f2]
  have e3 : e 3 = .ptr o 0 := by rw [hfr 3 rfl]; simp [f3]
  have e4 : e 4 = .ptr q 0 := by rw [hfr 4 rfl]; simp [f4]
  have hzo := hM.obj
  rw [Mo_def] at hzo
  have hwz := hK.wf
  have hzlt := hwz _ _ hM.obj
  have hql := hwz _ _ hqz
  have hrl := hwz _ _ hrz
  have hvj := hM.und hwz
  have hKn := hK.next
  unfold l12_0
  by_cases hgo : 0 < k ∧ 0 < sj.left
  ·obtain ⟨hk0, hl0⟩ := hgo
   obtain ⟨k, rfl⟩ : ∃ k', k = k' + 1 := ⟨k - 1, by omega⟩
   have hki : (0 : Int) < ((k : Int) + 1) := by omega
   have hM1' : Mk bs z o vj sj (2852 + (k * 2852 + 103)) := hM.less (by rw [Nat.add_mul, Nat.one_mul]; omega)
   simp -dsimp -implicitDefEqProofs [e2, e3, e4, e6, hk0, hl0, hki, hzo, hqz, loadA]
   refine yu (hC _ o vj sj (k * 2852 + 103) true false (zk hwz) (hM1'.to hwz hM.obj (fun q _ _ => rfl) (by simp) (Kc.refl 0 sj) (Nat.le_of_eq (Nat.zero_add _))) hwj) (by simp [AV.bareL, AV.bare]) fun v z2 hv => ?_
   obtain ⟨rfl, v2, hM2, hw2, hsl2, hK2⟩ := hv
   have hst2 : stmtsM (SM true false) (1 + y) sx = ((out ++ [(SM true false sj).1]) ++ (stmtsM (SM true false) k (SM true false sj).2).1, (stmtsM (SM true false) k (SM true false sj).2).2) := by
    rw [hst]; simp only [stmtsM]; rw [if_pos hl0]; simp
   have l1 := Sm.cells_len (SM true false sj).1
   have b1 : Sm.cellsL (out ++ [(SM true false sj).1]) = Sm.cellsL out ++ (SM true false sj).1.cells := by rw [Sm.cellsL_append]; simp [Sm.cellsL]
   have ln := Sm.cellsL_len out
   generalize SM true false sj = R at *
   obtain ⟨sm, s2⟩ := R
   simp only at *
   generalize sm.cells = c1 at *
   have hwk : IntKind.i64.wrap ((k : Int) + 1 - 1) = (k : Int) := by rw [Int.add_sub_cancel]; exact vm (by omega)
   have hwk2 : IntKind.i64.wrap (k : Int) = (k : Int) := vm (by omega)
   have hnx := hK2.next
   simp only [bump_next] at hnx
   have hqz2 : z2.objs q = some (.cells 38 [.str [107], vi g, vi sb, arrsV, parsV, .sl (rowOf Fu.cells fs) fs.length .full, .sl (Sm.cellsL out) out.length p]) := by rw [hK2.same _ (by simp; omega) hqo hrq]; exact hqz
   have hrz2 : z2.objs r = some (.cells 38 zeroKe) := by rw [hK2.same _ (by simp; omega) hro hrr]; exact hrz
   have hqx2 := vu hK2 (b := q) (by simp; omega) hrq
   have hrx2 := vu hK2 (b := r) (by simp; omega) hrr
   have hKz2 : Kp o none st z2 (rowId v2) := (hK.trans (kp_own _ (z8 (xy hwz hM.obj) _))).trans hK2
   obtain ⟨t', happ, ht1, ht2, ht3, ht4, ht5⟩ := out_app (id := z.next + 14) hout hwz hK2 hvj (by omega) (by omega) hKn hzlt
   have hqt := ht5 _ _ _ hqz
   have hrt := ht5 _ _ _ hrz
   have htq : ¬ t' = q := fun e => hqt e.symm
   have htr : ¬ t' = r := fun e => hrt e.symm
   have hot : ¬ o = t' := fun e => ht3 e.symm
   simp -dsimp -implicitDefEqProofs [l1, ln, hqz, hqz2]
   rw [if_pos ⟨by unfold big; omega, by unfold big; omega⟩]
   rw [happ (z.next + 9) 5 _ _ _ (by omega)]
   simp -dsimp -implicitDefEqProofs [e2, e3, e4, e6, hwk, hwk2, hqz, hqz2, hqt, htq, oblR, oblQ, oblE, loadA]
   refine hold ⟨k, by omega, out ++ [sm], .tok t', v2, s2, by simp, by simp [b1], by simp [hqr', hrt, hrz2], by omega, by simp; omega, .inr ⟨t', rfl, ht1, by simp; omega, by omega, fun e' => ht4 _ e'.symm rfl, by simp [htq], by simp⟩, hM2.toR hK2.wf (by simp [hqo', hot, hM2.obj]) (fun p' h1 h2 => by have h3 := ht4 p' h1; have h4 := hqx2 p' h1; simp [h3, h4]) (by simp) (Kc.refl 0 s2) (by omega), hw2, Kp.over hKz2 (fun p' h1 h2 => by have h3 : p' ≠ t' := (by omega); have h4 : p' ≠ q := (by omega); simp [h3, h4]) (by simp) (by repeat first | exact hK2.wf | (refine zb ?_ ?_; rotate_left; focus (first | (simp; done) | omega | (simp; omega))) | refine yf ?_ _ | refine zk ?_), fun e' => hqx2 _ e'.symm rfl, fun e' => hrx2 _ e'.symm rfl, hst2⟩
  ·have hemp : stmtsM (SM true false) k sj = ([], sj) := by
    cases k with
    | zero => rfl
    | succ k => simp only [stmtsM]; rw [if_neg (fun hh => hgo ⟨by omega, hh⟩)]
   rw [hemp] at hst
   simp only [List.append_nil] at hst
   rw [hst]
   have hM' := hM.less (c' := 103) (by omega)
   have hqx : ∀ p', rowId vj = some p' → p' ≠ q := fun p' h1 h2 => hrq (by rw [h1, h2])
   have hrx : ∀ p', rowId vj = some p' → p' ≠ r := fun p' h1 h2 => hrr (by rw [h1, h2])
   have ers := fun n => Sm.erase_cellsL n out
   have erf := fun n => erase_row Fu.cells n (Fu.erase_cells n) fs
   have ere := fun n => Ex.erase_cellsL n []
   have era := fun n => erase_row Ar.cells n (fun x => by simp [Ar.cells, eraseL, eraseA]) arrsM
   have baf := xb _ Fu.bare_cells fs
   have bap := xb _ Ar.bare_cells arrsM
   have bas := Sm.bare_cellsL out
   have ln := Sm.cellsL_len out
   have hcond : (k = 0 ∧ ∃ b : Bool, b = true) ∨ (0 < k ∧ ¬ 0 < sj.left) := by
    rcases Nat.eq_zero_or_pos k with h0 | h0
    ·exact .inl ⟨h0, true, rfl⟩
    ·exact .inr ⟨h0, fun hh => hgo ⟨h0, hh⟩⟩
   clear hst hgo hemp hfr
   rcases hcond with ⟨rfl, -⟩ | ⟨hk0, hl0⟩
   ·simp -dsimp -implicitDefEqProofs [e2, e3, e4, e6, hzo, loadA]
    refine zt (m26 (hM'.toR hwz (by simp [hM.obj]) (fun p' h1 h2 => by simp) (by simp) (Kc.refl 0 sj) (by omega))) ?_
    have kx := zi (bs := bs) sj
    have hx := yj bs sj
    have htl : tailM bs sj = if (nextM bs sj).1 % 4 = 0 then ([.mk 5 0 0 0 [] (exprM bs 3 3 (nextM bs sj).2).1 zE [.mk 9 0 0 0 [] zE zE [] []] [], (storeM bs (exprM bs 3 3 (nextM bs sj).2).2).1], (storeM bs (exprM bs 3 3 (nextM bs sj).2).2).2) else ([], (nextM bs sj).2) := by simp [tailM]
    rw [htl]
    clear htl
    generalize nextM bs sj = Rx at *
    obtain ⟨u, sy⟩ := Rx
    simp only at kx hx ⊢
    have r4 : (u : Int).tmod 4 = ((u % 4 : Nat) : Int) := yz u 4
    generalize u % 4 = w at *
    by_cases hw0 : w = 0
    ·have bw : ((w : Int) == 0) = true := by simp; omega
     rw [if_pos hw0]
     simp -dsimp -implicitDefEqProofs [e2, e3, e4, e6, hzo, hqz, hqo, hqo', r4, bw, loadA]
     refine zt (E3 bs _ _ _ sy 3 (hM'.toR hwz (by simp [hM.obj]) (fun p' h1 h2 => by simp [h2]) (by simp) kx (by omega)) (.inr (.inr rfl))) ?_
     have k1 := K3 bs 3 sy
     generalize exprM bs 3 3 sy = R1 at *
     obtain ⟨⟨xk, xo, xt, xn, xv, xa⟩, s1⟩ := R1
     simp only [Ex.cells] at k1 ⊢
     have bxa := Ex.bare_cellsL xa
     have exa := fun n => Ex.erase_cellsL n xa
     simp -dsimp -implicitDefEqProofs [e2, e3, e4, e6, hzo, hqz, hqo, hqo', r4, bw, loadA]
     refine zt (d31 (hM'.toR hwz (by simp) (fun p' h1 h2 => by simp [h2]) (by simp) (kx.trans k1 (Nat.le_refl _)) (by omega))) ?_
     generalize storeM bs s1 = R2 at *
     obtain ⟨sm, s2⟩ := R2
     simp only
     have l2 := Sm.cells_len sm
     have bsm := Sm.bare_cells sm
     have esm := fun n => Sm.erase_cells n sm
     generalize hcsm : sm.cells = c2 at *
     simp -dsimp -implicitDefEqProofs [e2, e3, e4, e6, hzo, hqz, hqo, hqo', r4, bw, l2, ln, loadA]
     rw [if_pos ⟨by unfold big; omega, by unfold big; omega⟩]
     obtain ⟨t', happ, ht1, ht2, ht3, ht4, ht5⟩ := out_app (b := 26) (id := z.next + 23) (z2 := (z.bump 26).put o (Mo bs vj s2)) hout hwz (kp_own _ (x8 (xy (zk hwz) (show (z.bump 26).objs o = _ from hM.obj)) _)) hvj (by omega) (by omega) hKn hzlt
     have hqt := ht5 _ _ _ hqz
     have hrt := ht5 _ _ _ hrz
     have htq : ¬ t' = q := fun e => hqt e.symm
     have htr : ¬ t' = r := fun e => hrt e.symm
     have hot : ¬ o = t' := fun e => ht3 e.symm
     rw [happ (z.next + 13) 10 _ _ _ (by omega)]
     unfold zeroKe at hrz
     simp -dsimp -implicitDefEqProofs [e2, e3, e4, e6, hqz, hrz, hqo, hro, hqr, hqr', hqt, htq, hrt, htr, oblR, oblQ, oblE, loadA]
     refine hold (finB_pure hwf (fun p' h1 => by have h2 : p' ≠ q := (by omega); have h3 : p' ≠ r := (by omega); have h4 : p' ≠ o := (by omega); have h5 := hK.same p' h1 h4 (by simp); have h6 : p' ≠ t' := (by omega); simp [h2, h3, h4, h5, h6]) (by simp [Ke.cells, eraseA, eraseL, ym, arrsV, parsV, ers, erf, ere, era, AV.bare, AV.bareL, zm, bas, baf, bap, Sm.cellsL_append, Sm.cellsL, smCells2, zCells, Ex.cells, hcsm, bsm, esm, bxa, exa, rowOf, parsM, Pa.cells, al]))
    ·have bw : ((w : Int) == 0) = false := by simp; omega
     rw [if_neg hw0]
     unfold zeroKe at hrz
     simp -dsimp -implicitDefEqProofs [e2, e3, e4, e6, hzo, hqz, hrz, hqo, hqo', hro, hro', hqr, hqr', r4, bw, loadA]
     refine hold (finB_pure hwf (fun p' h1 => by have h2 : p' ≠ q := (by omega); have h3 : p' ≠ r := (by omega); have h4 : p' ≠ o := (by omega); have h5 := hK.same p' h1 h4 (by simp); simp [h2, h3, h4, h5]) (by simp [Ke.cells, eraseA, eraseL, ym, arrsV, parsV, ers, erf, ere, era, AV.bare, AV.bareL, zm, bas, baf, bap, rowOf, parsM, Pa.cells, al]))
   ·have hki : (0 : Int) < (k : Int) := by omega
    simp -dsimp -implicitDefEqProofs [e2, e3, e4, e6, hk0, hki, hl0, hzo, loadA]
    refine zt (m26 (hM'.toR hwz (by simp [hM.obj]) (fun p' h1 h2 => by simp) (by simp) (Kc.refl 0 sj) (by omega))) ?_
    have kx := zi (bs := bs) sj
    have hx := yj bs sj
    have htl : tailM bs sj = if (nextM bs sj).1 % 4 = 0 then ([.mk 5 0 0 0 [] (exprM bs 3 3 (nextM bs sj).2).1 zE [.mk 9 0 0 0 [] zE zE [] []] [], (storeM bs (exprM bs 3 3 (nextM bs sj).2).2).1], (storeM bs (exprM bs 3 3 (nextM bs sj).2).2).2) else ([], (nextM bs sj).2) := by simp [tailM]
    rw [htl]
    clear htl
    generalize nextM bs sj = Rx at *
    obtain ⟨u, sy⟩ := Rx
    simp only at kx hx ⊢
    have r4 : (u : Int).tmod 4 = ((u % 4 : Nat) : Int) := yz u 4
    generalize u % 4 = w at *
    by_cases hw0 : w = 0
    ·have bw : ((w : Int) == 0) = true := by simp; omega
     rw [if_pos hw0]
     simp -dsimp -implicitDefEqProofs [e2, e3, e4, e6, hzo, hqz, hqo, hqo', r4, bw, loadA]
     refine zt (E3 bs _ _ _ sy 3 (hM'.toR hwz (by simp [hM.obj]) (fun p' h1 h2 => by simp [h2]) (by simp) kx (by omega)) (.inr (.inr rfl))) ?_
     have k1 := K3 bs 3 sy
     generalize exprM bs 3 3 sy = R1 at *
     obtain ⟨⟨xk, xo, xt, xn, xv, xa⟩, s1⟩ := R1
     simp only [Ex.cells] at k1 ⊢
     have bxa := Ex.bare_cellsL xa
     have exa := fun n => Ex.erase_cellsL n xa
     simp -dsimp -implicitDefEqProofs [e2, e3, e4, e6, hzo, hqz, hqo, hqo', r4, bw, loadA]
     refine zt (d31 (hM'.toR hwz (by simp) (fun p' h1 h2 => by simp [h2]) (by simp) (kx.trans k1 (Nat.le_refl _)) (by omega))) ?_
     generalize storeM bs s1 = R2 at *
     obtain ⟨sm, s2⟩ := R2
     simp only
     have l2 := Sm.cells_len sm
     have bsm := Sm.bare_cells sm
     have esm := fun n => Sm.erase_cells n sm
     generalize hcsm : sm.cells = c2 at *
     simp -dsimp -implicitDefEqProofs [e2, e3, e4, e6, hzo, hqz, hqo, hqo', r4, bw, l2, ln, loadA]
     rw [if_pos ⟨by unfold big; omega, by unfold big; omega⟩]
     obtain ⟨t', happ, ht1, ht2, ht3, ht4, ht5⟩ := out_app (b := 26) (id := z.next + 23) (z2 := (z.bump 26).put o (Mo bs vj s2)) hout hwz (kp_own _ (x8 (xy (zk hwz) (show (z.bump 26).objs o = _ from hM.obj)) _)) hvj (by omega) (by omega) hKn hzlt
     have hqt := ht5 _ _ _ hqz
     have hrt := ht5 _ _ _ hrz
     have htq : ¬ t' = q := fun e => hqt e.symm
     have htr : ¬ t' = r := fun e => hrt e.symm
     have hot : ¬ o = t' := fun e => ht3 e.symm
     rw [happ (z.next + 13) 10 _ _ _ (by omega)]
     unfold zeroKe at hrz
     simp -dsimp -implicitDefEqProofs [e2, e3, e4, e6, hqz, hrz, hqo, hro, hqr, hqr', hqt, htq, hrt, htr, oblR, oblQ, oblE, loadA]
     refine hold (finB_pure hwf (fun p' h1 => by have h2 : p' ≠ q := (by omega); have h3 : p' ≠ r := (by omega); have h4 : p' ≠ o := (by omega); have h5 := hK.same p' h1 h4 (by simp); have h6 : p' ≠ t' := (by omega); simp [h2, h3, h4, h5, h6]) (by simp [Ke.cells, eraseA, eraseL, ym, arrsV, parsV, ers, erf, ere, era, AV.bare, AV.bareL, zm, bas, baf, bap, Sm.cellsL_append, Sm.cellsL, smCells2, zCells, Ex.cells, hcsm, bsm, esm, bxa, exa, rowOf, parsM, Pa.cells, al]))
    ·have bw : ((w : Int) == 0) = false := by simp; omega
     rw [if_neg hw0]
     unfold zeroKe at hrz
     simp -dsimp -implicitDefEqProofs [e2, e3, e4, e6, hzo, hqz, hrz, hqo, hqo', hro, hro', hqr, hqr', r4, bw, loadA]
     refine hold (finB_pure hwf (fun p' h1 => by have h2 : p' ≠ q := (by omega); have h3 : p' ≠ r := (by omega); have h4 : p' ≠ o := (by omega); have h5 := hK.same p' h1 h4 (by simp); simp [h2, h3, h4, h5]) (by simp [Ke.cells, eraseA, eraseL, ym, arrsV, parsV, ers, erf, ere, era, AV.bare, AV.bareL, zm, bas, baf, bap, rowOf, parsM, Pa.cells, al]))
theorem mk_row {bs : List UInt8} {z : St} {o q : Nat} {l : List Pa} {n : Nat} {s : MS} {c : Nat} (hn : n = l.length) (ho : z.objs o = some (Mo bs (.row q n) s)) (hq : z.objs q = some (.row 45 2 (rowOf Pa.cells l))) (hql : q < z.next) (hs : s.vars = l) (hll : l.length + c ≤ 1000000) (ht : ∀ p ∈ l, p.typ = 1 ∨ p.typ = 2 ∨ p.typ = 3)
  (h1 : s.count + c ≤ 1000000) (h2 : (c : Int) - 1000000 ≤ s.left ∧ s.left ≤ 1000000) (h3 : s.at_ + c < 4611686018427387904) (h4 : bs.length ≤ big) : Mk bs z o (.row q n) s c := by
 subst hn
 exact ⟨ho, .inr ⟨q, [], by rw [hs], by rw [hs]; simpa using hq⟩, by rw [hs]; exact hll, by rw [hs]; exact ht, h1, h2, h3, h4, fun _ => hql⟩
def b12c : SCode := (.seq (.seq (.reg [m 43 3, oS 44 (.call 26 [(t 43)]), pE 45 (.bin .int .rem (t 44) (i 3)), pE 46 (.bin .int .eql (t 45) (i 0))]) (.cond (t 46) (.seq (.reg [m 47 3, oS 48 (.call 28 [(t 47)]), pE 49 (.lits 10 [(t 48)]), pE 50 (.fldA 5 (t 4)), ⟨none, none, (.store 1 (t 50) (t 49))⟩]) (.reg [m 51 3, pE 52 (.nilck (t 51)), pE 53 (.fldA 5 (t 52)), ⟨none, none, (.store 1 (t 53) (.lit (.bool true)))⟩])) .skip)) (.seq (.reg [m 54 3, pE 55 (.lits 2 []), pE 56 (.fldA 4 (t 4)), oS 57 (.load 1 false (t 56)), oS 58 (.appendR 45 2 24 (t 55) (t 57) 4), pE 59 (.nilck (t 54)), pE 60 (.fldA 2 (t 59)), ⟨none, none, (.store 1 (t 60) (t 58))⟩]) (.seq (.reg [m 61 3, pE 62 (.nilck (t 61)), pE 63 (.fldA 6 (t 62)), ⟨none, none, (.store 1 (t 63) (.lit (.bool true)))⟩]) (.seq (.reg [m 64 3, pE 65 (.nilck (t 64)), pE 66 (.fldA 4 (t 65)), ⟨none, none, (.store 1 (t 66) (i 12))⟩]) (.seq (.seq (.reg [m 67 3, oS 68 (.call 26 [(t 67)]), pE 69 (.bin .int .rem (t 68) (i 8)), pE 70 (.bin .int .add (i 1) (t 69)), m 6 70]) (.block 2 (.loop l12_0))) (.seq (.seq (.reg [m 89 3, oS 90 (.call 26 [(t 89)]), pE 91 (.bin .int .rem (t 90) (i 4)), pE 92 (.bin .int .eql (t 91) (i 0))]) (.cond (t 92) (.frz [4] (.draw [0, 1, 0, 4, 0, 16, 60, 0, 140, 508, 1023, 2047, 4095] [0, 1, 2, 3, 4, 5, 6, 7, 8, 9, 10, 11, 12] [pE 93 (.fldA 6 (t 4)), oS 94 (.load 1 false (t 93)), m 95 3, oS 96 (.call 30 [(t 95), (i 3), (i 3)]), pE 97 (.build [(.int .i64 0), (.int .i64 0), (.int .i64 0), (.int .i64 0), (.str []), (.int .i64 0), (.int .i64 0), (.int .i64 0), (.str []), (.int .i32 0), (.sl [] 0 .full), (.int .i64 0), (.int .i64 0), (.int .i64 0), (.str []), (.int .i32 0), (.sl [] 0 .full), (.sl [] 0 .full), (.sl [] 0 .full)] [(0, (1, (i 9)))]), pE 98 (.lits 19 [(t 97)]), pE 99 (.build [(.int .i64 0), (.int .i64 0), (.int .i64 0), (.int .i64 0), (.str []), (.int .i64 0), (.int .i64 0), (.int .i64 0), (.str []), (.int .i32 0), (.sl [] 0 .full), (.int .i64 0), (.int .i64 0), (.int .i64 0), (.str []), (.int .i32 0), (.sl [] 0 .full), (.sl [] 0 .full), (.sl [] 0 .full)] [(0, (1, (i 5))), (5, (6, (t 96))), (17, (1, (t 98)))]), m 100 3, oS 101 (.call 31 [(t 100)]), pE 102 (.lits 19 [(t 99), (t 101)]), oS 103 (.append false 54 19 240 (t 94) (t 102) 10), pE 104 (.fldA 6 (t 4)), ⟨none, none, (.store 1 (t 104) (t 103))⟩])) .skip)) (.seq (.reg [oS 105 (.load 7 true (t 4)), ⟨none, none, (.store 7 (t 2) (t 105))⟩]) .ret)))))))
def b12p5 : SCode := (.seq (.reg [m 43 3, oS 44 (.call 26 [(t 43)]), pE 45 (.bin .int .rem (t 44) (i 3)), pE 46 (.bin .int .eql (t 45) (i 0))]) (.cond (t 46) (.seq (.reg [m 47 3, oS 48 (.call 28 [(t 47)]), pE 49 (.lits 10 [(t 48)]), pE 50 (.fldA 5 (t 4)), ⟨none, none, (.store 1 (t 50) (t 49))⟩]) (.reg [m 51 3, pE 52 (.nilck (t 51)), pE 53 (.fldA 5 (t 52)), ⟨none, none, (.store 1 (t 53) (.lit (.bool true)))⟩])) .skip))
def b12p6 : SCode := (.reg [m 54 3, pE 55 (.lits 2 []), pE 56 (.fldA 4 (t 4)), oS 57 (.load 1 false (t 56)), oS 58 (.appendR 45 2 24 (t 55) (t 57) 4), pE 59 (.nilck (t 54)), pE 60 (.fldA 2 (t 59)), ⟨none, none, (.store 1 (t 60) (t 58))⟩])
def b12p7 : SCode := (.reg [m 61 3, pE 62 (.nilck (t 61)), pE 63 (.fldA 6 (t 62)), ⟨none, none, (.store 1 (t 63) (.lit (.bool true)))⟩])
def b12p8 : SCode := (.reg [m 64 3, pE 65 (.nilck (t 64)), pE 66 (.fldA 4 (t 65)), ⟨none, none, (.store 1 (t 66) (i 12))⟩])
theorem b12c_eq : b12c = .seq b12p5 (.seq b12p6 (.seq b12p7 (.seq b12p8 b12d))) := rfl
def setupM (s : MS) : MS := { s with vars := parsM, loads := true, left := 12 }
theorem m12c {bs : List UInt8} {st z : St} {o q r : Nat} {s : MS} {g sb : Int} {ee : Env} (hwf : st.wf) (hK : Kp o none st z none) (h : Mk bs z o (.sl [] 0 .full) s 30000) (hcnt : s.count = 0) (hat : s.at_ ≤ 10) (hbs : bs.length ≤ big) (hso : st.next ≤ o) (hsq : st.next ≤ q) (hsr : st.next ≤ r) (hqo : q ≠ o) (hro : r ≠ o) (hqr : q ≠ r)
  (hqz : z.objs q = some (.cells 38 [.str [107], vi g, vi sb, arrsV, parsV, .sl [] 0 .full, .sl [] 0 .full])) (hrz : z.objs r = some (.cells 38 zeroKe)) (f2 : ee 2 = .ptr r 0) (f3 : ee 3 = .ptr o 0) (f4 : ee 4 = .ptr q 0) :
  awp Tryz.prog w0 base b12c ee [] z (EndsK Tryz.prog w0 base [SRes.cell 2 7 true] fun v S => FinB st S v (.agg (Ke.mk [107] g sb arrsM parsM (headM bs s).1 ((stmtsM (stmtM bs 3 false 2 true false) (1 + (nextM bs (setupM (headM bs s).2)).1 % 8) (nextM bs (setupM (headM bs s).2)).2).1 ++ (tailM bs (stmtsM (stmtM bs 3 false 2 true false) (1 + (nextM bs (setupM (headM bs s).2)).1 % 8) (nextM bs (setupM (headM bs s).2)).2).2).1)).cells) st) := by
 have hwz := hK.wf
 have hlt := hwz _ _ h.obj
 have hqo' : ¬ o = q := fun e => hqo e.symm
 have hro' : ¬ o = r := fun e => hro e.symm
 have hqr' : ¬ r = q := fun e => hqr e.symm
 have hql := hwz _ _ hqz
 have hrl := hwz _ _ hrz
 have hKn := hK.next
 rw [b12c_eq]
 generalize hR : b12d = R
 unfold b12p5
 simp -dsimp -implicitDefEqProofs [f2, f3, f4]
 refine zt (m26 (h.to hwz (by simp [h.obj]) (fun q h1 h2 => by simp) (by simp) (Kc.refl 0 s) (by omega))) ?_
 have kx := zi (bs := bs) s
 have hx := yj bs s
 have hhd : headM bs s = if (nextM bs s).1 % 3 = 0 then ([(funM bs (nextM bs s).2).1], { (funM bs (nextM bs s).2).2 with call := true }) else ([], (nextM bs s).2) := by simp [headM]
 rw [hhd]
 clear hhd
 generalize nextM bs s = Rx at *
 obtain ⟨x, sx⟩ := Rx
 simp only at kx hx ⊢
 have r3 : (x : Int).tmod 3 = ((x % 3 : Nat) : Int) := yz x 3
 generalize x % 3 = y at *
 by_cases hy : y = 0
 ·have by0 : ((y : Int) == 0) = true := by simp; omega
  rw [if_pos hy]
  simp -dsimp -implicitDefEqProofs [f2, f3, f4, r3, by0]
  have hMz := h.to (z := (z.bump 9).put o (Mo bs (.sl [] 0 .full) sx)) (c' := 22921) hwz (by simp) (fun q h1 h2 => by simp [h2]) (by simp) kx (by omega)
  have hwz9 : ((z.bump 9).put o (Mo bs (.sl [] 0 .full) sx)).wf := zb (zk hwz) (by simp; omega)
  refine yu (w28 (c := 22921) hwz9 hMz (by omega) (by have := kx.at_; omega) (by rw [kx.count]; omega) rfl) (by simp [AV.bareL, AV.bare]) fun v z2 hv => ?_
  obtain ⟨rfl, v2, hM2, hw2, hK2⟩ := hv
  have hnx := hK2.next
  simp only [put_next, bump_next] at hnx
  have hqz2 : z2.objs q = some (.cells 38 [.str [107], vi g, vi sb, arrsV, parsV, .sl [] 0 .full, .sl [] 0 .full]) := by rw [hK2.same q (by simp; omega) hqo (by simp)]; simp [hqo, hqz]
  have hrz2 : z2.objs r = some (.cells 38 zeroKe) := by rw [hK2.same r (by simp; omega) hro (by simp)]; simp [hro, hrz]
  have hwz2 := hK2.wf
  have hlt2 := hwz2 _ _ hM2.obj
  have hql2 := hwz2 _ _ hqz2
  have hrl2 := hwz2 _ _ hrz2
  have hc2 := hM2.cnt
  have ha2 := hM2.at_
  have hK3 : Kp o none st z2 (rowId v2) := (Kp.over hK (S := (z.bump 9).put o (Mo bs (.sl [] 0 .full) sx)) (fun p h1 h2 => by simp [h2]) (by simp) hwz9).trans hK2
  have lf := Fu.cells_len (funM bs sx).1
  have bf := Fu.bare_cells (funM bs sx).1
  have hrow : rowOf Fu.cells [(funM bs sx).1] = (funM bs sx).1.cells := by simp [xj]
  generalize funM bs sx = F at *
  obtain ⟨fu, s2⟩ := F
  simp only at *
  have hmo := hM2.obj
  rw [Mo_def] at hmo
  have hXo : ¬ z2.next + 8 = o := by omega
  have hoX : ¬ o = z2.next + 8 := by omega
  have hXq : ¬ z2.next + 8 = q := by omega
  have hqX : ¬ q = z2.next + 8 := by omega
  have hrX : ¬ r = z2.next + 8 := by omega
  have b72 : 72 ≤ big := by unfold big; omega
  have b3 : 3 ≤ big := by unfold big; omega
  unfold b12p6 b12p7 b12p8
  simp -dsimp -implicitDefEqProofs [f2, f3, f4, r3, by0, lf, hmo, hqz2, hqo, hqo', hoX, hXo, parsV, b72, b3, loadA]
  subst hR
  exact m12d (q := q) (r := r) (vj := .row (z2.next + 8) 3) (s := setupM { s2 with call := true }) (fs := [fu]) hwf ⟨by simp; omega, fun p h1 h2 h3 => by have h4 : p ≠ z2.next + 8 := (by omega); have h5 : p ≠ q := (by omega); have h6 := hK3.same p h1 h2 (by simp); simp [h2, h4, h5, h6], .inr ⟨z2.next + 8, rfl, by omega⟩, (by repeat first | exact hwz2 | (refine zb ?_ ?_; rotate_left; focus (first | (simp; done) | omega | (simp; omega))) | refine yf ?_ _ | refine zk ?_)⟩
   (mk_row (l := parsM) rfl (by simp [hoX, hqo'] <;> rfl) (by simp [hXo, hXq] <;> rfl) (by simp <;> omega) rfl (by simp [parsM]) (by simp [parsM]) (by simp only [setupM]; omega) (by simp [setupM]) (by simp only [setupM]; omega) hbs)
   (fun _ _ _ e => by cases e) hso hsq hsr hqo hro hqr (fun e => by simp only [rowId, Option.some.injEq] at e; omega) (fun e => by simp only [rowId, Option.some.injEq] at e; omega) (by simp [hqo, hqX, hrow] <;> rfl) (by simp [hro, hrX, hqr', hrz2]) rfl (by simp [f2]) (by simp [f3]) (by simp [f4])
 ·have by0 : ((y : Int) == 0) = false := by simp; omega
  rw [if_neg hy]
  have b72 : 72 ≤ big := by unfold big; omega
  have b3 : 3 ≤ big := by unfold big; omega
  have hXo : ¬ z.next + 8 = o := by omega
  have hoX : ¬ o = z.next + 8 := by omega
  have hXq : ¬ z.next + 8 = q := by omega
  have hqX : ¬ q = z.next + 8 := by omega
  have hrX : ¬ r = z.next + 8 := by omega
  unfold b12p6 b12p7 b12p8
  simp -dsimp -implicitDefEqProofs [f2, f3, f4, r3, by0, Mo_def, hqz, hqo, hqo', hoX, hXo, parsV, b72, b3, loadA]
  subst hR
  exact m12d (q := q) (r := r) (vj := .row (z.next + 8) 3) (s := setupM sx) (fs := ([] : List Fu)) hwf ⟨by simp; omega, fun p h1 h2 h3 => by have h4 : p ≠ z.next + 8 := (by omega); have h5 : p ≠ q := (by omega); have h6 := hK.same p h1 h2 (by simp); simp [h2, h4, h5, h6], .inr ⟨z.next + 8, rfl, by omega⟩, (by repeat first | exact hwz | (refine zb ?_ ?_; rotate_left; focus (first | (simp; done) | omega | (simp; omega))) | refine yf ?_ _ | refine zk ?_)⟩
   (mk_row (l := parsM) rfl (by simp [hoX, hqo'] <;> rfl) (by simp [hXo, hXq] <;> rfl) (by simp <;> omega) rfl (by simp [parsM]) (by simp [parsM]) (by simp only [setupM]; rw [kx.count]; omega) (by simp [setupM]) (by simp only [setupM]; have := kx.at_; omega) hbs)
   (fun _ _ _ e => by cases e) hso hsq hsr hqo hro hqr (fun e => by simp only [rowId, Option.some.injEq] at e; omega) (fun e => by simp only [rowId, Option.some.injEq] at e; omega) (by simp [hqo, hqX, hqz, parsV] <;> rfl) (by simp [hro, hrX, hqr', hrz]) rfl (by simp [f2]) (by simp [f3]) (by simp [f4])
def b12p1 : SCode := (.frz [1] (.reg [oS 1 (.box 24 (t 0) 0), oS 2 (.alloc 38 (.agg [(.str []), (.int .i64 0), (.int .i64 0), (.sl [] 0 .full), (.sl [] 0 .full), (.sl [] 0 .full), (.sl [] 0 .full)]) 1)]))
def b12p2 : SCode := (.reg [pE 7 (.fldA 0 (t 1)), oS 8 (.load 1 false (t 7)), pE 9 (.build [(.sl [] 0 .full), (.int .i64 0), (.sl [] 0 .full), (.int .i64 0), (.int .i64 0), (.bool false), (.bool false)] [(0, (1, (t 8)))]), oS 10 (.box 75 (t 9) 3), m 3 10])
def b12p3 : SCode := (.draw [0, 0, 2, 6, 15, 31, 6, 0, 0, 0, 896, 2047, 0, 8191] [0, 1, 2, 3, 4, 5, 6, 7, 8, 9, 10, 11, 12, 13] [pE 11 (.lits 1 [(i 4), (i 1), (i 2), (i 8), (i 6)]), m 12 3, oS 13 (.call 26 [(t 12)]), pE 14 (.bin .int .rem (t 13) (i 5)), pE 15 (.idxA 1 (t 11) (t 14)), oS 16 (.load 1 false (t 15)), oS 17 (.call 27 []), pE 18 (.build [(.str []), (.int .i64 0)] [(0, (1, (.lit (.str [110])))), (1, (1, (i 1)))]), pE 19 (.build [(.str []), (.int .i64 0)] [(0, (1, (.lit (.str [116])))), (1, (1, (i 2)))]), pE 20 (.build [(.str []), (.int .i64 0)] [(0, (1, (.lit (.str [99])))), (1, (1, (i 3)))]), pE 21 (.lits 2 [(t 18), (t 19), (t 20)]), pE 22 (.build [(.str []), (.int .i64 0), (.int .i64 0), (.sl [] 0 .full), (.sl [] 0 .full), (.sl [] 0 .full), (.sl [] 0 .full)] [(0, (1, (.lit (.str [107])))), (1, (1, (t 16))), (2, (1, (i 1))), (3, (1, (t 17))), (4, (1, (t 21)))]), oS 4 (.alloc 38 (.agg [(.str []), (.int .i64 0), (.int .i64 0), (.sl [] 0 .full), (.sl [] 0 .full), (.sl [] 0 .full), (.sl [] 0 .full)]) 12), ⟨none, none, (.store 7 (t 4) (t 22))⟩])
def b12p4 : SCode := (.seq (.reg [m 23 3, oS 24 (.call 26 [(t 23)]), pE 25 (.bin .int .rem (t 24) (i 3)), m 5 25]) (.block 0 (.loop l12_1)))
theorem b12_eq : b12 = .seq b12p1 (.seq b12p2 (.seq b12p3 (.seq b12p4 b12c))) := rfl
theorem del_put_ne' {s : St} {o o' : Nat} {x : AObj} (h : o' ≠ o) : (s.put o x).del o' = (s.del o').put o x := by
 simp only [St.del, St.put, St.mk.injEq, and_true]
 funext j
 simp only [upd]
 by_cases h1 : j = o'
 ·by_cases h2 : j = o
  ·exact absurd (h1.symm.trans h2) h
  ·simp [h1, h]
 ·by_cases h2 : j = o
  ·simp [h1, h2, Ne.symm h]
  ·simp [h1, h2]
theorem d12 (st : St) (bs : List UInt8) : Det Tryz.prog w0 base 12 [.agg [bytesV bs]] st (.agg (madeM bs).cells) st := by
 refine zh (zp Tryz.func12 r12) fun hwf hfit => uh Tryz.func12 r12 rfl ?_
 have hbs : bs.length ≤ big := hfit.1.1.1
 clear hfit
 have hn0 := zj hwf
 have hnn := zf hwf
 have hd1 : ∀ k, st.next ≠ st.next + (k + 1) := fun k => by omega
 have hd1' : st.next ≠ st.next + 1 := by omega
 have hd5' : st.next ≠ st.next + 5 := by omega
 rw [b12_eq]
 generalize hR : b12c = R
 unfold b12p1 b12p2 b12p3 b12p4
 have hM0 : ∀ z : St, z.objs (st.next + 5) = some (Mo bs (.sl [] 0 .full) startM) → Mk bs z (st.next + 5) (.sl [] 0 .full) startM 30002 := fun z hz =>
  mk_lit (l := []) rfl hz rfl (by simp) (by simp) (by simp [startM]) (by simp [startM]) (by simp [startM]) hbs
 simp -dsimp -implicitDefEqProofs [hn0, hnn, zz, del_put_ne', hd1', hd5', zy, zx, zw, zu, loadA, bytesV]
 refine zt (m26 ((hM0 _ (by simp [Mo_def, startM])).less (c' := 1) (by omega))) ?_
 have kx := zi (bs := bs) startM
 have hx := yj bs startM
 have hmm : madeM bs = ⟨[107], ([4, 1, 2, 8, 6] : List Int)[(nextM bs startM).1 % 5]?.getD 0, subM (([4, 1, 2, 8, 6] : List Int)[(nextM bs startM).1 % 5]?.getD 0) ((nextM bs (nextM bs startM).2).1 % 3) 1, arrsM, parsM, (headM bs (nextM bs (nextM bs startM).2).2).1,
   ((stmtsM (stmtM bs 3 false 2 true false) (1 + (nextM bs (setupM (headM bs (nextM bs (nextM bs startM).2).2).2)).1 % 8) (nextM bs (setupM (headM bs (nextM bs (nextM bs startM).2).2).2)).2).1 ++ (tailM bs (stmtsM (stmtM bs 3 false 2 true false) (1 + (nextM bs (setupM (headM bs (nextM bs (nextM bs startM).2).2).2)).1 % 8) (nextM bs (setupM (headM bs (nextM bs (nextM bs startM).2).2).2)).2).2).1)⟩ := rfl
 rw [hmm]
 clear hmm
 generalize nextM bs startM = Rx at *
 obtain ⟨x, sx⟩ := Rx
 simp only at kx hx ⊢
 have r5 : (x : Int).tmod 5 = ((x % 5 : Nat) : Int) := yz x 5
 have y5 : x % 5 < 5 := Nat.mod_lt _ (by omega)
 generalize x % 5 = y at *
 have hyi : (y : Int) < 5 := by omega
 have hgg : ∀ h, ([vi 4, vi 1, vi 2, vi 8, vi 6] : List AV)[y]'h = (vi (([4, 1, 2, 8, 6] : List Int)[y]?.getD 0)) := fun hy => vx [4, 1, 2, 8, 6] y hy
 have hg0 : 0 ≤ ([4, 1, 2, 8, 6] : List Int)[y]?.getD 0 ∧ ([4, 1, 2, 8, 6] : List Int)[y]?.getD 0 ≤ 8 := by
  have : ∀ y, y < 5 → 0 ≤ ([4, 1, 2, 8, 6] : List Int)[y]?.getD 0 ∧ ([4, 1, 2, 8, 6] : List Int)[y]?.getD 0 ≤ 8 := by decide
  exact this y y5
 generalize ([4, 1, 2, 8, 6] : List Int)[y]?.getD 0 = g at *
 simp -dsimp -implicitDefEqProofs [hn0, hnn, r5, y5, hyi, hgg, loadA]
 refine zt (d27 _) ?_
 simp -dsimp -implicitDefEqProofs [hn0, hnn, r5, y5, hyi, hgg, zy, zx, zw, zu, loadA]
 have hM1 : ∀ z : St, z.objs (st.next + 5) = some (Mo bs (.sl [] 0 .full) sx) → Mk bs z (st.next + 5) (.sl [] 0 .full) sx 30001 := fun z hz =>
  mk_lit (l := []) rfl hz kx.vars (by simp) (by simp) (by rw [kx.count]; simp [startM]) (by rw [kx.left]; simp [startM]) (by have := kx.at_; simp [startM] at this; omega) hbs
 refine zt (m26 ((hM1 _ (by simp)).less (c' := 1) (by omega))) ?_
 have ky := zi (bs := bs) sx
 have hy := yj bs sx
 generalize nextM bs sx = Ry at *
 obtain ⟨x2, sy⟩ := Ry
 simp only at ky hy ⊢
 have r3 : (x2 : Int).tmod 3 = ((x2 % 3 : Nat) : Int) := yz x2 3
 have y3 : x2 % 3 < 3 := Nat.mod_lt _ (by omega)
 generalize x2 % 3 = n at *
 have kxy := kx.trans ky (Nat.le_refl _)
 have hM2 : ∀ z : St, z.objs (st.next + 5) = some (Mo bs (.sl [] 0 .full) sy) → Mk bs z (st.next + 5) (.sl [] 0 .full) sy 30000 := fun z hz =>
  mk_lit (l := []) rfl hz kxy.vars (by simp) (by simp) (by rw [kxy.count]; simp [startM]) (by rw [kxy.left]; simp [startM]) (by have := kxy.at_; simp [startM] at this; omega) hbs
 simp -dsimp -implicitDefEqProofs [r3, loadA]
 refine loop_by (fun k e z => ∃ sb : Int, e 5 = vi k ∧ z.objs (st.next + 19) = some (.cells 38 [.str [107], vi g, vi sb, arrsV, parsV, .sl [] 0 .full, .sl [] 0 .full]) ∧ z.objs (st.next + 5) = some (Mo bs (.sl [] 0 .full) sy) ∧ z.objs (st.next + 1) = some (.cells 38 zeroKe) ∧
  (∀ p, p < st.next → z.objs p = st.objs p) ∧ z.wf ∧ st.next + 20 ≤ z.next ∧ subM g n 1 = subM g k sb ∧ k ≤ 2 ∧ 1 ≤ sb ∧ sb * 2 ^ k ≤ 4) n ?_ (by decide) ?_
 ·refine ⟨1, by simp, by simp [arrsV, parsV], by simp, by simp [zeroKe], fun p h1 => by simp [h1, zx, zy], (by repeat first | exact zk hwf | exact hwf | (refine zb ?_ ?_; rotate_left; focus (first | (simp; done) | omega | (simp; omega))) | refine yf ?_ _ | refine zk ?_), by simp, rfl, by omega, by omega, ?_⟩
  rcases (show n = 0 ∨ n = 1 ∨ n = 2 by omega) with rfl | rfl | rfl <;> decide
 ·rintro k e z hfr ⟨sb, e5, hqz, hoz, hrz, hkeep, hzw, hzn, hsub, hk2, hs1, hs4⟩
  have e2 : e 2 = .ptr (st.next + 1) 0 := by rw [hfr 2 rfl]; simp
  have e3 : e 3 = .ptr (st.next + 5) 0 := by rw [hfr 3 rfl]; simp
  have e4 : e 4 = .ptr (st.next + 19) 0 := by rw [hfr 4 rfl]; simp
  unfold l12_1
  have hexit : ∀ (e' : Env) (b : Nat), e' 2 = .ptr (st.next + 1) 0 → e' 3 = .ptr (st.next + 5) 0 → e' 4 = .ptr (st.next + 19) 0 → subM g n 1 = sb → awp Tryz.prog w0 base b12c e' [] (z.bump b) (EndsK Tryz.prog w0 base [SRes.cell 2 7 true] fun v s => FinB st s v (.agg (Ke.mk [107] g (subM g n 1) arrsM parsM (headM bs sy).1 ((stmtsM (stmtM bs 3 false 2 true false) (1 + (nextM bs (setupM (headM bs sy).2)).1 % 8) (nextM bs (setupM (headM bs sy).2)).2).1 ++ (tailM bs (stmtsM (stmtM bs 3 false 2 true false) (1 + (nextM bs (setupM (headM bs sy).2)).1 % 8) (nextM bs (setupM (headM bs sy).2)).2).2).1)).cells) st) := by
   intro e' b g2 g3 g4 gs
   rw [gs]
   exact m12c (o := st.next + 5) (q := st.next + 19) (r := st.next + 1) hwf ⟨by simp; omega, fun p h1 _ _ => hkeep p h1, .inl rfl, zk hzw⟩ (hM2 _ hoz) (by rw [kxy.count]; rfl) (by have := kxy.at_; simp [startM] at this; omega) hbs (by omega) (by omega) (by omega) (by omega) (by omega) (by omega) hqz hrz g2 g3 g4
  cases k with
  | zero =>
   simp -dsimp -implicitDefEqProofs [e2, e3, e4, e5, hqz, loadA]
   subst hR
   exact hexit _ _ (by simp [e2]) (by simp [e3]) (by simp [e4]) (by rw [hsub]; rfl)
  | succ k' =>
   have hkp : (0 : Int) < ((k' + 1 : Nat) : Int) := by omega
   have hp1 : (1 : Int) ≤ 2 ^ k' := by rcases (show k' = 0 ∨ k' = 1 by omega) with rfl | rfl <;> decide
   have hs4' : 2 * sb * 2 ^ k' ≤ 4 := by rw [show 2 * sb * 2 ^ k' = sb * 2 ^ (k' + 1) by rw [Int.pow_succ, Int.mul_assoc, Int.mul_comm 2, Int.mul_assoc]]; exact hs4
   have hsb2 : 2 * sb ≤ 4 := by
    have := Int.mul_le_mul_of_nonneg_left hp1 (show 0 ≤ 2 * sb by omega)
    omega
   have hwr : IntKind.i64.wrap (2 * sb) = 2 * sb := yy (by omega) (by omega)
   have hne : ¬ 2 * sb = 0 := by omega
   have htm : g.tmod (2 * sb) = g % (2 * sb) := Int.tmod_eq_emod_of_nonneg hg0.1
   have hwk : IntKind.i64.wrap (((k' + 1 : Nat) : Int) - 1) = ((k' : Nat) : Int) := by
    rw [show ((k' + 1 : Nat) : Int) - 1 = (k' : Int) by omega]; exact yy (by omega) (by omega)
   by_cases hgz : g % (2 * sb) = 0
   ·simp -dsimp -implicitDefEqProofs [e2, e3, e4, e5, hqz, loadA, hwr, hne, htm, hgz]
    refine hold ⟨k', by omega, 2 * sb, ?_, by simp, by simp [hoz], by simp [hrz], fun p h1 => ?_, ?_, ?_, ?_, by omega, by omega, hs4'⟩
    ·have hwk2 : IntKind.i64.wrap ((k' : Nat) : Int) = (k' : Nat) := yy (by omega) (by omega)
     simp [e5, hwk2]
    ·have h4 : p ≠ st.next + 19 := by omega
     simp [h4, hkeep p h1]
    ·exact zk (zb (zk hzw) (by simp; omega))
    ·simp; omega
    ·rw [hsub]; simp [subM, hgz]
   ·have hgb : ((g % (2 * sb)) == 0) = false := by simp [hgz]
    simp -dsimp -implicitDefEqProofs [e2, e3, e4, e5, hqz, loadA, hwr, hne, htm, hgb]
    subst hR
    exact hexit _ _ (by simp [e2]) (by simp [e3]) (by simp [e4]) (by rw [hsub]; simp [subM, hgz])
end
section
mutual
def wE : Ex → Nat
 | .mk _ _ _ n _ a => 80 + n.length + wEL a
def wEL : List Ex → Nat
 | [] => 0
 | e :: l => wE e + wEL l
end
def sumL (r : List (Str × Bool)) : Nat := (r.map (·.1.length)).sum
theorem xr (l : List (Str × Bool)) : (cats l).1.length = sumL l := by
 induction l with
 | nil => rfl
 | cons x l ih => simp [cats, cat, ih, sumL] at *
theorem commasT_len (r : List (Str × Bool)) : ∀ n, sumL (commas n r) ≤ sumL r + 2 * r.length := by
 induction r with
 | nil => intro n; simp [commas, sumL]
 | cons x l ih => intro n; cases n <;> (simp only [commas, sumL, List.map_cons, List.sum_cons, List.length_cons, List.length_nil] at *; have := ih 1; try have := ih (‹Nat› + 2)) <;> omega
theorem vp (a b : List (Str × Bool)) : sumL (a ++ b) = sumL a + sumL b := by simp [sumL]
theorem listT_lenP (r : List (Str × Bool)) : (listP r).1.length ≤ sumL r + 2 * r.length + 2 := by
 rw [listP, xr]
 have := commasT_len r 0
 have h1 : sumL (([40], false) :: (commas 0 r ++ [([41], false)])) = 1 + (sumL (commas 0 r) + 1) := by simp [sumL]
 omega
theorem v7 {n : Nat} (l : List Str) (h : ∀ x ∈ l, x.length ≤ n) (i : Int) : (pickP l i).1.length ≤ n := by
 unfold pickP pickW
 split
 ·split
  ·simp
  ·rename_i h1 _
   simp only [Option.getD_some]
   have : i.toNat < l.length := by omega
   rw [List.getD_eq_getElem?_getD, List.getElem?_eq_getElem this, Option.getD_some]
   exact h _ (List.getElem_mem _)
 ·simp
theorem fracT_len : ∀ f r, (fracP f r).length ≤ f
 | 0, r => by simp [fracP]
 | f + 1, r => by
  simp only [fracP, List.length_cons]
  split
  ·simp
  ·have := fracT_len f (r * 10 % 65536); omega
theorem textP_len (t v : Int) (h0 : -2147483648 ≤ v) (h1 : v ≤ 2147483647) : ((textP t v).getD []).length ≤ 50 := by
 unfold textP
 split
 ·have := itoa_fit v (by omega) (by omega)
  simp only [Option.getD_some]; omega
 split
 ·simp only [Option.getD_some, fixedP]
  have := itoa_fit ((v.natAbs / 65536 : Nat) : Int) (by omega) (by omega)
  have := fracT_len 17 (v.natAbs % 65536)
  simp only [List.length_append]
  have : (if v < 0 then ([45] : Str) else []).length ≤ 1 := by split <;> simp
  simp only [List.length_cons, List.length_nil]
  omega
 split
 ·simp only [Option.getD_some]; cases (v == 1) <;> simp [truthW]
 ·simp
theorem two_len (op : Int) (r : List (Str × Bool)) : (twoP op r).1.length ≤ sumL r + 2 * r.length + 40 := by
 unfold twoP
 split
 ·unfold binP
  split
  ·rw [xr]
   have h1 := v7 (n := 12) wChoices (by decide) (subW op 22)
   rename_i x y _
   have h2 := listT_lenP [x, y]
   simp only [sumL, List.map_cons, List.map_nil, List.sum_cons, List.sum_nil, List.length_cons, List.length_nil] at *
   omega
  ·rw [xr]
   have h1 := v7 (n := 12) wBinaries (by decide) (subW op 10)
   simp only [sumL, List.map_cons, List.map_nil, List.sum_cons, List.sum_nil, List.length_cons, List.length_nil] at *
   omega
 ·simp
theorem three_len (r : List (Str × Bool)) : (threeP r).1.length ≤ sumL r + 40 := by
 unfold threeP
 split
 ·rw [xr]; simp only [sumL, List.map_cons, List.map_nil, List.sum_cons, List.sum_nil, List.length_cons, List.length_nil] at *; omega
 ·simp
theorem one_len (r : List (Str × Bool)) : (oneP r).1.length ≤ sumL r + 40 := by
 unfold oneP
 split
 ·rw [xr]; simp only [sumL, List.map_cons, List.map_nil, List.sum_cons, List.sum_nil, List.length_cons, List.length_nil] at *; omega
 ·simp
theorem node_len (k op t : Int) (n : Str) (v : Int) (r : List (Str × Bool)) (h0 : -2147483648 ≤ v) (h1 : v ≤ 2147483647) : (nodeP k op t n v r).1.length ≤ sumL r + 2 * r.length + n.length + 78 := by
 have hl := listT_lenP r
 have h2 := two_len op r
 have h3 := three_len r
 have h4 := one_len r
 have h5 := textP_len t v h0 h1
 have h6 := v7 (n := 16) wIds (by decide) (subW op 1)
 have h7 := v7 (n := 16) wUnaries (by decide) (subW op 1)
 unfold nodeP
 repeat' split
 all_goals (try rw [xr]); simp only [sumL, List.map_cons, List.map_nil, List.sum_cons, List.sum_nil, List.length_cons, List.length_nil] at *; omega
mutual
theorem exprP_len : ∀ e : Ex, e.ok → (exprP e).1.length + 2 ≤ wE e
 | .mk k op t n v a, h => by
  simp only [exprP, wE]
  have h1 := node_len k op t n v (exprsP a) h.1.1 h.1.2
  have h2 := exprsP_len a h.2
  omega
theorem exprsP_len : ∀ l : List Ex, Ex.okL l → sumL (exprsP l) + 2 * (exprsP l).length ≤ wEL l
 | [], h => by simp [exprsP, sumL, wEL]
 | e :: l, h => by
  have h1 := exprP_len e h.1
  have h2 := exprsP_len l h.2
  simp only [exprsP, wEL, sumL, List.map_cons, List.sum_cons, List.length_cons] at *
  omega
end
def wStm (d nm : Nat) : Nat := 200 + 4 * d + nm
mutual
def wS : Sm → Nat → Nat
 | .mk _ _ _ _ n x y body els, d => wStm d n.length + wE x + wE y + wSL body (d + 2) + wSL els (d + 2)
def wSL : List Sm → Nat → Nat
 | [], _ => 0
 | s :: l, d => wS s d + (d + 1) + wSL l d
end
theorem lines_len (ind : Str) (l : List (Str × Bool)) : sumL (linesP ind l) = sumL l + (ind.length + 1) * l.length := by
 induction l with
 | nil => rfl
 | cons x l ih => simp only [linesP, sumL, List.map_cons, List.sum_cons, List.length_cons, List.length_nil, Nat.mul_add] at *; omega
theorem block_len (ind : Str) (x : Str × Bool) : (blockP ind x).1.length = x.1.length + ind.length + 3 := by
 simp only [blockP, xr, sumL, List.map_cons, List.map_nil, List.sum_cons, List.sum_nil, List.length_cons, List.length_nil, List.length_append]; omega
theorem index_len (x : Str × Bool) : (indexP' x).1.length = x.1.length + 2 := by
 simp only [indexP', xr, sumL, List.map_cons, List.map_nil, List.sum_cons, List.sum_nil, List.length_cons, List.length_nil, List.length_append]; omega
theorem param_len (n : Str) (t : Int) : (paramP n t).1.length ≤ n.length + 20 := by
 have h1 := v7 (n := 16) wTypes (by decide) (sub1 t)
 simp only [paramP, xr, sumL, List.map_cons, List.map_nil, List.sum_cons, List.sum_nil, List.length_cons, List.length_nil, List.length_append]; omega
theorem other_len (s : Sm) (hx : s.x.ok) (hy : s.y.ok) : (otherP s).1.length ≤ s.name.length + wE s.x + wE s.y + 150 := by
 have h1 := exprP_len s.x hx
 have h2 := exprP_len s.y hy
 have h3 := v7 (n := 16) wSimple (by decide) (subW s.kind 7)
 have h4 := v7 (n := 16) wScopes (by decide) (subW s.op 1)
 have h5 := v7 (n := 16) wAtomics (by decide) (indexP s.op wAtomOps)
 have h6 := v7 (n := 30) wCollects (by decide) (subW s.op 1)
 have h7 := listT_lenP [exprP s.x, exprP s.y]
 have h8 := listT_lenP [exprP s.x]
 have h9 := index_len (exprP s.x)
 unfold otherP
 repeat' split
 all_goals (try rw [xr]); simp only [sumL, List.map_cons, List.map_nil, List.sum_cons, List.sum_nil, List.length_cons, List.length_nil] at *; omega
mutual
theorem stmtP_len : ∀ s : Sm, s.ok → ∀ ind, (stmtP s ind).1.length ≤ wS s ind.length
 | .mk k op t b n x y body els, h, ind => by
  have hx := exprP_len x h.2.1
  have hy := exprP_len y h.2.2.1
  have hb := stmtsP_len body h.2.2.2.1 (ind ++ [32, 32])
  have he := stmtsP_len els h.2.2.2.2 (ind ++ [32, 32])
  have hi := itoa_fit b h.1.1 h.1.2
  have hp := param_len n t
  have ho := other_len (.mk k op t b n x y body els) h.2.1 h.2.2.1
  have h9 := index_len (exprP x)
  have lb := lines_len (ind ++ [32, 32]) (stmtsP body (ind ++ [32, 32]))
  have le := lines_len (ind ++ [32, 32]) (stmtsP els (ind ++ [32, 32]))
  have l2 : (ind ++ [32, 32]).length = ind.length + 2 := by simp
  rw [l2] at hb he
  have bb := block_len ind (cats (linesP (ind ++ [32, 32]) (stmtsP body (ind ++ [32, 32]))))
  have be := block_len ind (cats (linesP (ind ++ [32, 32]) (stmtsP els (ind ++ [32, 32]))))
  rw [xr] at bb be
  simp only [Sm.name, Sm.x, Sm.y] at ho
  simp only [stmtP, wS, wStm]
  split
  ·rw [xr]; simp only [sumL, List.map_cons, List.map_nil, List.sum_cons, List.sum_nil, List.length_cons, List.length_nil] at *; omega
  split
  ·rw [xr]; simp only [sumL, List.map_cons, List.map_nil, List.sum_cons, List.sum_nil, List.length_cons, List.length_nil] at *; omega
  split
  ·rw [xr]; simp only [sumL, List.map_cons, List.map_nil, List.sum_cons, List.sum_nil, List.length_cons, List.length_nil] at *; omega
  split
  ·rw [xr, vp]
   generalize wS_def : wSL body (ind.length + 2) = wb at *
   split
   ·simp only [sumL, List.map_cons, List.map_nil, List.sum_cons, List.sum_nil, List.length_cons, List.length_nil] at *; omega
   ·simp only [sumL, List.map_cons, List.map_nil, List.sum_cons, List.sum_nil, List.length_cons, List.length_nil] at *; omega
  split
  ·rw [xr]; simp only [sumL, List.map_cons, List.map_nil, List.sum_cons, List.sum_nil, List.length_cons, List.length_nil, List.length_append] at *; omega
  ·omega
theorem stmtsP_len : ∀ l : List Sm, Sm.okL l → ∀ ind : Str, sumL (linesP ind (stmtsP l ind)) ≤ wSL l ind.length
 | [], h, ind => by simp [stmtsP, linesP, sumL]
 | s :: l, h, ind => by
  have h1 := stmtP_len s h.1 ind
  have h2 := stmtsP_len l h.2 ind
  simp only [stmtsP, linesP, wSL, sumL, List.map_cons, List.sum_cons, List.length_cons, List.length_nil] at *
  omega
end
end
section
structure GE (k : Ke) (sc : Scope) (t : Int) (N W h : Nat) (e : Ex) : Prop where
 typ : exprT k sc e = (t, 0)
 good : (exprP e).2 = false
 ok : e.ok
 kind : e.kind ≠ 0
 over : ∀ d : Int, 0 ≤ d → d + h ≤ 30 → overE e d = false
 nodes : nodesE e ≤ N
 w : wE e ≤ W
theorem incW_eq {d : Int} (h0 : 0 ≤ d) (h1 : d ≤ 30) : incW d = d + 1 := yy (by omega) (by omega)
theorem uf {n : Str} (h : isNameP n = true) : n.length ≤ 12 := by
 unfold isNameP at h
 split at h
 ·simp at h
 ·simp only [Bool.and_eq_true, decide_eq_true_eq] at h; exact h.1.1.1
section
variable {k : Ke} {sc : Scope}
theorem GE.mono {t : Int} {N W h N' W' h' : Nat} {e : Ex} (g : GE k sc t N W h e) (h1 : N ≤ N') (h2 : W ≤ W') (h3 : h ≤ h') : GE k sc t N' W' h' e :=
 ⟨g.typ, g.good, g.ok, g.kind, fun d d0 d1 => g.over d d0 (by omega), by have := g.nodes; omega, by have := g.w; omega⟩
theorem ge_var {n : Str} {kd t a : Int} (hk : kd = 2 ∨ kd = 3) (hl : sc.lookup n = some ⟨kd, t, a⟩) (hn : isNameP n = true) : GE k sc t 1 92 0 (varX n) := by
 have hlen := uf hn
 refine ⟨?_, ?_, ?_, by simp [varX, Ex.kind], ?_, ?_, ?_⟩
 ·have : findP sc n [2, 3] = some ⟨kd, t, a⟩ := by rcases hk with rfl | rfl <;> simp [findP, hl]
  simp [varX, exprT, allT, nodeT, this]
 ·simp [varX, exprP, exprsP, nodeP, onlyP, cat, hn]
 ·simp [varX, Ex.ok, Ex.okL]
 ·intro d h0 h1; simp [varX, overE, overL]; omega
 ·simp [varX, nodesE, nodesL]
 ·simp [varX, wE, wEL]; omega
theorem ge_num {t v : Int} (ht : t = 1 ∨ t = 2 ∨ (t = 3 ∧ (v = 0 ∨ v = 1))) (h0 : -2147483648 ≤ v) (h1 : v ≤ 2147483647) : GE k sc t 1 92 0 (numX t v) := by
 refine ⟨?_, ?_, ?_, by simp [numX, Ex.kind], ?_, ?_, ?_⟩
 ·simp [numX, exprT, allT, nodeT]
 ·have : (textP t v).isNone = false := by
   rcases ht with rfl | rfl | ⟨rfl, h⟩
   ·simp [textP]
   ·simp [textP]
   ·simp [textP, h]
  simp [numX, exprP, exprsP, nodeP, onlyP, cat, this]
 ·simp [numX, Ex.ok, Ex.okL]; omega
 ·intro d h0 h1; simp [numX, overE, overL]; omega
 ·simp [numX, nodesE, nodesL]
 ·simp [numX, wE, wEL]
theorem ge_id {op : Int} (h : (pickP wIds (subW op 1)).2 = false) : GE k sc 1 1 92 0 (idX op) := by
 refine ⟨?_, ?_, ?_, by simp [idX, Ex.kind], ?_, ?_, ?_⟩
 ·simp [idX, exprT, allT, nodeT]
 ·simp [idX, exprP, exprsP, nodeP, onlyP, cat, h]
 ·simp [idX, Ex.ok, Ex.okL]
 ·intro d h0 h1; simp [idX, overE, overL]; omega
 ·simp [idX, nodesE, nodesL]
 ·simp [idX, wE, wEL]
theorem ge_un {op t t' : Int} {N W h : Nat} {e : Ex} (g : GE k sc t N W h e) (hu : unTypeP op t = (t', 0)) (hp : (pickP wUnaries (subW op 1)).2 = false) : GE k sc t' (N + 1) (W + 80) (h + 1) (unX op e) := by
 refine ⟨?_, ?_, ?_, by simp [unX, Ex.kind], ?_, ?_, ?_⟩
 ·simp [unX, exprT, allT, nodeT, g.typ, comb, hu]
 ·simp [unX, exprP, exprsP, nodeP, onlyP, cat, hp, w9, g.good]
 ·simp [unX, Ex.ok, Ex.okL, g.ok]
 ·intro d h0 h1
  simp only [unX, overE, overL, incW_eq h0 (by omega), g.over (d + 1) (by omega) (by omega)]
  simp; omega
 ·have := g.nodes; simp [unX, nodesE, nodesL]; omega
 ·have := g.w; simp [unX, wE, wEL]; omega
def binGood (op : Int) : Bool := if op = 22 ∨ op = 23 then !(pickP wChoices (subW op 22)).2 else !(pickP wBinaries (subW op 10)).2
theorem ge_bin {op t t' : Int} {N W h N' W' h' : Nat} {a b : Ex} (g : GE k sc t N W h a) (f : GE k sc t N' W' h' b) (hu : binTypeP op t t = (t', 0)) (hp : binGood op = true) : GE k sc t' (N + N' + 1) (W + W' + 80) (max h h' + 1) (binX op a b) := by
 refine ⟨?_, ?_, ?_, by simp [binX, Ex.kind], ?_, ?_, ?_⟩
 ·simp [binX, exprT, allT, nodeT, g.typ, f.typ, comb, hu]
 ·simp only [binX, exprP, exprsP, nodeP]
  simp only [binGood] at hp
  by_cases ho : op = 22 ∨ op = 23
  ·simp only [if_pos ho, Bool.not_eq_true'] at hp
   simp [onlyP, cat, twoP, binP, if_pos ho, hp, w9, g.good, f.good]
  ·simp only [if_neg ho, Bool.not_eq_true'] at hp
   simp [onlyP, cat, twoP, binP, if_neg ho, hp, g.good, f.good]
 ·simp [binX, Ex.ok, Ex.okL, g.ok, f.ok]
 ·intro d h0 h1
  simp only [binX, overE, overL, incW_eq h0 (by omega), g.over (d + 1) (by omega) (by omega), f.over (d + 1) (by omega) (by omega)]
  simp; omega
 ·have := g.nodes; have := f.nodes; simp [binX, nodesE, nodesL]; omega
 ·have := g.w; have := f.w; simp [binX, wE, wEL]; omega
theorem ge_cond {t : Int} {N W h : Nat} {c a b : Ex} (f : GE k sc 3 N W h c) (g : GE k sc t N W h a) (g' : GE k sc t N W h b) : GE k sc t (3 * N + 1) (3 * W + 80) (h + 1) (condX c a b) := by
 refine ⟨?_, ?_, ?_, by simp [condX, Ex.kind], ?_, ?_, ?_⟩
 ·simp [condX, exprT, allT, nodeT, g.typ, f.typ, g'.typ, comb]
 ·simp [condX, exprP, exprsP, nodeP, onlyP, cat, threeP, f.good, g.good, g'.good]
 ·simp [condX, Ex.ok, Ex.okL, g.ok, f.ok, g'.ok]
 ·intro d h0 h1
  simp only [condX, overE, overL, incW_eq h0 (by omega), g.over (d + 1) (by omega) (by omega), f.over (d + 1) (by omega) (by omega), g'.over (d + 1) (by omega) (by omega)]
  simp; omega
 ·have := g.nodes; have := f.nodes; have := g'.nodes; simp [condX, nodesE, nodesL]; omega
 ·have := g.w; have := f.w; have := g'.w; simp [condX, wE, wEL]; omega
theorem ge_load {n : Str} {t a : Int} {N W h : Nat} {e : Ex} (g : GE k sc 1 N W h e) (hl : sc.lookup n = some ⟨0, t, a⟩) (hn : isNameP n = true) : GE k sc t (N + 1) (W + 92) (h + 1) (loadX n e) := by
 have hlen := uf hn
 refine ⟨?_, ?_, ?_, by simp [loadX, Ex.kind], ?_, ?_, ?_⟩
 ·have : findP sc n [0] = some ⟨0, t, a⟩ := by simp [findP, hl]
  simp [loadX, exprT, allT, nodeT, g.typ, comb, this]
 ·simp [loadX, exprP, exprsP, nodeP, onlyP, cat, oneP, g.good, hn]
 ·simp [loadX, Ex.ok, Ex.okL, g.ok]
 ·intro d h0 h1
  simp only [loadX, overE, overL, incW_eq h0 (by omega), g.over (d + 1) (by omega) (by omega)]
  simp; omega
 ·have := g.nodes; simp [loadX, nodesE, nodesL]; omega
 ·have := g.w; simp [loadX, wE, wEL]; omega
theorem ge_call {n : Str} {i : Int} {f : Fu} {N W h : Nat} {a b : Ex} (g : GE k sc 1 N W h a) (g' : GE k sc 1 N W h b) (hl : sc.lookup n = some ⟨1, 1, i⟩) (hf : k.funcs[i.toNat]? = some f) (hfp : f.params.map (·.typ) = [1, 1]) (hft : f.typ = 1) (hn : isNameP n = true) :
  GE k sc 1 (2 * N + 1) (2 * W + 92) (h + 1) (callX n [a, b]) := by
 have hlen := uf hn
 refine ⟨?_, ?_, ?_, by simp [callX, Ex.kind], ?_, ?_, ?_⟩
 ·have : findP sc n [1] = some ⟨1, 1, i⟩ := by simp [findP, hl]
  simp [callX, exprT, allT, nodeT, g.typ, g'.typ, comb, this, hf, callT, hfp, hft]
 ·simp [callX, exprP, exprsP, nodeP, onlyP, cat, w9, g.good, g'.good, hn]
 ·simp [callX, Ex.ok, Ex.okL, g.ok, g'.ok]
 ·intro d h0 h1
  simp only [callX, overE, overL, incW_eq h0 (by omega), g.over (d + 1) (by omega) (by omega), g'.over (d + 1) (by omega) (by omega)]
  simp; omega
 ·have := g.nodes; have := g'.nodes; simp [callX, nodesE, nodesL]; omega
 ·have := g.w; have := g'.w; simp [callX, wE, wEL]; omega
end
structure Arrs (sc : Scope) : Prop where
 a : sc.lookup [97] = some ⟨0, 1, 0⟩
 f : sc.lookup [102] = some ⟨0, 2, 1⟩
 s : sc.lookup [115] = some ⟨0, 1, 2⟩
 p : sc.lookup [112] = some ⟨0, 1, 3⟩
 b : sc.lookup [98] = some ⟨0, 3, 4⟩
structure Cx (k : Ke) (sc : Scope) (s : MS) : Prop where
 vars : ∀ p ∈ s.vars, (∃ kd a, (kd = 2 ∨ kd = 3) ∧ sc.lookup p.name = some ⟨kd, p.typ, a⟩) ∧ isNameP p.name = true ∧ (p.typ = 1 ∨ p.typ = 2 ∨ p.typ = 3)
 arrs : s.loads = true → Arrs sc
 call : s.call = true → ∃ i f, sc.lookup [104] = some ⟨1, 1, i⟩ ∧ k.funcs[i.toNat]? = some f ∧ f.params.map (·.typ) = [1, 1] ∧ f.typ = 1
section
variable {k : Ke} {sc : Scope} {bs : List UInt8}
theorem Cx.kc {s s' : MS} {c : Nat} (h : Cx k sc s) (hk : Kc c s s') : Cx k sc s' := ⟨by rw [hk.vars]; exact h.vars, by rw [hk.loads]; exact h.arrs, by rw [hk.call]; exact h.call⟩
theorem Cx.next {s : MS} (h : Cx k sc s) : Cx k sc (nextM bs s).2 := h.kc (zi (bs := bs) s)
abbrev TyOk (t : Int) : Prop := t = 1 ∨ t = 2 ∨ t = 3
theorem nm_a : isNameP [97] = true := by decide +kernel
theorem nm_f : isNameP [102] = true := by decide +kernel
theorem nm_s : isNameP [115] = true := by decide +kernel
theorem nm_p : isNameP [112] = true := by decide +kernel
theorem nm_b : isNameP [98] = true := by decide +kernel
theorem nm_h : isNameP [104] = true := by decide +kernel
theorem ofL_mem {t : Int} {l : List Pa} {n : Str} (h : n ∈ ofL t l) : ∃ p ∈ l, p.name = n ∧ p.typ = t := by
 simp only [ofL, List.mem_map, List.mem_filter, beq_iff_eq] at h
 obtain ⟨p, ⟨h1, h2⟩, h3⟩ := h
 exact ⟨p, h1, h3, h2⟩
theorem next_lt' (s : MS) : (nextM bs s).1 < 256 := by
 simp only [nextM]
 split
 ·exact UInt8.toNat_lt _
 ·omega
theorem ids_ok : ∀ i : Nat, i < 7 → (pickP wIds (subW (1 + (i : Nat)) 1)).2 = false := by decide +kernel
theorem leafM_ge {t : Int} {s : MS} (ht : TyOk t) (h : Cx k sc s) : GE k sc t 1 92 0 (leafM bs t s).1 := by
 have hx := next_lt' (bs := bs) s
 have h' : Cx k sc (nextM bs s).2 := h.next
 simp only [leafM]
 generalize nextM bs s = r at *
 obtain ⟨x, s1⟩ := r
 simp only at hx h' ⊢
 unfold leafX
 split
 ·rename_i h1
  unfold ofM at h1 ⊢
  split at h1
  ·simp at h1
  ·rename_i h2
   rw [if_neg h2]
   simp only at h1 ⊢
   have hl : (nextM bs s1).1 % (ofL t s1.vars).length < (ofL t s1.vars).length := Nat.mod_lt _ (List.length_pos_iff.2 h2)
   rw [List.getElem?_eq_getElem hl, Option.getD_some]
   obtain ⟨p, hp, hn, hpt⟩ := ofL_mem (List.getElem_mem hl)
   obtain ⟨⟨kd, a, hkd, hlk⟩, hnm, hty⟩ := h'.vars p hp
   rw [← hn]
   rw [hpt] at hlk
   exact ge_var hkd hlk hnm
 split
 ·rename_i h1
  rw [h1.1]
  exact ge_id (by simpa using ids_ok (x / 4 % 7) (by omega))
 split
 ·exact ge_num (by omega) (by omega) (by omega)
 split
 ·exact ge_num (by omega) (by omega) (by omega)
 ·exact ge_num (by omega) (by omega) (by omega)
theorem ops_i : ∀ i : Nat, i < 12 → binTypeP (opsI[i]?.getD 0) 1 1 = (1, 0) ∧ binGood (opsI[i]?.getD 0) = true := by decide +kernel
theorem ops_f : ∀ i : Nat, i < 6 → binTypeP (opsF[i]?.getD 0) 2 2 = (2, 0) ∧ binGood (opsF[i]?.getD 0) = true := by decide +kernel
theorem ops_c : ∀ i : Nat, i < 6 → (binTypeP (([24, 25, 26, 27, 28, 29] : List Int)[i]?.getD 0) 1 1 = (3, 0) ∧ binTypeP (([24, 25, 26, 27, 28, 29] : List Int)[i]?.getD 0) 2 2 = (3, 0)) ∧ binGood (([24, 25, 26, 27, 28, 29] : List Int)[i]?.getD 0) = true := by decide +kernel
theorem ops_t : ∀ i : Nat, i < 5 → binTypeP (([17, 18, 19, 24, 25] : List Int)[i]?.getD 0) 3 3 = (3, 0) ∧ binGood (([17, 18, 19, 24, 25] : List Int)[i]?.getD 0) = true := by decide +kernel
theorem uns_i : ∀ i : Nat, i < 3 → unTypeP (([1, 2, 3] : List Int)[i]?.getD 0) 1 = (1, 0) ∧ (pickP wUnaries (subW (([1, 2, 3] : List Int)[i]?.getD 0) 1)).2 = false := by decide +kernel
theorem uns_f : ∀ i : Nat, i < 2 → unTypeP (([1, 3] : List Int)[i]?.getD 0) 2 = (2, 0) ∧ (pickP wUnaries (subW (([1, 3] : List Int)[i]?.getD 0) 1)).2 = false := by decide +kernel
def EGe (k : Ke) (sc : Scope) (N W h : Nat) (E : EM) : Prop := ∀ t s, TyOk t → Cx k sc s → GE k sc t N W h (E t s).1
section
variable {N W h c : Nat} {E : EM} (hE : EGe k sc N W h E) (hc : EKc c E)
include hE
theorem placeM_ge {n : Int} {s : MS} (h0 : -2147483647 ≤ n) (h1 : n ≤ 2147483647) (hx : Cx k sc s) : GE k sc 1 (N + 2) (W + 172) (h + 1) (placeM E n s).1 :=
 (ge_bin (hE 1 s (.inl rfl) hx) (ge_num (.inl rfl) (by omega) (by omega)) (by decide +kernel) (by decide +kernel)).mono (by omega) (by omega) (by omega)
theorem loadM_ge {nm : Str} {t a n : Int} {s : MS} (h0 : -2147483647 ≤ n) (h1 : n ≤ 2147483647) (hx : Cx k sc s) (hl : sc.lookup nm = some ⟨0, t, a⟩) (hn : isNameP nm = true) : GE k sc t (3 * N + 3) (3 * W + 350) (h + 2) (loadM E nm n s).1 :=
 (ge_load (placeM_ge hE h0 h1 hx) hl hn).mono (by omega) (by omega) (by omega)
theorem unM_ge {op t t' : Int} {s : MS} (ht : TyOk t) (hx : Cx k sc s) (hu : unTypeP op t = (t', 0)) (hp : (pickP wUnaries (subW op 1)).2 = false) : GE k sc t' (3 * N + 3) (3 * W + 350) (h + 2) (unM E op t s).1 :=
 (ge_un (hE t s ht hx) hu hp).mono (by omega) (by omega) (by omega)
include hc
theorem binM_ge {op t t' : Int} {s : MS} (ht : TyOk t) (hx : Cx k sc s) (hu : binTypeP op t t = (t', 0)) (hp : binGood op = true) : GE k sc t' (3 * N + 3) (3 * W + 350) (h + 2) (binM E op t s).1 :=
 (ge_bin (hE t s ht hx) (hE t _ ht (hx.kc (hc t s))) hu hp).mono (by omega) (by omega) (by omega)
theorem integerM_ge {j : Nat} {s : MS} (hx : Cx k sc s) (hN : 1 ≤ N) : GE k sc 1 (3 * N + 3) (3 * W + 350) (h + 2) (integerM bs E j s).1 := by
 unfold integerM
 split
 ·obtain ⟨h1, h2⟩ := ops_i _ ‹_›
  exact binM_ge hE hc (.inl rfl) hx h1 h2
 split
 ·exact unM_ge hE (.inr (.inl rfl)) hx (by decide +kernel) (by decide +kernel)
 split
 ·obtain ⟨h1, h2⟩ := uns_i ((nextM bs s).1 % 3) (by omega)
  exact unM_ge hE (.inl rfl) hx.next h1 h2
 split
 ·rename_i h1
  obtain ⟨i, f, hl, hf, hp, ht⟩ := hx.call h1.2
  exact (ge_call (hE 1 s (.inl rfl) hx) (hE 1 _ (.inl rfl) (hx.kc (hc 1 s))) hl hf hp ht nm_h).mono (by omega) (by omega) (by omega)
 split
 ·exact (leafM_ge (.inl rfl) hx).mono (by omega) (by omega) (by omega)
 have ha := hx.arrs (by simp_all)
 split
 ·exact loadM_ge hE (by omega) (by omega) hx ha.p nm_p
 ·rcases Nat.mod_two_eq_zero_or_one j with h1 | h1 <;> rw [h1]
  ·exact loadM_ge hE (by omega) (by omega) hx ha.a nm_a
  ·exact loadM_ge hE (by omega) (by omega) hx ha.s nm_s
theorem fixedM_ge {j : Nat} {s : MS} (hx : Cx k sc s) : GE k sc 2 (3 * N + 3) (3 * W + 350) (h + 2) (fixedM bs E j s).1 := by
 unfold fixedM
 split
 ·obtain ⟨h1, h2⟩ := ops_f _ ‹_›
  exact binM_ge hE hc (.inr (.inl rfl)) hx h1 h2
 split
 ·exact unM_ge hE (.inl rfl) hx (by decide +kernel) (by decide +kernel)
 split
 ·obtain ⟨h1, h2⟩ := uns_f ((nextM bs s).1 % 2) (by omega)
  exact unM_ge hE (.inr (.inl rfl)) hx.next h1 h2
 have ha := hx.arrs (by simp_all)
 exact loadM_ge hE (by omega) (by omega) hx ha.f nm_f
theorem truthM_ge {j : Nat} {s : MS} (hx : Cx k sc s) : GE k sc 3 (3 * N + 3) (3 * W + 350) (h + 2) (truthM bs E j s).1 := by
 unfold truthM
 split
 ·obtain ⟨⟨h1, h1'⟩, h2⟩ := ops_c ((nextM bs (nextM bs s).2).1 % 6) (by omega)
  rcases Nat.mod_two_eq_zero_or_one (nextM bs s).1 with h3 | h3 <;> simp only [h3]
  ·exact binM_ge hE hc (.inl rfl) hx.next.next h1 h2
  ·exact binM_ge hE hc (.inr (.inl rfl)) hx.next.next h1' h2
 split
 ·obtain ⟨h1, h2⟩ := ops_t ((nextM bs s).1 % 5) (by omega)
  exact binM_ge hE hc (.inr (.inr rfl)) hx.next h1 h2
 split
 ·exact unM_ge hE (.inr (.inr rfl)) hx (by decide +kernel) (by decide +kernel)
 have ha := hx.arrs (by simp_all)
 exact loadM_ge hE (by omega) (by omega) hx ha.b nm_b
theorem nodeM_ge {t : Int} {x : Nat} {s : MS} (ht : TyOk t) (hx : Cx k sc s) (hN : 1 ≤ N) (hW : 92 ≤ W) : GE k sc t (3 * N + 3) (3 * W + 350) (h + 2) (nodeM bs E t x s).1 := by
 unfold nodeM
 split
 ·exact (leafM_ge ht hx).mono (by omega) (by omega) (by omega)
 split
 ·have h1 := hx.kc (hc 3 s)
  exact (ge_cond (hE 3 s (.inr (.inr rfl)) hx) (hE t _ ht h1) (hE t _ ht (h1.kc (hc t _)))).mono (by omega) (by omega) (by omega)
 split
 ·rename_i h1
  rw [h1]
  exact integerM_ge hE hc hx hN
 split
 ·rename_i h1
  rw [h1]
  exact fixedM_ge hE hc hx
 ·have : t = 3 := by unfold TyOk at ht; omega
  rw [this]
  exact truthM_ge hE hc hx
end
def nE : Nat → Nat
 | 0 => 1
 | 1 => 1
 | d + 2 => 3 * nE (d + 1) + 3
def wEd : Nat → Nat
 | 0 => 92
 | 1 => 92
 | d + 2 => 3 * wEd (d + 1) + 350
def hE : Nat → Nat
 | 0 => 0
 | 1 => 0
 | d + 2 => hE (d + 1) + 2
theorem nE_pos : ∀ d, 1 ≤ nE d
 | 0 => by simp [nE]
 | 1 => by simp [nE]
 | d + 2 => by simp [nE]
theorem wEd_pos : ∀ d, 92 ≤ wEd d
 | 0 => by simp [wEd]
 | 1 => by simp [wEd]
 | d + 2 => by have := wEd_pos (d + 1); simp only [wEd]; omega
theorem exprM_ge : ∀ d, EGe k sc (nE d) (wEd d) (hE d) (exprM bs d)
 | 0, t, s, ht, hx => leafM_ge ht hx.next
 | 1, t, s, ht, hx => leafM_ge ht hx.next
 | d + 2, t, s, ht, hx => nodeM_ge (exprM_ge (d + 1)) (xw (d + 1)) ht hx.next (nE_pos _) (wEd_pos _)
theorem ex2_ge {t : Int} {s : MS} (ht : TyOk t) (hx : Cx k sc s) : GE k sc t 6 626 2 (exprM bs 2 t s).1 := exprM_ge 2 t s ht hx
theorem ex3_ge {t : Int} {s : MS} (ht : TyOk t) (hx : Cx k sc s) : GE k sc t 21 2228 4 (exprM bs 3 t s).1 := exprM_ge 3 t s ht hx
theorem pl2_ge {n : Int} {s : MS} (h0 : -2147483647 ≤ n) (h1 : n ≤ 2147483647) (hx : Cx k sc s) : GE k sc 1 8 798 3 (placeM (exprM bs 2) n s).1 := placeM_ge (exprM_ge 2) h0 h1 hx
end
end
section
def vN (c : Nat) : Str := 118 :: digitsP c
theorem digits_small (c : Nat) (h : c < 10) : digitsP c = [UInt8.ofNat (48 + c % 10)] := by
 rw [digitsP]; rw [dif_pos (by omega)]
theorem digits_two (c : Nat) (h : 10 ≤ c) (h2 : c < 100) : digitsP c = [UInt8.ofNat (48 + c / 10 % 10), UInt8.ofNat (48 + c % 10)] := by
 rw [digitsP, dif_neg (by omega), digits_small _ (by omega)]; rfl
def vT (c : Nat) : Str := if c < 10 then [118, UInt8.ofNat (48 + c % 10)] else [118, UInt8.ofNat (48 + c / 10 % 10), UInt8.ofNat (48 + c % 10)]
theorem vN_eq (c : Nat) (h : c < 20) : vN c = vT c := by
 unfold vN vT
 split
 ·rw [digits_small c (by omega)]
 ·rw [digits_two c (by omega) (by omega)]
theorem vT_ne : ∀ c, c < 20 → ∀ d, d < 20 → c ≠ d → vT c ≠ vT d := by decide +kernel
theorem vT_nm : ∀ c, c < 20 → isNameP (vT c) = true := by decide +kernel
theorem vT_q : ∀ c, c < 20 → vT c ≠ [113, 113, 57] := by decide +kernel
theorem vN_ne {c d : Nat} (hc : c < 20) (hd : d < 20) (h : c ≠ d) : vN c ≠ vN d := by rw [vN_eq c hc, vN_eq d hd]; exact vT_ne c hc d hd h
theorem vN_nm {c : Nat} (hc : c < 20) : isNameP (vN c) = true := by rw [vN_eq c hc]; exact vT_nm c hc
theorem vN_q {c : Nat} (hc : c < 20) : vN c ≠ [113, 113, 57] := by rw [vN_eq c hc]; exact vT_q c hc
mutual
def declsS : Sm → List Str
 | .mk kd _ _ _ n _ _ body els => (if kd = 1 then [n] else []) ++ (declsL body ++ declsL els)
def declsL : List Sm → List Str
 | [] => []
 | s :: l => declsS s ++ declsL l
end
def IsV (n : Str) : Prop := ∃ c, c < 20 ∧ n = vN c
theorem declsL_append (m : List Sm) : ∀ l : List Sm, declsL (l ++ m) = declsL l ++ declsL m
 | [] => rfl
 | s :: l => by simp [declsL, declsL_append m l]
structure XO (e : Ex) : Prop where
 ok : e.ok
 over : exO e = false
 nodes : exN e ≤ 21
 w : wE e ≤ 2228
theorem XO.z : XO zE := ⟨by simp [zE, Ex.ok, Ex.okL], by simp [exO, zE, Ex.kind], by simp [exN, zE, Ex.kind], by simp [zE, wE, wEL]⟩
theorem XO.ge {k : Ke} {sc : Scope} {t : Int} {N W h : Nat} {e : Ex} (g : GE k sc t N W h e) (h1 : N ≤ 21) (h2 : W ≤ 2228) (h3 : h ≤ 20) : XO e :=
 ⟨g.ok, by simp only [exO, g.over 1 (by omega) (by omega)]; simp, by have := g.nodes; unfold exN; split <;> omega, by have := g.w; omega⟩
structure Co (u : Int) (h : Nat) (s : Sm) : Prop where
 ok : s.ok
 over : ∀ d : Int, 0 ≤ d → d + h ≤ 30 → overS s d = false
 nodes : (nodesS s : Int) ≤ 60 * u
 w : ∀ d : Nat, d + 2 * h ≤ 40 → ((wS s d + (d + 1) : Nat) : Int) ≤ 6000 * u
structure CoL (u : Int) (h : Nat) (l : List Sm) : Prop where
 ok : Sm.okL l
 over : ∀ d : Int, 0 ≤ d → d + h ≤ 30 → overSL l d = false
 nodes : (nodesSL l : Int) ≤ 60 * u
 w : ∀ d : Nat, d + 2 * h ≤ 40 → (wSL l d : Int) ≤ 6000 * u
theorem CoL.nil (h : Nat) : CoL 0 h [] := ⟨trivial, fun _ _ _ => rfl, by simp [nodesSL], fun _ _ => by simp [wSL]⟩
theorem CoL.cons {u v : Int} {h : Nat} {s : Sm} {l : List Sm} (a : Co u h s) (b : CoL v h l) : CoL (u + v) h (s :: l) :=
 ⟨⟨a.ok, b.ok⟩, fun d h0 h1 => by simp [overSL, a.over d h0 h1, b.over d h0 h1], by have := a.nodes; have := b.nodes; simp only [nodesSL]; omega, fun d hd => by have := a.w d hd; have := b.w d hd; simp only [wSL]; omega⟩
theorem CoL.append {v : Int} {h : Nat} {m : List Sm} (b : CoL v h m) : ∀ {u : Int} (l : List Sm), CoL u h l → CoL (u + v) h (l ++ m) := by
 have k1 : ∀ l : List Sm, nodesSL (l ++ m) = nodesSL l + nodesSL m := fun l => by induction l with
  | nil => simp [nodesSL]
  | cons s l ih => simp [nodesSL, ih, Nat.add_assoc]
 have k2 : ∀ (d : Nat) (l : List Sm), wSL (l ++ m) d = wSL l d + wSL m d := fun d l => by induction l with
  | nil => simp [wSL]
  | cons s l ih => simp [wSL, ih, Nat.add_assoc]
 intro u l a
 refine ⟨(Sm.okL_iff _).2 fun s hs => ?_, fun d h0 h1 => ?_, by have := a.nodes; have := b.nodes; rw [k1]; omega, fun d hd => by have := a.w d hd; have := b.w d hd; rw [k2]; omega⟩
 ·rcases List.mem_append.1 hs with hs | hs
  ·exact (Sm.okL_iff _).1 a.ok s hs
  ·exact (Sm.okL_iff _).1 b.ok s hs
 ·have h2 := a.over d h0 h1
  have h3 := b.over d h0 h1
  rw [overSL_iff] at *
  simp_all
theorem vg {kd op t : Int} {n : Str} {x y : Ex} (hx : XO x) (hy : XO y) (hn : n.length ≤ 12) (h : Nat) : Co 1 h (.mk kd op t 0 n x y [] []) := by
 refine ⟨?_, ?_, ?_, ?_⟩
 ·simp [Sm.ok, Sm.okL, hx.ok, hy.ok]
 ·intro d h0 h1; simp [overS, overSL, hx.over, hy.over]; omega
 ·have := hx.nodes; have := hy.nodes; simp only [nodesS, nodesSL]; omega
 ·intro d hd; have := hx.w; have := hy.w; simp only [wS, wSL, wStm]; omega
theorem co_block {kd b : Int} {u v : Int} {h : Nat} {x : Ex} {body els : List Sm} (hx : XO x) (hb : 0 ≤ b ∧ b ≤ 4) (g : CoL u h body) (f : CoL v h els) : Co (1 + u + v) (h + 1) (.mk kd 0 0 b [] x zE body els) := by
 have hz := XO.z
 refine ⟨?_, ?_, ?_, ?_⟩
 ·simp [Sm.ok, hx.ok, hz.ok, g.ok, f.ok]; omega
 ·intro d h0 h1
  simp only [overS, hx.over, hz.over, incW_eq h0 (by omega), g.over (d + 1) (by omega) (by omega), f.over (d + 1) (by omega) (by omega)]
  simp; omega
 ·have := hx.nodes; have := hz.nodes; have := g.nodes; have := f.nodes; simp only [nodesS]; omega
 ·intro d hd; have := hx.w; have := hz.w; have := g.w (d + 2) (by omega); have := f.w (d + 2) (by omega); simp only [wS, wStm, List.length_nil]; omega
structure GS (k : Ke) (sc sc' : Scope) (inF : Bool) (lp : Int) (u : Int) (h : Nat) (s : Sm) : Prop where
 typ : stmtT k inF s lp sc = (sc', 0)
 good : ∀ ind, (stmtP s ind).2 = false
 pure : inF = true → impureP s = false
 decl : ∀ n ∈ declsS s, IsV n
 co : Co u h s
structure GL (k : Ke) (sc sc' : Scope) (inF : Bool) (lp : Int) (u : Int) (h : Nat) (l : List Sm) : Prop where
 typ : listT k inF l lp sc = (sc', 0)
 good : ∀ ind, (bodyP ind l).2 = false
 pure : inF = true → anyImpure l = false
 decl : ∀ n ∈ declsL l, IsV n
 co : CoL u h l
theorem bodyP_bad (ind : Str) (l : List Sm) : (bodyP ind l).2 = l.any fun s => (stmtP s ind).2 := by
 rw [bodyP, xm, lines_bad, stmtsP_map, List.any_map]; rfl
theorem GL.nil {k : Ke} {sc : Scope} {inF : Bool} {lp : Int} (h : Nat) : GL k sc sc inF lp 0 h [] := ⟨rfl, fun _ => rfl, fun _ => rfl, by simp [declsL], CoL.nil h⟩
theorem GL.cons {k : Ke} {sc sc1 sc2 : Scope} {inF : Bool} {lp u v : Int} {h : Nat} {s : Sm} {l : List Sm} (a : GS k sc sc1 inF lp u h s) (b : GL k sc1 sc2 inF lp v h l) : GL k sc sc2 inF lp (u + v) h (s :: l) := by
 refine ⟨by simp [listT, a.typ, b.typ], fun ind => ?_, fun hf => by simp [anyImpure, a.pure hf, b.pure hf], fun n hn => (List.mem_append.1 hn).elim (a.decl n) (b.decl n), CoL.cons a.co b.co⟩
 have := b.good ind
 rw [bodyP_bad] at *
 simp only [List.any_cons, a.good ind, Bool.false_or]
 exact this
theorem listT_append {k : Ke} {inF : Bool} {lp : Int} (m : List Sm) : ∀ (l : List Sm) (sc : Scope), (listT k inF l lp sc).2 = 0 → listT k inF (l ++ m) lp sc = listT k inF m lp (listT k inF l lp sc).1
 | [], sc, h => rfl
 | s :: l, sc, h => by
  simp only [listT, List.cons_append] at h ⊢
  split at h
  ·rename_i h1; exact absurd h h1
  ·rename_i h1; simp only [if_neg h1]; exact listT_append m l _ h
theorem GL.append {k : Ke} {sc sc1 sc2 : Scope} {inF : Bool} {lp u v : Int} {h : Nat} {l m : List Sm} (a : GL k sc sc1 inF lp u h l) (b : GL k sc1 sc2 inF lp v h m) : GL k sc sc2 inF lp (u + v) h (l ++ m) := by
 refine ⟨by rw [listT_append m l sc (by rw [a.typ]), a.typ]; exact b.typ, fun ind => ?_, fun hf => ?_, fun n hn => by rw [declsL_append] at hn; exact (List.mem_append.1 hn).elim (a.decl n) (b.decl n), CoL.append b.co l a.co⟩
 ·have h1 := a.good ind; have h2 := b.good ind
  rw [bodyP_bad] at *
  rw [List.any_append, h1, h2]; rfl
 ·have h1 := a.pure hf; have h2 := b.pure hf
  rw [anyImpure_any] at *
  rw [List.any_append, h1, h2]; rfl
section
variable {k : Ke} {sc : Scope} {inF : Bool} {lp : Int}
theorem asT_ge {t : Int} {N W h : Nat} {e : Ex} (g : GE k sc t N W h e) : asT k sc e t = 0 := by simp [asT, g.typ]
theorem gs_var {t : Int} {n : Str} {e : Ex} (h : Nat) (g : GE k sc t 21 2228 4 e) (ht : TyOk t) (hl : sc.lookup n = none) (hn : isNameP n = true) (hv : IsV n) : GS k sc (sc ++ [(n, ⟨3, t, 0⟩)]) inF lp 1 h (.mk 1 0 t 0 n e zE [] []) := by
 refine ⟨?_, ?_, ?_, by simpa [declsS, declsL] using hv, vg (XO.ge g (by omega) (by omega) (by omega)) XO.z (uf hn) h⟩
 ·simp [stmtT, varT, g.typ, declP, hl]
 ·intro ind
  have h1 : (pickP wTypes (sub1 t)).2 = false := by rcases ht with rfl | rfl | rfl <;> decide +kernel
  have h2 : spareP (.mk 1 0 t 0 n e zE [] []) false true false true true false false false = false := by simp [spareP, spareL, Sm.op, Sm.bound, Sm.y, Sm.body, Sm.els, noneP, zE, Ex.kind, Ex.op, Ex.typ, Ex.name, Ex.v, Ex.a]
  simp [stmtP, cat, h2, paramP, hn, h1, g.good]
 ·intro _; simp [impureP, anyImpure, wPure]
theorem gs_set {t a : Int} {n : Str} {e : Ex} (h : Nat) (g : GE k sc t 21 2228 4 e) (hl : sc.lookup n = some ⟨3, t, a⟩) (hn : isNameP n = true) : GS k sc sc inF lp 1 h (.mk 2 0 0 0 n e zE [] []) := by
 refine ⟨?_, ?_, ?_, by simp [declsS, declsL], vg (XO.ge g (by omega) (by omega) (by omega)) XO.z (uf hn) h⟩
 ·have : findP sc n [3] = some ⟨3, t, a⟩ := by simp [findP, hl]
  simp [stmtT, setT, this, asT_ge g]
 ·intro ind
  have h2 : spareP (.mk 2 0 0 0 n e zE [] []) false false false true true false false false = false := by simp [spareP, spareL, Sm.op, Sm.typ, Sm.bound, Sm.y, Sm.body, Sm.els, noneP, zE, Ex.kind, Ex.op, Ex.typ, Ex.name, Ex.v, Ex.a]
  simp [stmtP, cat, h2, hn, g.good]
 ·intro _; simp [impureP, anyImpure, wPure]
theorem target_ok {t a : Int} {n : Str} {x y : Ex} {A : Ar} {N W h N' W' h' : Nat} (g : GE k sc 1 N W h x) (f : GE k sc A.typ N' W' h' y) (hl : sc.lookup n = some ⟨0, t, a⟩) (hA : k.arrays[a.toNat]? = some A) : targetT k sc n x y = (A, 0) := by
 have : findP sc n [0] = some ⟨0, t, a⟩ := by simp [findP, hl]
 simp [targetT, this, hA, asT_ge g, asT_ge f]
theorem gs_store {t a : Int} {n : Str} {x y : Ex} {A : Ar} (h : Nat) (g : GE k sc 1 21 2228 4 x) (f : GE k sc A.typ 21 2228 4 y) (hl : sc.lookup n = some ⟨0, t, a⟩) (hA : k.arrays[a.toNat]? = some A) (hn : isNameP n = true) : GS k sc sc false lp 1 h (.mk 3 0 0 0 n x y [] []) := by
 refine ⟨?_, ?_, ?_, by simp [declsS, declsL], vg (XO.ge g (by omega) (by omega) (by omega)) (XO.ge f (by omega) (by omega) (by omega)) (uf hn) h⟩
 ·simp [stmtT, target_ok g f hl hA]
 ·intro ind
  have h2 : spareP (.mk 3 0 0 0 n x y [] []) false false false true true true false false = false := by simp [spareP, spareL, Sm.op, Sm.typ, Sm.bound, Sm.y, Sm.body, Sm.els]
  simp [stmtP, cat, h2, hn, g.good, f.good, indexP']
 ·intro hf; cases hf
theorem gs_atom {t a op : Int} {n : Str} {x y : Ex} {A : Ar} (h : Nat) (g : GE k sc 1 21 2228 4 x) (f : GE k sc A.typ 21 2228 4 y) (hl : sc.lookup n = some ⟨0, t, a⟩) (hA : k.arrays[a.toNat]? = some A) (hn : isNameP n = true)
  (ho : (binTypeP op A.typ A.typ).2 = 0) (hs : A.space ≠ 3) (hp : (pickP wAtomics (indexP op wAtomOps)).2 = false) : GS k sc sc false lp 1 h (.mk 4 op 0 0 n x y [] []) := by
 refine ⟨?_, ?_, ?_, by simp [declsS, declsL], vg (XO.ge g (by omega) (by omega) (by omega)) (XO.ge f (by omega) (by omega) (by omega)) (uf hn) h⟩
 ·simp [stmtT, atomT, target_ok g f hl hA, ho, hs]
 ·intro ind
  have h2 : spareP (.mk 4 op 0 0 n x y [] []) true false false true true true false false = false := by simp [spareP, spareL, Sm.op, Sm.typ, Sm.bound, Sm.y, Sm.body, Sm.els]
  simp [stmtP, otherP, Sm.kind, Sm.name, Sm.op, Sm.x, Sm.y, cat, h2, hn, g.good, f.good, indexP', hp]
 ·intro hf; cases hf
theorem gs_word {kd : Int} (h : Nat) (hk : kd = 7 ∨ kd = 8 ∨ ((kd = 9 ∨ kd = 10) ∧ inF = false)) (hlp : kd = 7 ∨ kd = 8 → lp ≠ 0) : GS k sc sc inF lp 1 h (.mk kd 0 0 0 [] zE zE [] []) := by
 have h2 : spareP (.mk kd 0 0 0 [] zE zE [] []) false false false false false false false false = false := by simp [spareP, spareL, Sm.op, Sm.typ, Sm.bound, Sm.name, Sm.x, Sm.y, Sm.body, Sm.els, noneP, zE, Ex.kind, Ex.op, Ex.typ, Ex.name, Ex.v, Ex.a]
 refine ⟨?_, ?_, ?_, (by rcases hk with rfl | rfl | ⟨rfl | rfl, _⟩ <;> simp [declsS, declsL]), vg XO.z XO.z (by simp) h⟩
 ·rcases hk with rfl | rfl | ⟨rfl | rfl, rfl⟩
  ·simp [stmtT, hlp (by simp)]
  ·simp [stmtT, hlp (by simp)]
  ·simp [stmtT]
  ·simp [stmtT]
 ·intro ind
  have h1 : (pickP wSimple (subW kd 7)).2 = false := by rcases hk with rfl | rfl | ⟨rfl | rfl, _⟩ <;> decide +kernel
  have h3 : kd = 7 ∨ kd = 8 ∨ kd = 9 ∨ kd = 10 := by omega
  have h4 : ¬ kd = 1 := by omega
  have h5 : ¬ kd = 2 := by omega
  have h6 : ¬ kd = 3 := by omega
  have h7 : ¬ kd = 5 := by omega
  have h8 : ¬ kd = 6 := by omega
  simp only [stmtP, if_neg h4, if_neg h5, if_neg h6, if_neg h7, if_neg h8, otherP, Sm.kind, if_pos h3]
  simp [cat, h2, h1]
 ·intro hf
  rcases hk with rfl | rfl | ⟨_, hc⟩
  ·simp [impureP, anyImpure, wPure]
  ·simp [impureP, anyImpure, wPure]
  ·rw [hc] at hf; cases hf
theorem gs_fence {op : Int} (h : Nat) (ho : op = 1 ∨ op = 2) : GS k sc sc false lp 1 h (.mk 11 op 0 0 [] zE zE [] []) := by
 have h2 : spareP (.mk 11 op 0 0 [] zE zE [] []) true false false false false false false false = false := by simp [spareP, spareL, Sm.op, Sm.typ, Sm.bound, Sm.name, Sm.x, Sm.y, Sm.body, Sm.els, noneP, zE, Ex.kind, Ex.op, Ex.typ, Ex.name, Ex.v, Ex.a]
 refine ⟨by simp [stmtT], ?_, (fun hf => by cases hf), by simp [declsS, declsL], vg XO.z XO.z (by simp) h⟩
 intro ind
 have h1 : (pickP wScopes (subW op 1)).2 = false := by rcases ho with rfl | rfl <;> decide +kernel
 simp [stmtP, otherP, Sm.kind, Sm.op, cat, h2, h1]
theorem gs_coll {op t a : Int} {n : Str} {x : Ex} {t0 : Int} (h : Nat) (g : GE k sc t0 21 2228 4 x) (hl : sc.lookup n = some ⟨3, t, a⟩) (hn : isNameP n = true) (hf : fitsT op t0 t = true) (ho : op ≠ 4) (hp : (pickP wCollects (subW op 1)).2 = false) :
  GS k sc sc false lp 1 h (.mk 12 op 0 0 n x zE [] []) := by
 have h2 : spareP (.mk 12 op 0 0 n x zE [] []) true false false true true false false false = false := by simp [spareP, spareL, Sm.op, Sm.typ, Sm.bound, Sm.name, Sm.x, Sm.y, Sm.body, Sm.els, noneP, zE, Ex.kind, Ex.op, Ex.typ, Ex.name, Ex.v, Ex.a]
 refine ⟨?_, ?_, (fun hf => by cases hf), by simp [declsS, declsL], vg (XO.ge g (by omega) (by omega) (by omega)) XO.z (uf hn) h⟩
 ·have : findP sc n [3] = some ⟨3, t, a⟩ := by simp [findP, hl]
  simp [stmtT, collectT, this, g.typ, ho, hf]
 ·intro ind
  simp [stmtP, otherP, Sm.kind, Sm.op, Sm.name, Sm.x, cat, h2, ho, hn, hp, w9, g.good]
theorem gs_shuf {t a : Int} {n : Str} {x y : Ex} (h : Nat) (g : GE k sc t 21 2228 4 x) (f : GE k sc 1 21 2228 4 y) (hl : sc.lookup n = some ⟨3, t, a⟩) (hn : isNameP n = true) :
  GS k sc sc false lp 1 h (.mk 12 4 0 0 n x y [] []) := by
 have h2 : spareP (.mk 12 4 0 0 n x y [] []) true false false true true true false false = false := by simp [spareP, spareL, Sm.op, Sm.typ, Sm.bound, Sm.name, Sm.x, Sm.y, Sm.body, Sm.els]
 refine ⟨?_, ?_, (fun hf => by cases hf), by simp [declsS, declsL], vg (XO.ge g (by omega) (by omega) (by omega)) (XO.ge f (by omega) (by omega) (by omega)) (uf hn) h⟩
 ·have : findP sc n [3] = some ⟨3, t, a⟩ := by simp [findP, hl]
  simp [stmtT, collectT, this, g.typ, asT_ge f, fitsT]
 ·intro ind
  have h1 : (pickP wCollects (subW 4 1)).2 = false := by decide +kernel
  simp [stmtP, otherP, Sm.kind, Sm.op, Sm.name, Sm.x, Sm.y, cat, h2, hn, h1, w9, g.good, f.good]
theorem gs_if {u v : Int} {h : Nat} {x : Ex} {body els : List Sm} {sc1 sc2 : Scope} (g : GE k sc 3 21 2228 4 x) (a : GL k sc sc1 inF lp u h body) (b : GL k sc sc2 inF lp v h els) : GS k sc sc inF lp (1 + u + v) (h + 1) (.mk 5 0 0 0 [] x zE body els) := by
 have h2 : spareP (.mk 5 0 0 0 [] x zE body els) false false false false true false true true = false := by simp [spareP, spareL, Sm.op, Sm.typ, Sm.bound, Sm.name, Sm.x, Sm.y, Sm.body, Sm.els, noneP, zE, Ex.kind, Ex.op, Ex.typ, Ex.name, Ex.v, Ex.a]
 refine ⟨?_, ?_, ?_, fun n hn => by simp only [declsS] at hn; simp at hn; exact hn.elim (a.decl n) (b.decl n), co_block (XO.ge g (by omega) (by omega) (by omega)) (by omega) a.co b.co⟩
 ·simp [stmtT, asT_ge g, a.typ, b.typ]
 ·intro ind
  have h3 := a.good (ind ++ [32, 32])
  have h4 := b.good (ind ++ [32, 32])
  simp only [bodyP] at h3 h4
  by_cases he : els.length = 0
  ·simp only [stmtP, if_pos he]; simp [cat, h2, g.good, blockP, h3]
  ·simp only [stmtP, if_neg he]; simp [cat, h2, g.good, blockP, h3, h4]
 ·intro hf; simp [impureP, a.pure hf, b.pure hf, wPure]
theorem gs_while {u b : Int} {h : Nat} {x : Ex} {body : List Sm} {sc1 : Scope} (h0 : 0 ≤ lp) (h1 : lp ≤ 20) (hb : 1 ≤ b ∧ b ≤ 4) (g : GE k sc 3 21 2228 4 x) (a : GL k sc sc1 inF (lp + 1) u h body) : GS k sc sc inF lp (1 + u) (h + 1) (.mk 6 0 0 b [] x zE body []) := by
 have h2 : spareP (.mk 6 0 0 b [] x zE body []) false false true false true false true false = false := by simp [spareP, spareL, Sm.op, Sm.typ, Sm.bound, Sm.name, Sm.x, Sm.y, Sm.body, Sm.els, noneP, zE, Ex.kind, Ex.op, Ex.typ, Ex.name, Ex.v, Ex.a]
 refine ⟨?_, ?_, ?_, fun n hn => by simp only [declsS] at hn; simp [declsL] at hn; exact a.decl n hn, by have := co_block (kd := 6) (b := b) (XO.ge g (by omega) (by omega) (by omega)) (by omega) a.co (CoL.nil h); simpa using this⟩
 ·have : ¬ (b < 1 ∨ 1024 < b) := by omega
  simp [stmtT, asT_ge g, this, incW_eq h0 (by omega), a.typ]
 ·intro ind
  have h3 := a.good (ind ++ [32, 32])
  simp only [bodyP] at h3
  simp [stmtP, cat, h2, g.good, blockP, h3]
 ·intro hf; simp [impureP, a.pure hf, anyImpure, wPure]
end
end
section
theorem yi {sc : Scope} {n m : Str} {t u : Thing} (h : sc.lookup n = some t) : (sc ++ [(m, u)] : Scope).lookup n = some t := by
 rw [List.lookup_append, h]; rfl
theorem vr {sc : Scope} {n m : Str} {u : Thing} (h : sc.lookup n = none) (hm : n ≠ m) : (sc ++ [(m, u)] : Scope).lookup n = none := by
 have : (n == m) = false := by simpa using hm
 rw [List.lookup_append, h]; simp [List.lookup, this]
theorem wt {sc : Scope} {n : Str} {u : Thing} (h : sc.lookup n = none) : (sc ++ [(n, u)] : Scope).lookup n = some u := by
 rw [List.lookup_append, h]; simp [List.lookup]
theorem look_q {sc : Scope} {m : Str} {u : Thing} (h : ∀ t, sc.lookup [113, 113, 57] = some t → t.kind = 1) (hm : m ≠ [113, 113, 57]) : ∀ t, (sc ++ [(m, u)] : Scope).lookup [113, 113, 57] = some t → t.kind = 1 := by
 intro t ht
 rcases hs : sc.lookup [113, 113, 57] with _ | x
 ·rw [vr hs (Ne.symm hm)] at ht; cases ht
 ·rw [yi hs] at ht; cases ht; exact h _ hs
structure Ok (k : Ke) (sc : Scope) (first : Nat) (pure : Bool) (room : Nat) (s : MS) : Prop where
 cx : Cx k sc s
 set : ∀ (i : Nat) (p : Pa), first ≤ i → s.vars[i]? = some p → ∃ a, sc.lookup p.name = some ⟨3, p.typ, a⟩
 fresh : ∀ c, s.count ≤ c → c < 20 → sc.lookup (vN c) = none
 q : ∀ t, sc.lookup [113, 113, 57] = some t → t.kind = 1
 left : 0 ≤ s.left
 room : (s.count : Int) + s.left + room ≤ 17
 loads : pure = false → s.loads = true ∧ k.arrays = arrsM
structure Grow (s s' : MS) : Prop where
 vars : ∃ l, s'.vars = s.vars ++ l
 count : s.count ≤ s'.count
 loads : s'.loads = s.loads
 call : s'.call = s.call
theorem Grow.refl (s : MS) : Grow s s := ⟨⟨[], by simp⟩, Nat.le_refl _, rfl, rfl⟩
theorem Grow.trans {a b c : MS} (h : Grow a b) (g : Grow b c) : Grow a c := by
 obtain ⟨l, hl⟩ := h.vars
 obtain ⟨m, hm⟩ := g.vars
 exact ⟨⟨l ++ m, by rw [hm, hl, List.append_assoc]⟩, Nat.le_trans h.count g.count, g.loads.trans h.loads, g.call.trans h.call⟩
theorem Grow.kc {a b : MS} {c : Nat} (h : Kc c a b) : Grow a b := ⟨⟨[], by rw [h.vars]; simp⟩, by rw [h.count]; exact Nat.le_refl _, h.loads, h.call⟩
section
variable {k : Ke} {bs : List UInt8} {first : Nat} {pure : Bool} {R : Nat}
theorem Ok.kc {sc : Scope} {m : Nat} {s s' : MS} {c : Nat} (h : Ok k sc first pure m s) (hk : Kc c s s') : Ok k sc first pure m s' :=
 ⟨h.cx.kc hk, by rw [hk.vars]; exact h.set, by rw [hk.count]; exact h.fresh, h.q, by rw [hk.left]; exact h.left, by rw [hk.count, hk.left]; exact h.room, by rw [hk.loads]; exact h.loads⟩
theorem Ok.less {sc : Scope} {m n : Nat} {s : MS} (h : Ok k sc first pure m s) (hn : n ≤ m) : Ok k sc first pure n s := ⟨h.cx, h.set, h.fresh, h.q, h.left, by have := h.room; omega, h.loads⟩
theorem Ok.next {sc : Scope} {m : Nat} {s : MS} (h : Ok k sc first pure m s) : Ok k sc first pure m (nextM bs s).2 := h.kc (zi (bs := bs) s)
theorem Ok.ex {sc : Scope} {m : Nat} {s : MS} (d : Nat) (t : Int) (h : Ok k sc first pure m s) : Ok k sc first pure m (exprM bs d t s).2 := h.kc (xw (bs := bs) d t s)
def SOut (R : Nat) (k : Ke) (sc : Scope) (first : Nat) (pure inF : Bool) (lp : Int) (h : Nat) (u : Int) (s : MS) (r : Sm × MS) : Prop :=
 ∃ sc', GS k sc sc' inF lp (u + s.left - r.2.left) h r.1 ∧ Ok k sc' first pure R r.2 ∧ Grow s r.2
def LOut (R : Nat) (k : Ke) (sc : Scope) (first : Nat) (pure inF : Bool) (lp : Int) (h : Nat) (s : MS) (r : List Sm × MS) : Prop :=
 ∃ sc', GL k sc sc' inF lp (s.left - r.2.left) h r.1 ∧ Ok k sc' first pure R r.2 ∧ Grow s r.2
theorem SOut.of {sc sc' : Scope} {inF : Bool} {lp : Int} {h : Nat} {s s' : MS} {st : Sm} {c : Nat} (hk : Kc c s s') (g : GS k sc sc' inF lp 1 h st) (ho : Ok k sc' first pure R s') : SOut R k sc first pure inF lp h 1 s (st, s') :=
 ⟨sc', by rw [show 1 + s.left - s'.left = 1 by rw [hk.left]; omega]; exact g, ho, Grow.kc hk⟩
theorem Ok.ty {sc : Scope} {m : Nat} {s : MS} (h : Ok k sc first pure m s) {i : Nat} {p : Pa} (hp : s.vars[i]? = some p) : TyOk p.typ := (h.cx.vars p (List.mem_of_getElem? hp)).2.2
theorem Ok.nm {sc : Scope} {m : Nat} {s : MS} (h : Ok k sc first pure m s) {i : Nat} {p : Pa} (hp : s.vars[i]? = some p) : isNameP p.name = true := (h.cx.vars p (List.mem_of_getElem? hp)).2.1
theorem declareM_ok {sc : Scope} {inF : Bool} {lp : Int} (h : Nat) {s : MS} (ho : Ok k sc first pure (R + 1) s) : SOut R k sc first pure inF lp h 1 s (declareM bs s) := by
 have h1 : Ok k sc first pure (R + 1) (nextM bs s).2 := ho.next
 have k1 := zi (bs := bs) s
 simp only [declareM]
 generalize nextM bs s = r at *
 obtain ⟨x, s1⟩ := r
 simp only at h1 k1 ⊢
 have ht : TyOk (1 + ((x % 3 : Nat) : Int)) := by unfold TyOk; omega
 generalize (1 + ((x % 3 : Nat) : Int)) = t at *
 have g := ex3_ge (bs := bs) ht h1.cx
 have k2 := k1.trans (xw (bs := bs) 3 t s1) (Nat.le_refl _)
 have h2 : Ok k sc first pure (R + 1) (exprM bs 3 t s1).2 := h1.ex 3 t
 generalize exprM bs 3 t s1 = r at *
 obtain ⟨e, s2⟩ := r
 simp only at g k2 h2 ⊢
 have hc : s2.count < 20 := by have := h2.room; have := h2.left; omega
 have hfr := h2.fresh s2.count (Nat.le_refl _) hc
 have hnm := vN_nm hc
 have hvn : (118 :: digitsP s2.count) = vN s2.count := rfl
 rw [hvn]
 refine ⟨sc ++ [(vN s2.count, ⟨3, t, 0⟩)], by rw [show 1 + s.left - s2.left = 1 by rw [k2.left]; omega]; exact gs_var h g ht hfr hnm ⟨_, hc, rfl⟩, ?_, ⟨⟨[⟨vN s2.count, t⟩], by simp [k2.vars]⟩, by simp [k2.count], k2.loads, k2.call⟩⟩
 refine ⟨⟨fun p hp => ?_, fun hl => ?_, fun hl => ?_⟩, fun i p hi hp => ?_, fun c hc1 hc2 => ?_, look_q h2.q (vN_q hc), h2.left, by have := h2.room; simp only; omega, h2.loads⟩
 ·simp only [List.mem_append, List.mem_singleton] at hp
  rcases hp with hp | rfl
  ·obtain ⟨⟨kd, a, h3, h4⟩, h5⟩ := h2.cx.vars p hp
   exact ⟨⟨kd, a, h3, yi h4⟩, h5⟩
  ·exact ⟨⟨3, 0, .inr rfl, wt hfr⟩, hnm, ht⟩
 ·have := h2.cx.arrs hl
  exact ⟨yi this.a, yi this.f, yi this.s, yi this.p, yi this.b⟩
 ·obtain ⟨i, f, h3, h4⟩ := h2.cx.call hl
  exact ⟨i, f, yi h3, h4⟩
 ·simp only at hp
  rcases Nat.lt_or_ge i s2.vars.length with hl | hl
  ·rw [List.getElem?_append_left hl] at hp
   obtain ⟨a, h3⟩ := h2.set i p hi hp
   exact ⟨a, yi h3⟩
  ·rw [List.getElem?_append_right hl] at hp
   have : i - s2.vars.length = 0 := by
    rcases Nat.eq_zero_or_pos (i - s2.vars.length) with h4 | h4
    ·exact h4
    ·rw [List.getElem?_eq_none (by simp; omega)] at hp; cases hp
   rw [this] at hp
   simp only [List.getElem?_cons_zero, Option.some.injEq] at hp
   subst hp
   exact ⟨0, wt hfr⟩
 ·simp only at hc1
  exact vr (h2.fresh c (by omega) hc2) (vN_ne hc2 hc (by omega))
theorem varAt_ok {l : List Pa} {i : Nat} (h : i < l.length) : l[i]? = some (varAt l i) := by
 simp [varAt, h]
theorem setM_ok {sc : Scope} {inF : Bool} {lp : Int} (h : Nat) {s : MS} (ho : Ok k sc first pure (R + 1) s) : SOut R k sc first pure inF lp h 1 s (setM bs first s) := by
 unfold setM
 split
 ·exact declareM_ok h ho
 ·rename_i hlen
  have h1 : Ok k sc first pure (R + 1) (nextM bs s).2 := ho.next
  have k1 := zi (bs := bs) s
  simp only
  generalize nextM bs s = r at *
  obtain ⟨x, s1⟩ := r
  simp only at h1 k1 ⊢
  have hi : first + x % (s.vars.length - first) < s.vars.length := by have := Nat.mod_lt x (show s.vars.length - first > 0 by omega); omega
  generalize hj : first + x % (s.vars.length - first) = j at *
  have hv := varAt_ok hi
  generalize varAt s.vars j = v at *
  obtain ⟨a, hl⟩ := ho.set j v (by omega) hv
  have ht := ho.ty hv
  have hn := ho.nm hv
  have g := ex3_ge (bs := bs) ht h1.cx
  exact SOut.of (k1.trans (xw (bs := bs) 3 v.typ s1) (Nat.le_refl _)) (gs_set h g hl hn) ((h1.ex 3 v.typ).less (by omega))
end
end
section
section
variable {k : Ke} {bs : List UInt8} {first : Nat} {pure : Bool} {R : Nat}
def HasA (k : Ke) (sc : Scope) (n : Str) (ty sp : Int) : Prop := ∃ t a A, sc.lookup n = some ⟨0, t, a⟩ ∧ k.arrays[a.toNat]? = some A ∧ A.typ = ty ∧ A.space = sp ∧ isNameP n = true
theorem Ok.arr {sc : Scope} {m : Nat} {s : MS} (h : Ok k sc first pure m s) (hp : pure = false) :
  HasA k sc [97] 1 1 ∧ HasA k sc [102] 2 1 ∧ HasA k sc [115] 1 2 ∧ HasA k sc [112] 1 3 ∧ HasA k sc [98] 3 2 := by
 obtain ⟨hl, hA⟩ := h.loads hp
 have := h.cx.arrs hl
 unfold HasA
 rw [hA]
 exact ⟨⟨_, _, _, this.a, rfl, rfl, rfl, nm_a⟩, ⟨_, _, _, this.f, rfl, rfl, rfl, nm_f⟩, ⟨_, _, _, this.s, rfl, rfl, rfl, nm_s⟩, ⟨_, _, _, this.p, rfl, rfl, rfl, nm_p⟩, ⟨_, _, _, this.b, rfl, rfl, rfl, nm_b⟩⟩
theorem store_step {sc : Scope} {lp : Int} (h : Nat) {s s1 : MS} {n : Str} {ty sp : Int} {len : Int} (ha : HasA k sc n ty sp) (ht : TyOk ty) (h0 : -2147483647 ≤ len) (h1 : len ≤ 2147483647) {c : Nat} (k1 : Kc c s s1) (ho : Ok k sc first false (R + 1) s1) :
  SOut R k sc first false false lp h 1 s (.mk 3 0 0 0 n (placeM (exprM bs 2) len s1).1 (exprM bs 3 ty (placeM (exprM bs 2) len s1).2).1 [] [], (exprM bs 3 ty (placeM (exprM bs 2) len s1).2).2) := by
 obtain ⟨t, a, A, hl, hA, hty, hsp, hn⟩ := ha
 have g := pl2_ge (bs := bs) h0 h1 ho.cx
 have k2 := placeM_kc (xw (bs := bs) 2) len s1
 have h2 := ho.kc k2
 have f := ex3_ge (bs := bs) ht h2.cx
 exact SOut.of ((k1.trans k2 (Nat.le_refl _)).trans (xw (bs := bs) 3 ty _) (Nat.le_refl _)) (gs_store h (g.mono (by omega) (by omega) (by omega)) (by rw [hty]; exact f) hl hA hn) ((h2.ex 3 ty).less (by omega))
theorem storeM_ok {sc : Scope} {lp : Int} (h : Nat) {s : MS} (ho : Ok k sc first false (R + 1) s) : SOut R k sc first false false lp h 1 s (storeM bs s) := by
 have h1 : Ok k sc first false (R + 1) (nextM bs s).2 := ho.next
 have k1 := zi (bs := bs) s
 obtain ⟨ha, hf, hs, hp, hb⟩ := ho.arr rfl
 simp only [storeM]
 generalize nextM bs s = r at *
 obtain ⟨x, s1⟩ := r
 simp only at h1 k1 ⊢
 have : x % 6 < 6 := Nat.mod_lt _ (by omega)
 rcases (show x % 6 = 0 ∨ x % 6 = 1 ∨ x % 6 = 2 ∨ x % 6 = 3 ∨ x % 6 = 4 ∨ x % 6 = 5 by omega) with e | e | e | e | e | e <;> rw [e]
 ·exact store_step (len := 8) h ha (.inl rfl) (by omega) (by omega) k1 h1
 ·exact store_step (len := 8) h ha (.inl rfl) (by omega) (by omega) k1 h1
 ·exact store_step (len := 8) h hs (.inl rfl) (by omega) (by omega) k1 h1
 ·exact store_step (len := 4) h hf (.inr (.inl rfl)) (by omega) (by omega) k1 h1
 ·exact store_step (len := 4) h hp (.inl rfl) (by omega) (by omega) k1 h1
 ·exact store_step (len := 4) h hb (.inr (.inr rfl)) (by omega) (by omega) k1 h1
theorem ops_a : ∀ i : Nat, i < 6 → (binTypeP (([10, 22, 23, 17, 18, 19] : List Int)[i]?.getD 0) 1 1).2 = 0 ∧ (pickP wAtomics (indexP (([10, 22, 23, 17, 18, 19] : List Int)[i]?.getD 0) wAtomOps)).2 = false := by decide +kernel
theorem atomM_ok {sc : Scope} {lp : Int} (h : Nat) {s : MS} (ho : Ok k sc first false (R + 1) s) : SOut R k sc first false false lp h 1 s (atomM bs s) := by
 obtain ⟨ha, hf, hs, hp, hb⟩ := ho.arr rfl
 have g := pl2_ge (bs := bs) (show (-2147483647 : Int) ≤ 8 by omega) (by omega) ho.cx
 have k1 := placeM_kc (xw (bs := bs) 2) 8 s
 have h1 := ho.kc k1
 simp only [atomM]
 generalize placeM (exprM bs 2) 8 s = r at *
 obtain ⟨i, s1⟩ := r
 simp only at g h1 k1 ⊢
 have h2 : Ok k sc first false (R + 1) (nextM bs (nextM bs s1).2).2 := h1.next.next
 have k2 := k1.trans ((zi (bs := bs) s1).trans (zi (bs := bs) _) (Nat.le_refl _)) (Nat.le_refl _)
 generalize nextM bs (nextM bs s1).2 = q at *
 obtain ⟨y, s2⟩ := q
 simp only at h2 k2 ⊢
 obtain ⟨o1, o2⟩ := ops_a (y % 6) (Nat.mod_lt _ (by omega))
 have f := ex3_ge (bs := bs) (.inl rfl) h2.cx
 have kk := k2.trans (xw (bs := bs) 3 1 s2) (Nat.le_refl _)
 have h3 : Ok k sc first false R (exprM bs 3 1 s2).2 := (h2.ex 3 1).less (by omega)
 rcases Nat.mod_two_eq_zero_or_one (nextM bs s1).1 with e | e <;> rw [e]
 ·obtain ⟨t, a, A, hl, hA, hty, hsp, hn⟩ := ha
  exact SOut.of kk (gs_atom h (g.mono (by omega) (by omega) (by omega)) (by rw [hty]; exact f) hl hA hn (by rw [hty]; exact o1) (by omega) o2) h3
 ·obtain ⟨t, a, A, hl, hA, hty, hsp, hn⟩ := hs
  exact SOut.of kk (gs_atom h (g.mono (by omega) (by omega) (by omega)) (by rw [hty]; exact f) hl hA hn (by rw [hty]; exact o1) (by omega) o2) h3
theorem collectedM_ok {sc : Scope} {lp : Int} (h : Nat) {s : MS} (ho : Ok k sc first false (R + 1) s) : SOut R k sc first false false lp h 1 s (collectedM bs first s) := by
 unfold collectedM
 split
 ·exact declareM_ok h ho
 ·rename_i hlen
  have h1 : Ok k sc first false (R + 1) (nextM bs s).2 := ho.next
  have k1 := zi (bs := bs) s
  simp only
  generalize nextM bs s = r at *
  obtain ⟨x, s1⟩ := r
  simp only at h1 k1 ⊢
  have hi : first + x % (s.vars.length - first) < s.vars.length := by have := Nat.mod_lt x (show s.vars.length - first > 0 by omega); omega
  generalize hj : first + x % (s.vars.length - first) = j at *
  have hv := varAt_ok hi
  generalize varAt s.vars j = v at *
  obtain ⟨a, hl⟩ := ho.set j v (by omega) hv
  have ht := ho.ty hv
  have hn := ho.nm hv
  have h2 : Ok k sc first false (R + 1) (nextM bs s1).2 := h1.next
  have k2 := k1.trans (zi (bs := bs) s1) (Nat.le_refl _)
  generalize nextM bs s1 = r at *
  obtain ⟨y, s2⟩ := r
  simp only at h2 k2 ⊢
  split
  ·rename_i h3
   rw [h3] at hl
   have g := ex3_ge (bs := bs) (t := 3) (.inr (.inr rfl)) h2.cx
   refine SOut.of (k2.trans (xw (bs := bs) 3 3 s2) (Nat.le_refl _)) ?_ ((h2.ex 3 3).less (by omega))
   rcases Nat.mod_two_eq_zero_or_one y with e | e <;> rw [e]
   ·exact gs_coll h g hl hn (by decide) (by decide) (by decide +kernel)
   ·exact gs_coll h g hl hn (by decide) (by decide) (by decide +kernel)
  rename_i hne3
  generalize hop : ([5, 6, 4, 1] : List Int)[y % 4]?.getD 0 = op at *
  split
  ·rename_i h3
   rw [h3.1]
   rw [h3.2] at hl
   have g := ex3_ge (bs := bs) (t := 3) (.inr (.inr rfl)) h2.cx
   exact SOut.of (k2.trans (xw (bs := bs) 3 3 s2) (Nat.le_refl _)) (gs_coll h g hl hn (by decide) (by decide) (by decide +kernel)) ((h2.ex 3 3).less (by omega))
  split
  ·rename_i h3
   rw [h3]
   have g := ex2_ge (bs := bs) ht h2.cx
   have h4 : Ok k sc first false (R + 1) (exprM bs 2 v.typ s2).2 := h2.ex 2 v.typ
   have f := ex2_ge (bs := bs) (t := 1) (.inl rfl) h4.cx
   exact SOut.of ((k2.trans (xw (bs := bs) 2 v.typ s2) (Nat.le_refl _)).trans (xw (bs := bs) 2 1 _) (Nat.le_refl _)) (gs_shuf h (g.mono (by omega) (by omega) (by omega)) (f.mono (by omega) (by omega) (by omega)) hl hn) ((h4.ex 2 1).less (by omega))
  ·have h4 : Ok k sc first false (R + 1) (nextM bs s2).2 := h2.next
   have k4 := k2.trans (zi (bs := bs) s2) (Nat.le_refl _)
   generalize nextM bs s2 = r at *
   obtain ⟨z, s4⟩ := r
   simp only at h4 k4 ⊢
   have g := ex3_ge (bs := bs) ht h4.cx
   have hft : fitsT 5 v.typ v.typ = true ∧ fitsT 6 v.typ v.typ = true := by simp [fitsT, hne3]
   refine SOut.of (k4.trans (xw (bs := bs) 3 v.typ s4) (Nat.le_refl _)) ?_ ((h4.ex 3 v.typ).less (by omega))
   rcases Nat.mod_two_eq_zero_or_one z with e | e <;> rw [e]
   ·exact gs_coll h g hl hn hft.1 (by decide) (by decide +kernel)
   ·exact gs_coll h g hl hn hft.2 (by decide) (by decide +kernel)
theorem plainM_ok {sc : Scope} {inF : Bool} {lp : Int} {top loop : Bool} (h j : Nat) {s : MS} (hpi : inF = pure) (hlp : loop = true → lp ≠ 0) (ho : Ok k sc first pure (R + 1) s) : SOut R k sc first pure inF lp h 1 s (plainM bs first top loop pure j s) := by
 subst hpi
 unfold plainM
 split
 ·rename_i h1
  refine SOut.of (zi (bs := bs) s) ?_ (ho.next.less (by omega))
  rcases Nat.mod_two_eq_zero_or_one (nextM bs s).1 with e | e <;> rw [e]
  ·exact gs_word h (.inl rfl) fun _ => hlp h1.2
  ·exact gs_word h (.inr (.inl rfl)) fun _ => hlp h1.2
 split
 ·exact setM_ok h ho
 rename_i hp
 have hp' : inF = false := by simpa using hp
 subst hp'
 split
 ·exact SOut.of (Kc.refl 0 s) (gs_word h (by simp) (by omega)) (ho.less (by omega))
 split
 ·exact collectedM_ok h ho
 split
 ·exact atomM_ok h ho
 split
 ·refine SOut.of (zi (bs := bs) s) ?_ (ho.next.less (by omega))
  rcases Nat.mod_two_eq_zero_or_one (nextM bs s).1 with e | e <;> rw [e]
  ·exact gs_fence h (by simp)
  ·exact gs_fence h (by simp)
 ·exact storeM_ok h ho
def SG (R : Nat) (k : Ke) (first : Nat) (pure inF : Bool) (lp : Int) (h : Nat) (S : MS → Sm × MS) : Prop := ∀ sc s, Ok k sc first pure R s → 0 < s.left → SOut R k sc first pure inF lp h 0 s (S s)
theorem stmtsM_ok {inF : Bool} {lp : Int} {h : Nat} {S : MS → Sm × MS} (hS : SG R k first pure inF lp h S) : ∀ n sc s, Ok k sc first pure R s → LOut R k sc first pure inF lp h s (stmtsM S n s)
 | 0, sc, s, ho => ⟨sc, by simp only [stmtsM, Int.sub_self]; exact GL.nil h, ho, Grow.refl s⟩
 | n + 1, sc, s, ho => by
  simp only [stmtsM]
  split
  ·rename_i hl
   obtain ⟨sc1, g1, h1, w1⟩ := hS sc s ho hl
   generalize S s = r at *
   obtain ⟨st, s1⟩ := r
   simp only at g1 h1 w1 ⊢
   obtain ⟨sc2, g2, h2, w2⟩ := stmtsM_ok hS n sc1 s1 h1
   refine ⟨sc2, ?_, h2, w1.trans w2⟩
   have := GL.cons g1 g2
   rw [show 0 + s.left - s1.left + (s1.left - (stmtsM S n s1).2.left) = s.left - (stmtsM S n s1).2.left by omega] at this
   exact this
  ·exact ⟨sc, by simp only [Int.sub_self]; exact GL.nil h, ho, Grow.refl s⟩
theorem Ok.back {sc sc' : Scope} {s s' : MS} (ho : Ok k sc first pure R s) (h' : Ok k sc' first pure R s') (w : Grow s s') : Ok k sc first pure R { s' with vars := s'.vars.take s.vars.length } := by
 obtain ⟨l, hl⟩ := w.vars
 have hv : s'.vars.take s.vars.length = s.vars := by rw [hl, List.take_left']; rfl
 refine ⟨⟨?_, ?_, ?_⟩, ?_, fun c hc => ?_, ho.q, h'.left, h'.room, h'.loads⟩
 ·simp only [hv]; exact ho.cx.vars
 ·simp only [w.loads]; exact ho.cx.arrs
 ·simp only [w.call]; exact ho.cx.call
 ·simp only [hv]; exact ho.set
 ·exact ho.fresh c (by have := w.count; simp only at hc; omega)
theorem blockM_ok {inF : Bool} {lp : Int} {h : Nat} {S : MS → Sm × MS} (hS : SG R k first pure inF lp h S) {sc : Scope} {s : MS} (ho : Ok k sc first pure R s) :
  ∃ sc', GL k sc sc' inF lp (s.left - (blockM bs S s).2.left) h (blockM bs S s).1 ∧ Ok k sc first pure R (blockM bs S s).2 ∧ Grow s (blockM bs S s).2 := by
 have h1 : Ok k sc first pure R (nextM bs s).2 := ho.next
 have k1 := zi (bs := bs) s
 simp only [blockM]
 generalize nextM bs s = r at *
 obtain ⟨x, s1⟩ := r
 simp only at h1 k1 ⊢
 obtain ⟨sc', g, h2, w⟩ := stmtsM_ok hS (1 + x % 3) sc s1 h1
 have w2 : Grow s (stmtsM S (1 + x % 3) s1).2 := (Grow.kc k1).trans w
 refine ⟨sc', ?_, ho.back h2 w2, ⟨⟨[], ?_⟩, w2.count, w2.loads, w2.call⟩⟩
 ·rw [k1.left] at g; exact g
 ·obtain ⟨l, hl⟩ := w2.vars
  simp only [hl, List.take_left', List.append_nil]
theorem SOut.up {sc : Scope} {inF : Bool} {lp : Int} {h : Nat} {s s1 : MS} {r : Sm × MS} (w : Grow s s1) (hl : s1.left = s.left - 1) (g : SOut R k sc first pure inF lp h 1 s1 r) : SOut R k sc first pure inF lp h 0 s r := by
 obtain ⟨sc', g, h2, w2⟩ := g
 exact ⟨sc', by rw [show 0 + s.left - r.2.left = 1 + s1.left - r.2.left by omega]; exact g, h2, w.trans w2⟩
theorem stmtM_ok {inF : Bool} (hpi : inF = pure) : ∀ (d : Nat) (top loop : Bool) (lp : Int), 0 ≤ lp → lp + d ≤ 20 → (loop = true → lp ≠ 0) → SG R k first pure inF lp d (stmtM bs first pure d top loop)
 | 0, top, loop, lp, h0, h1, hlp, sc, s, ho, hl => by
  have ho' : Ok k sc first pure (R + 1) { s with left := s.left - 1 } := ⟨⟨ho.cx.vars, ho.cx.arrs, ho.cx.call⟩, ho.set, ho.fresh, ho.q, by simp only; omega, by have := ho.room; simp only; omega, ho.loads⟩
  have h2 : Ok k sc first pure (R + 1) (nextM bs { s with left := s.left - 1 }).2 := ho'.next
  have k2 := zi (bs := bs) { s with left := s.left - 1 }
  simp only [stmtM]
  generalize nextM bs { s with left := s.left - 1 } = r at *
  obtain ⟨x, s2⟩ := r
  simp only at h2 k2 ⊢
  have w0 : Grow s { s with left := s.left - 1 } := ⟨⟨[], by simp⟩, Nat.le_refl _, rfl, rfl⟩
  have w : Grow s s2 := w0.trans (Grow.kc k2)
  refine SOut.up w (by rw [k2.left]) ?_
  split
  ·exact declareM_ok 0 h2
  split
  ·exact setM_ok 0 h2
  ·exact plainM_ok 0 _ hpi hlp h2
 | d + 1, top, loop, lp, h0, h1, hlp, sc, s, ho, hl => by
  have ho' : Ok k sc first pure (R + 1) { s with left := s.left - 1 } := ⟨⟨ho.cx.vars, ho.cx.arrs, ho.cx.call⟩, ho.set, ho.fresh, ho.q, by simp only; omega, by have := ho.room; simp only; omega, ho.loads⟩
  have h2 : Ok k sc first pure (R + 1) (nextM bs { s with left := s.left - 1 }).2 := ho'.next
  have k2 := zi (bs := bs) { s with left := s.left - 1 }
  simp only [stmtM]
  generalize nextM bs { s with left := s.left - 1 } = r at *
  obtain ⟨x, s2⟩ := r
  simp only at h2 k2 ⊢
  have w0 : Grow s { s with left := s.left - 1 } := ⟨⟨[], by simp⟩, Nat.le_refl _, rfl, rfl⟩
  have w : Grow s s2 := w0.trans (Grow.kc k2)
  refine SOut.up w (by rw [k2.left]) ?_
  split
  ·exact declareM_ok (d + 1) h2
  split
  ·exact setM_ok (d + 1) h2
  split
  ·have g := ex3_ge (bs := bs) (t := 3) (.inr (.inr rfl)) h2.cx
   have h3 : Ok k sc first pure R (exprM bs 3 3 s2).2 := (h2.ex 3 3).less (by omega)
   have k3 := xw (bs := bs) 3 3 s2
   generalize exprM bs 3 3 s2 = r at *
   obtain ⟨e, s3⟩ := r
   simp only at g h3 k3 ⊢
   obtain ⟨sc1, g1, h4, w4⟩ := blockM_ok (bs := bs) (stmtM_ok hpi d false loop lp h0 (by omega) hlp) h3
   generalize blockM bs (stmtM bs first pure d false loop) s3 = r at *
   obtain ⟨b, s4⟩ := r
   simp only at g1 h4 w4 ⊢
   have h5 : Ok k sc first pure R (nextM bs s4).2 := h4.next
   have k5 := zi (bs := bs) s4
   generalize nextM bs s4 = r at *
   obtain ⟨y, s5⟩ := r
   simp only at h5 k5 ⊢
   have l3 := k3.left
   have l5 := k5.left
   split
   ·obtain ⟨sc2, g2, h6, w6⟩ := blockM_ok (bs := bs) (stmtM_ok hpi d false loop lp h0 (by omega) hlp) h5
    generalize blockM bs (stmtM bs first pure d false loop) s5 = r at *
    obtain ⟨c, s6⟩ := r
    simp only at g2 h6 w6 ⊢
    refine ⟨sc, ?_, h6, (Grow.kc k3).trans (w4.trans ((Grow.kc k5).trans w6))⟩
    have := gs_if g g1 g2
    rw [show 1 + (s3.left - s4.left) + (s5.left - s6.left) = 1 + s2.left - s6.left by omega] at this
    exact this
   ·refine ⟨sc, ?_, h5, (Grow.kc k3).trans (w4.trans (Grow.kc k5))⟩
    have := gs_if g g1 (GL.nil d)
    rw [show 1 + (s3.left - s4.left) + 0 = 1 + s2.left - s5.left by omega] at this
    exact this
  split
  ·have g := ex3_ge (bs := bs) (t := 3) (.inr (.inr rfl)) h2.cx
   have h3 : Ok k sc first pure R (exprM bs 3 3 s2).2 := (h2.ex 3 3).less (by omega)
   have k3 := xw (bs := bs) 3 3 s2
   generalize exprM bs 3 3 s2 = r at *
   obtain ⟨e, s3⟩ := r
   simp only at g h3 k3 ⊢
   have h5 : Ok k sc first pure R (nextM bs s3).2 := h3.next
   have k5 := zi (bs := bs) s3
   generalize nextM bs s3 = r at *
   obtain ⟨y, s5⟩ := r
   simp only at h5 k5 ⊢
   obtain ⟨sc1, g1, h4, w4⟩ := blockM_ok (bs := bs) (stmtM_ok hpi d false true (lp + 1) (by omega) (by omega) (by omega)) h5
   generalize blockM bs (stmtM bs first pure d false true) s5 = r at *
   obtain ⟨b, s4⟩ := r
   simp only at g1 h4 w4 ⊢
   have l3 := k3.left
   have l5 := k5.left
   refine ⟨sc, ?_, h4, (Grow.kc k3).trans ((Grow.kc k5).trans w4)⟩
   have := gs_while (b := 1 + ((y % 4 : Nat) : Int)) h0 (by omega) (by omega) g g1
   rw [show 1 + (s5.left - s4.left) = 1 + s2.left - s4.left by omega] at this
   exact this
  ·exact plainM_ok (d + 1) _ hpi hlp h2
end
end
section
theorem Co.mono {u v : Int} {h : Nat} {s : Sm} (a : Co u h s) (h1 : u ≤ v) : Co v h s := ⟨a.ok, a.over, by have := a.nodes; omega, fun d hd => by have := a.w d hd; omega⟩
theorem CoL.mono {u v : Int} {h : Nat} {l : List Sm} (a : CoL u h l) (h1 : u ≤ v) : CoL v h l := ⟨a.ok, a.over, by have := a.nodes; omega, fun d hd => by have := a.w d hd; omega⟩
theorem GL.mono {k : Ke} {sc sc' : Scope} {inF : Bool} {lp u v : Int} {h : Nat} {l : List Sm} (a : GL k sc sc' inF lp u h l) (h1 : u ≤ v) : GL k sc sc' inF lp v h l := ⟨a.typ, a.good, a.pure, a.decl, a.co.mono h1⟩
structure FnOk (k : Ke) (n : Nat) (f : Fu) : Prop where
 typ : functionT k n f = 0
 good : (functionP f).2 = false
 pure : anyImpure f.body = false
 over : overF f = false
 nodes : nodesF f ≤ 300
 okb : Sm.okL f.body
 okr : f.ret.ok
 len : (functionP f).1.length ≤ 100000
 decl : ∀ n ∈ declsL f.body, IsV n
structure Bare (sc : Scope) : Prop where
 fresh : ∀ c, c < 20 → sc.lookup (vN c) = none
 q : ∀ t, sc.lookup [113, 113, 57] = some t → t.kind = 1
section
variable {bs : List UInt8}
theorem xy_ne : ∀ c, c < 20 → vT c ≠ [120] ∧ vT c ≠ [121] ∧ vT c ≠ [110] ∧ vT c ≠ [116] ∧ vT c ≠ [99] := by decide +kernel
theorem fun_len (l : List Sm) (e : Ex) : (functionP ⟨[104], hPars, 1, l, e⟩).1.length = 100 ∨ (functionP ⟨[104], hPars, 1, l, e⟩).1.length ≤ 100 + sumL (linesP [32, 32] (stmtsP l [32, 32])) + (exprP e).1.length := by
 refine .inr ?_
 rw [functionP, xr, vp, vp]
 have h1 : sumL (commas 0 (hPars.map paP)) ≤ 50 := by decide +kernel
 have h2 := v7 (n := 16) wTypes (by decide) (subW 1 1)
 simp only [sumL, List.map_cons, List.map_nil, List.sum_cons, List.sum_nil, List.length_cons, List.length_nil, bodyP, xr] at *
 omega
theorem funM_ok {k : Ke} {n : Nat} {s : MS} (hs : s.call = false) (hl : s.loads = false) (hc : s.count = 0) (hb : Bare (scope0 k n)) (hx : (scope0 k n).lookup [120] = none) (hy : (scope0 k n).lookup [121] = none) :
  FnOk k n (funM bs s).1 ∧ (funM bs s).2.count ≤ 4 ∧ (funM bs s).2.loads = false := by
 have hd : declL (scope0 k n) true (parT hPars) = (scope0 k n ++ [([120], ⟨2, 1, 0⟩)] ++ [([121], ⟨2, 1, 0⟩)], true) := by
  have h2 : (scope0 k n ++ [([120], ⟨2, 1, 0⟩)] : Scope).lookup [121] = none := vr hy (by decide)
  simp [hPars, parT, declL, declP, hx, h2]
 have ho : Ok k (scope0 k n ++ [([120], ⟨2, 1, 0⟩)] ++ [([121], ⟨2, 1, 0⟩)]) 2 true 13 { s with vars := hPars, left := 4 } := by
  have l1 : (scope0 k n ++ [([120], ⟨2, 1, 0⟩)] ++ [([121], ⟨2, 1, 0⟩)] : Scope).lookup [120] = some ⟨2, 1, 0⟩ := yi (wt hx)
  have l2 : (scope0 k n ++ [([120], ⟨2, 1, 0⟩)] ++ [([121], ⟨2, 1, 0⟩)] : Scope).lookup [121] = some ⟨2, 1, 0⟩ := wt (vr hy (by decide))
  refine ⟨⟨fun p hp => ?_, fun h => ?_, fun h => ?_⟩, fun i p hi hp => ?_, fun c _ hc2 => ?_, look_q (look_q hb.q (by decide)) (by decide), by simp, by simp [hc], by simp⟩
  ·simp only [hPars, List.mem_cons, List.not_mem_nil, or_false] at hp
   rcases hp with rfl | rfl
   ·exact ⟨⟨2, 0, .inl rfl, l1⟩, by decide +kernel, .inl rfl⟩
   ·exact ⟨⟨2, 0, .inl rfl, l2⟩, by decide +kernel, .inl rfl⟩
  ·simp only at h; rw [hl] at h; cases h
  ·simp only at h; rw [hs] at h; cases h
  ·rw [List.getElem?_eq_none (by simp [hPars]; omega)] at hp; cases hp
  ·have := xy_ne c hc2
   rw [← vN_eq c hc2] at this
   exact vr (vr (hb.fresh c hc2) this.1) this.2.1
 have h1 : Ok k (scope0 k n ++ [([120], ⟨2, 1, 0⟩)] ++ [([121], ⟨2, 1, 0⟩)]) 2 true 13 (nextM bs { s with vars := hPars, left := 4 }).2 := ho.next
 have k1 := zi (bs := bs) { s with vars := hPars, left := 4 }
 simp only [funM]
 generalize nextM bs { s with vars := hPars, left := 4 } = r at *
 obtain ⟨x, s1⟩ := r
 simp only at h1 k1 ⊢
 obtain ⟨sc', g, h2, w⟩ := stmtsM_ok (stmtM_ok (bs := bs) (inF := true) rfl 1 false false 0 (by omega) (by omega) (by simp)) (x % 4) _ s1 h1
 generalize stmtsM (stmtM bs 2 true 1 false false) (x % 4) s1 = r at *
 obtain ⟨l, s2⟩ := r
 simp only at g h2 w ⊢
 have f := ex3_ge (bs := bs) (t := 1) (.inl rfl) h2.cx
 have k2 := xw (bs := bs) 3 1 s2
 generalize exprM bs 3 1 s2 = r at *
 obtain ⟨e, s3⟩ := r
 simp only at f k2 ⊢
 have hleft : s1.left = 4 := by rw [k1.left]
 have hl2 := h2.left
 have g4 := g.mono (v := 4) (by omega)
 refine ⟨⟨?_, ?_, g4.pure rfl, ?_, ?_, g4.co.ok, f.ok, ?_, g4.decl⟩, ?_, ?_⟩
 ·simp only [functionT, hd, g4.typ, asT_ge f]; simp
 ·have h3 : (exprP e).2 = false := f.good
  have h4 : (bodyP [32, 32] l).2 = false := g4.good _
  have h5 : (commas 0 (hPars.map paP)).any (·.2) = false := by decide +kernel
  have h6 : (pickP wTypes (subW 1 1)).2 = false := by decide +kernel
  have h7 : isNameP [104] = true := by decide +kernel
  simp only [functionP, xm, List.any_append, List.any_cons, List.any_nil, h3, h4, h5, h6, h7]; rfl
 ·have h3 := g4.co.over 1 (by omega) (by omega)
  have h4 := f.over 1 (by omega) (by omega)
  simp [overF, h3, h4, hPars]
 ·have h3 := g4.co.nodes
  have h4 := f.nodes
  simp only [nodesF]; omega
 ·have h3 := stmtsP_len l g4.co.ok [32, 32]
  have h4 := g4.co.w 2 (by omega)
  have h5 := exprP_len e f.ok
  have h6 := f.w
  have h7 := fun_len l e
  rw [show ([32, 32] : Str).length = 2 from rfl] at h3
  rcases h7 with h7 | h7 <;> omega
 ·have := h2.room; rw [k2.count]; omega
 ·rw [k2.loads, w.loads, k1.loads]; exact hl
structure Glob (sc : Scope) : Prop extends Bare sc where
 arrs : Arrs sc
 n : sc.lookup [110] = some ⟨2, 1, 0⟩
 t : sc.lookup [116] = some ⟨2, 2, 0⟩
 c : sc.lookup [99] = some ⟨2, 3, 0⟩
def setB (s : MS) : MS := { s with vars := parsM, loads := true, left := 12 }
def bodyM (bs : List UInt8) (s : MS) : List Sm :=
 let p := nextM bs (setB s)
 let b := stmtsM (stmtM bs 3 false 2 true false) (1 + p.1 % 8) p.2
 b.1 ++ (tailM bs b.2).1
theorem bodyM_ok {k : Ke} {sc : Scope} {s : MS} (hA : k.arrays = arrsM) (hg : Glob sc) (hc : s.count ≤ 4) (hcall : s.call = true → ∃ i f, sc.lookup [104] = some ⟨1, 1, i⟩ ∧ k.funcs[i.toNat]? = some f ∧ f.params.map (·.typ) = [1, 1] ∧ f.typ = 1) :
  ∃ sc', GL k sc sc' false 0 15 2 (bodyM bs s) ∧ ∀ t, sc'.lookup [113, 113, 57] = some t → t.kind = 1 := by
 have ho : Ok k sc 3 false 1 (setB s) := by
  refine ⟨⟨fun p hp => ?_, fun h => hg.arrs, hcall⟩, fun i p hi hp => ?_, fun c _ hc2 => hg.fresh c hc2, hg.q, by simp [setB], by simp [setB]; omega, fun _ => ⟨rfl, hA⟩⟩
  ·simp only [setB, parsM, List.mem_cons, List.not_mem_nil, or_false] at hp
   rcases hp with rfl | rfl | rfl
   ·exact ⟨⟨2, 0, .inl rfl, hg.n⟩, by decide +kernel, .inl rfl⟩
   ·exact ⟨⟨2, 0, .inl rfl, hg.t⟩, by decide +kernel, .inr (.inl rfl)⟩
   ·exact ⟨⟨2, 0, .inl rfl, hg.c⟩, by decide +kernel, .inr (.inr rfl)⟩
  ·rw [List.getElem?_eq_none (by simp [setB, parsM]; omega)] at hp; cases hp
 have hl0 : (setB s).left = 12 := rfl
 have h1 : Ok k sc 3 false 1 (nextM bs (setB s)).2 := ho.next
 have k1 := zi (bs := bs) (setB s)
 simp only [bodyM]
 generalize nextM bs (setB s) = r at *
 obtain ⟨x, s1⟩ := r
 simp only at h1 k1 ⊢
 obtain ⟨sc1, g, h2, w⟩ := stmtsM_ok (stmtM_ok (bs := bs) (inF := false) rfl 2 true false 0 (by omega) (by omega) (by simp)) (1 + x % 8) _ s1 h1
 generalize stmtsM (stmtM bs 3 false 2 true false) (1 + x % 8) s1 = r at *
 obtain ⟨l, s2⟩ := r
 simp only at g h2 w ⊢
 have l1 := k1.left
 have l2 := h2.left
 have g12 := g.mono (v := 12) (by omega)
 have h3 : Ok k sc1 3 false 1 (nextM bs s2).2 := h2.next
 have l3 := (zi (bs := bs) s2).left
 simp only [tailM]
 generalize nextM bs s2 = r at *
 obtain ⟨y, s3⟩ := r
 simp only at h3 l3 ⊢
 split
 ·have e3 := ex3_ge (bs := bs) (t := 3) (.inr (.inr rfl)) h3.cx
  have h4 : Ok k sc1 3 false 1 (exprM bs 3 3 s3).2 := h3.ex 3 3
  have l4 := (xw (bs := bs) 3 3 s3).left
  generalize exprM bs 3 3 s3 = r at *
  obtain ⟨e, s4⟩ := r
  simp only at e3 h4 l4 ⊢
  have hret : GL k sc1 sc1 false 0 1 1 [.mk 9 0 0 0 [] zE zE [] []] := by
   have := GL.cons (k := k) (sc := sc1) (inF := false) (lp := 0) (gs_word (kd := 9) 1 (.inr (.inr ⟨.inl rfl, rfl⟩)) (by omega)) (GL.nil 1)
   simpa using this
  have g1 := gs_if e3 hret (GL.nil (k := k) (sc := sc1) (inF := false) (lp := 0) 1)
  obtain ⟨sc2, g2, h5, w5⟩ := storeM_ok (bs := bs) (lp := 0) 2 h4
  have l5 := h5.left
  have := g.append (GL.cons g1 (GL.cons g2 (GL.nil 2)))
  exact ⟨sc2, this.mono (by omega), h5.q⟩
 ·exact ⟨sc1, by simpa using g12.mono (by omega), h2.q⟩
end
end
section
def glob0 : Scope := [([97], ⟨0, 1, 0⟩), ([102], ⟨0, 2, 1⟩), ([115], ⟨0, 1, 2⟩), ([112], ⟨0, 1, 3⟩), ([98], ⟨0, 3, 4⟩), ([110], ⟨2, 1, 0⟩), ([116], ⟨2, 2, 0⟩), ([99], ⟨2, 3, 0⟩)]
def arrs0 : Scope := [([97], ⟨0, 1, 0⟩), ([102], ⟨0, 2, 1⟩), ([115], ⟨0, 1, 2⟩), ([112], ⟨0, 1, 3⟩), ([98], ⟨0, 3, 4⟩)]
theorem vc (a b : List Decl) (sc : Scope) (ok : Bool) : declL sc ok (a ++ b) = declL (declL sc ok a).1 (declL sc ok a).2 b := by
 induction a generalizing sc ok with
 | nil => rfl
 | cons x a ih => exact ih _ _
theorem glob0_eq : declL [] true (arrT arrsM ++ parT parsM) = (glob0, true) := by decide +kernel
theorem arrs0_eq : declL [] true (arrT arrsM) = (arrs0, true) := by decide +kernel
theorem lift_v {sc : Scope} (h : ∀ c, c < 20 → sc.lookup (vT c) = none) : ∀ c, c < 20 → sc.lookup (vN c) = none := fun c hc => by rw [vN_eq c hc]; exact h c hc
theorem Glob.zero : Glob glob0 := ⟨⟨lift_v (by decide +kernel), by decide +kernel⟩, ⟨rfl, rfl, rfl, rfl, rfl⟩, rfl, rfl, rfl⟩
theorem Bare.arrs : Bare arrs0 := ⟨lift_v (by decide +kernel), by decide +kernel⟩
theorem Bare.add {sc : Scope} {n : Str} {u : Thing} (h : Bare sc) (h1 : ∀ c, c < 20 → vT c ≠ n) (h2 : n = [113, 113, 57] → u.kind = 1) : Bare (sc ++ [(n, u)]) := by
 refine ⟨fun c hc => vr (h.fresh c hc) (by rw [vN_eq c hc]; exact h1 c hc), fun t ht => ?_⟩
 by_cases hn : n = [113, 113, 57]
 ·rcases hs : sc.lookup [113, 113, 57] with _ | x
  ·rw [hn, wt hs] at ht; cases ht; exact h2 hn
  ·rw [yi hs] at ht; cases ht; exact h.q _ hs
 ·exact look_q h.q hn t ht
theorem Arrs.add {sc : Scope} {n : Str} {u : Thing} (h : Arrs sc) : Arrs (sc ++ [(n, u)]) := ⟨yi h.a, yi h.f, yi h.s, yi h.p, yi h.b⟩
theorem Glob.add {sc : Scope} {n : Str} {u : Thing} (h : Glob sc) (h1 : ∀ c, c < 20 → vT c ≠ n) (h2 : n = [113, 113, 57] → u.kind = 1) : Glob (sc ++ [(n, u)]) :=
 ⟨h.toBare.add h1 h2, h.arrs.add, yi h.n, yi h.t, yi h.c⟩
section
variable {bs : List UInt8}
def qM (bs : List UInt8) : MS := (nextM bs (nextM bs startM).2).2
def gM (bs : List UInt8) : Int := ([4, 1, 2, 8, 6] : List Int)[(nextM bs startM).1 % 5]?.getD 0
def sM (bs : List UInt8) : Int := subM (gM bs) ((nextM bs (nextM bs startM).2).1 % 3) 1
theorem num_ok (bs : List UInt8) : numP (gM bs) (sM bs) = true := by
 simp only [sM, gM]
 have h1 : (nextM bs startM).1 % 5 < 5 := Nat.mod_lt _ (by omega)
 have h2 : (nextM bs (nextM bs startM).2).1 % 3 < 3 := Nat.mod_lt _ (by omega)
 generalize (nextM bs startM).1 % 5 = a at *
 generalize (nextM bs (nextM bs startM).2).1 % 3 = b at *
 have : ∀ a, a < 5 → ∀ b, b < 3 → numP (([4, 1, 2, 8, 6] : List Int)[a]?.getD 0) (subM (([4, 1, 2, 8, 6] : List Int)[a]?.getD 0) b 1) = true := by decide +kernel
 exact this a h1 b h2
theorem head_cases (bs : List UInt8) : ((headM bs (qM bs)).1 = [] ∧ (headM bs (qM bs)).2.call = false ∧ (headM bs (qM bs)).2.count ≤ 4) ∨
  (∃ f, (headM bs (qM bs)).1 = [f] ∧ f.name = [104] ∧ f.params = hPars ∧ f.typ = 1 ∧ (headM bs (qM bs)).2.call = true ∧ (headM bs (qM bs)).2.count ≤ 4 ∧
   ∀ (k : Ke) (n : Nat), Bare (scope0 k n) → (scope0 k n).lookup [120] = none → (scope0 k n).lookup [121] = none → FnOk k n f) := by
 unfold headM
 simp only
 split
 ·refine .inr ⟨_, rfl, rfl, rfl, rfl, rfl, ?_, fun k n hb hx hy => (funM_ok (k := k) (n := n) rfl rfl rfl hb hx hy).1⟩
  have hb : Bare (scope0 ⟨[], 0, 0, arrsM, [], [], []⟩ 0) := by
   have : scope0 ⟨[], 0, 0, arrsM, [], [], []⟩ 0 = arrs0 := by decide +kernel
   rw [this]; exact Bare.arrs
  exact (funM_ok (k := ⟨[], 0, 0, arrsM, [], [], []⟩) (n := 0) rfl rfl rfl hb (by decide +kernel) (by decide +kernel)).2.1
 ·exact .inl ⟨rfl, rfl, by simp [nextM, qM, startM]⟩
structure MadeOk (bs : List UInt8) (k : Ke) : Prop where
 glob : (globalsP k).2 = true
 funs : funcsT k 0 k.funcs 0 = 0
 each : ∀ f ∈ k.funcs, FnOk k 0 f
 few : k.funcs.length ≤ 1
 body : ∃ sc', GL k (globalsP k).1 sc' false 0 15 2 (madeM bs).body ∧ ∀ t, sc'.lookup [113, 113, 57] = some t → t.kind = 1
theorem made_ok {k : Ke} (hA : k.arrays = arrsM) (hP : k.params = parsM) (hF : k.funcs = (headM bs (qM bs)).1) : MadeOk bs k := by
 have hb : (madeM bs).body = bodyM bs (headM bs (qM bs)).2 := rfl
 rcases head_cases bs with ⟨h1, h2, h3⟩ | ⟨f, h1, hn, hp, ht, h2, h3, h4⟩
 ·rw [h1] at hF
  have hG : globalsP k = (glob0, true) := by
   rw [globalsP, hA, hP, hF]
   exact glob0_eq
  refine ⟨by rw [hG], by rw [hF]; rfl, by rw [hF]; simp, by rw [hF]; simp, ?_⟩
  rw [hG, hb]
  exact bodyM_ok hA Glob.zero h3 (by rw [h2]; simp)
 ·rw [h1] at hF
  have hfn : ([104] : Str) ≠ [113, 113, 57] := by decide
  have hv : ∀ c, c < 20 → vT c ≠ [104] := by decide +kernel
  have hG : globalsP k = (glob0 ++ [([104], ⟨1, 1, 0⟩)], true) := by
   rw [globalsP, hA, hP, hF, vc, glob0_eq]
   have : glob0.lookup [104] = none := by decide +kernel
   simp [funT, declL, declP, hn, ht, this]
  have hS : scope0 k 0 = arrs0 := by
   rw [scope0, hA]
   simp only [List.take_zero, funT, List.zipIdx_nil, List.map_nil, List.append_nil, arrs0_eq]
  have hf : FnOk k 0 f := h4 k 0 (by rw [hS]; exact Bare.arrs) (by rw [hS]; decide +kernel) (by rw [hS]; decide +kernel)
  refine ⟨by rw [hG], by rw [hF]; simp [funcsT, hf.typ], by rw [hF]; simpa using hf, by rw [hF]; simp, ?_⟩
  rw [hG, hb]
  refine bodyM_ok hA (Glob.zero.add hv (fun h => absurd h hfn)) h3 fun _ => ⟨0, f, ?_, by rw [hF]; rfl, by rw [hp]; rfl, ht⟩
  decide +kernel
theorem flat_sum {α : Type} (g : α → List (Str × Bool)) (l : List α) : sumL (l.flatMap g) = (l.map fun x => sumL (g x)).sum := by
 induction l with
 | nil => rfl
 | cons x l ih => simp [vp, ih]
theorem kern_len {k : Ke} (hk : k.ok) (hN : k.name.length ≤ 12) (hA : k.arrays = arrsM) (hP : k.params = parsM) {F B : Nat} (hF : (k.funcs.map fun f => (functionP f).1.length).sum ≤ F) (hB : wSL k.body 2 ≤ B) : (kernelP k).1.length ≤ F + B + 2000 := by
 rw [kernelP, xr, textPs]
 have h1 : sumL (arrsM.flatMap arrPs) ≤ 500 := by decide +kernel
 have h2 : sumL (parsM.flatMap parPs) ≤ 500 := by decide +kernel
 have h3 : sumL (k.funcs.flatMap funPs) ≤ F := by
  rw [flat_sum]
  refine Nat.le_trans (Nat.le_of_eq ?_) hF
  congr 1
  apply List.map_congr_left
  intro f _
  simp [funPs, sumL]
 have h4 := stmtsP_len k.body hk.body [32, 32]
 rw [show ([32, 32] : Str).length = 2 from rfl] at h4
 have h5 := itoa_fit k.group hk.group.1 hk.group.2
 have h6 := itoa_fit k.sub hk.sub.1 hk.sub.2
 rw [hA, hP]
 have h7 : sumL (endPs k) = sumL (linesP [32, 32] (stmtsP k.body [32, 32])) + 4 := by
  simp only [endPs, sumL, List.map_cons, List.map_nil, List.sum_cons, List.sum_nil, block_len, bodyP, xr, List.length_nil, List.length_cons]; omega
 have h8 : (headP k.group k.sub).length ≤ 100 := by simp only [headP, List.length_append, List.length_cons, List.length_nil]; omega
 have h9 : ∀ (a b c : Str × Bool) (l : List (Str × Bool)), sumL (a :: b :: c :: l) = a.1.length + (b.1.length + (c.1.length + sumL l)) := fun a b c l => by simp [sumL]
 rw [h9, vp, vp, vp, h7]
 simp only [List.length_cons, List.length_nil]
 omega
theorem made_okK {k : Ke} (hm : MadeOk bs k) (hg : k.group = gM bs) (hs : k.sub = sM bs) (hA : k.arrays = arrsM) (hb : Sm.okL k.body) : k.ok := by
 have hn := num_ok bs
 simp only [numP, Bool.and_eq_true, decide_eq_true_eq] at hn
 refine ⟨by rw [hg]; unfold i64ok; omega, by rw [hs]; unfold i64ok; omega, by rw [hA]; simp [arrsM, i64ok], fun f hf => ⟨(hm.each f hf).okb, (hm.each f hf).okr⟩, hb⟩
theorem funs_len {k : Ke} (hm : MadeOk bs k) : (k.funcs.map fun f => (functionP f).1.length).sum ≤ 100000 := by
 have h := hm.each
 have h2 := hm.few
 match hk : k.funcs with
 | [] => simp
 | [f] => rw [hk] at h; have := (h f (by simp)).len; simp; omega
 | f :: g :: l => rw [hk] at h2; simp at h2
theorem funs_nodes {k : Ke} (hm : MadeOk bs k) : (k.funcs.map nodesF).sum ≤ 300 := by
 have h := hm.each
 have h2 := hm.few
 match hk : k.funcs with
 | [] => simp
 | [f] => rw [hk] at h; have := (h f (by simp)).nodes; simp; omega
 | f :: g :: l => rw [hk] at h2; simp at h2
theorem ul (bs : List UInt8) : MadeOk bs (madeM bs) := made_ok rfl rfl rfl
theorem made_valid (bs : List UInt8) : validP (madeM bs) = true := by
 have hm := ul bs
 obtain ⟨sc', g, _⟩ := hm.body
 have h1 : overK (madeM bs) = false := by
  have h2 := hm.few
  have h3 := g.co.over 1 (by omega) (by omega)
  have h4 : (madeM bs).funcs.any overF = false := List.any_eq_false.2 fun f hf => by simp [(hm.each f hf).over]
  have h5 : decide (8 < (madeM bs).arrays.length) = false := rfl
  have h6 : decide (8 < (madeM bs).params.length) = false := rfl
  have h7 : decide (8 < (madeM bs).funcs.length) = false := by simp; omega
  simp [overK, h3, h4, h5, h6, h7]
 have h2 : wn (nodesK (madeM bs)) ≤ 2000 := by
  have h3 := g.co.nodes
  have h4 := funs_nodes hm
  have : nodesK (madeM bs) ≤ 1200 := by unfold nodesK; omega
  rw [wn, yy (by omega) (by omega)]; omega
 have h3 : (kernelP (madeM bs)).2 = false := by
  have h4 : (bodyP [32, 32] (madeM bs).body).2 = false := g.good _
  have h5 : (((madeM bs).funcs.flatMap funPs).any (·.2)) = false := by
   rw [List.any_flatMap, List.any_eq_false]
   intro f hf
   simp [funPs, (hm.each f hf).pure, (hm.each f hf).good]
  have h6 : ((madeM bs).arrays.flatMap arrPs).any (·.2) = false := by
   show (arrsM.flatMap arrPs).any (·.2) = false
   decide +kernel
  have h7 : ((madeM bs).params.flatMap parPs).any (·.2) = false := by
   show (parsM.flatMap parPs).any (·.2) = false
   decide +kernel
  have h8 : isNameP (madeM bs).name = true := by
   show isNameP [107] = true
   decide +kernel
  simp only [kernelP, xm, textPs, List.any_cons, List.any_append, h5, h6, h7, h8, endPs]
  simp [blockP, cat, h4]
 simp [validP, withinP, h1, h2, h3]
end
end
section
def l20_0 : SCode := (.seq (.seq (.reg [m 4 3, m 5 0, pE 6 (.lenL (t 5)), pE 7 (.bin .int .lss (t 4) (t 6))]) (.cond (t 7) .skip (.exit 0))) (.seq (.block 1 (.seq (.reg [m 10 0, m 11 3, pE 12 (.idxA 19 (t 10) (t 11)), pE 13 (.fldA 0 (t 12)), oS 14 (.load 1 false (t 13)), pE 15 (.bin .int .eql (t 14) (i 1))]) (.cond (t 15) (.seq (.reg [m 16 0, m 17 3, pE 18 (.idxA 19 (t 16) (t 17)), pE 19 (.fldA 4 (t 18)), oS 20 (.load 1 false (t 19)), m 2 20]) .ret) .skip))) (.reg [m 8 3, pE 9 (.bin .int .add (t 8) (i 1)), m 3 9])))
def b20 : SCode := (.seq (.reg [pE 2 (.mov (.lit (.str [])))]) (.seq (.seq (.reg [pE 3 (.mov (i 0))]) (.block 0 (.loop l20_0))) (.seq (.reg [pE 2 (.mov (.lit (.str [])))]) .ret)))
theorem r20 : resFunc Tryz.prog Tryz.f20 = some ⟨21, [(.tmp 2)], b20.strip⟩ := by kernel_rfl
def l48_0 : SCode := (.seq (.seq (.reg [m 21 8, pE 22 (.fldA 5 (t 3)), oS 23 (.load 1 false (t 22)), pE 24 (.lenL (t 23)), pE 25 (.bin .int .lss (t 21) (t 24))]) (.cond (t 25) .skip (.exit 0))) (.seq (.block 1 (.reg [m 28 7, pE 29 (.fldA 5 (t 3)), oS 30 (.load 1 false (t 29)), m 31 8, pE 32 (.idxA 6 (t 30) (t 31)), oS 33 (.load 6 true (t 32)), m 34 1, m 35 2, oS 36 (.call 48 [(t 33), (t 34), (t 35)]), pE 37 (.lits 6 [(t 36)]), oS 38 (.append false 31 6 72 (t 28) (t 37) 10), m 7 38])) (.reg [m 26 8, pE 27 (.bin .int .add (t 26) (i 1)), m 8 27])))
def b48 : SCode := (.seq (.reg [oS 3 (.box 31 (t 0) 0), oS 6 (.alloc 31 (.agg [(.int .i64 0), (.int .i64 0), (.int .i64 0), (.str []), (.int .i32 0), (.sl [] 0 .full)]) 1)]) (.seq (.seq (.reg [pE 9 (.fldA 0 (t 3)), oS 10 (.load 1 false (t 9)), pE 11 (.bin .int .eql (t 10) (i 2)), m 12 11, pG 13 12 true (.fldA 3 (t 3)), oG 14 12 true (.load 1 false (t 13)), pG 15 12 true (.mov (t 1)), pG 16 12 true (.bin .str .eql (t 14) (t 15)), pE 17 (.pick (t 12) (t 16) (.lit (.bool false)))]) (.cond (t 17) (.reg [m 18 2, pE 19 (.fldA 3 (t 3)), ⟨none, none, (.store 1 (t 19) (t 18))⟩]) .skip)) (.seq (.reg [pE 20 (.lits 6 []), m 7 20]) (.seq (.seq (.reg [pE 8 (.mov (i 0))]) (.block 0 (.loop l48_0))) (.seq (.frz [3] (.reg [m 39 7, pE 40 (.fldA 5 (t 3)), ⟨none, none, (.store 1 (t 40) (t 39))⟩])) (.seq (.reg [oS 41 (.load 6 true (t 3)), ⟨none, none, (.store 6 (t 6) (t 41))⟩]) .ret))))))
theorem r48 : resFunc Tryz.prog Tryz.f48 = some ⟨42, [(.cell 6 6 true)], b48.strip⟩ := by kernel_rfl
def l21_0 : SCode := (.seq (.seq (.reg [m 11 8, m 12 0, pE 13 (.lenL (t 12)), pE 14 (.bin .int .lss (t 11) (t 13))]) (.cond (t 14) .skip (.exit 0))) (.seq (.block 1 (.seq (.reg [m 17 0, m 18 8, pE 19 (.idxA 19 (t 17) (t 18)), oS 20 (.load 19 true (t 19)), oS 9 (.alloc 54 (.agg [(.int .i64 0), (.int .i64 0), (.int .i64 0), (.int .i64 0), (.str []), (.int .i64 0), (.int .i64 0), (.int .i64 0), (.str []), (.int .i32 0), (.sl [] 0 .full), (.int .i64 0), (.int .i64 0), (.int .i64 0), (.str []), (.int .i32 0), (.sl [] 0 .full), (.sl [] 0 .full), (.sl [] 0 .full)]) 4), ⟨none, none, (.store 19 (t 9) (t 20))⟩]) (.seq (.seq (.reg [pE 21 (.fldA 4 (t 9)), oS 22 (.load 1 false (t 21)), m 23 1, pE 24 (.bin .str .eql (t 22) (t 23)), m 25 24, pG 26 25 true (.fldA 0 (t 9)), oG 27 25 true (.load 1 false (t 26)), pG 28 25 true (.bin .int .eql (t 27) (i 1)), pG 29 25 true (.mov (t 28)), pG 30 29 false (.fldA 0 (t 9)), oG 31 29 false (.load 1 false (t 30)), pG 32 29 false (.bin .int .eql (t 31) (i 2)), pG 33 25 true (.pick (t 29) (.lit (.bool true)) (t 32)), pG 34 25 true (.mov (t 33)), pG 35 34 false (.fldA 0 (t 9)), oG 36 34 false (.load 1 false (t 35)), pG 37 34 false (.bin .int .eql (t 36) (i 12)), pG 38 25 true (.pick (t 34) (.lit (.bool true)) (t 37)), pE 39 (.pick (t 25) (t 38) (.lit (.bool false)))]) (.cond (t 39) (.reg [m 40 2, pE 41 (.fldA 4 (t 9)), ⟨none, none, (.store 1 (t 41) (t 40))⟩]) .skip)) (.seq (.draw [0, 1, 0, 0, 15, 0, 32, 0, 0, 511, 127, 2047, 4095, 8191] [0, 1, 2, 3, 4, 5, 6, 7, 8, 9, 10, 11, 12, 13] [pE 42 (.fldA 5 (t 9)), oS 43 (.load 6 true (t 42)), m 44 1, m 45 2, oS 46 (.call 48 [(t 43), (t 44), (t 45)]), pE 47 (.fldA 11 (t 9)), oS 48 (.load 6 true (t 47)), m 49 1, m 50 2, oS 51 (.call 48 [(t 48), (t 49), (t 50)]), pE 52 (.fldA 5 (t 9)), ⟨none, none, (.store 6 (t 52) (t 46))⟩, pE 53 (.fldA 11 (t 9)), ⟨none, none, (.store 6 (t 53) (t 51))⟩]) (.seq (.frz [9] (.draw [0, 1, 0, 0, 15, 0, 32, 0, 0, 511, 127, 2047, 4095, 8191] [0, 1, 2, 3, 4, 5, 6, 7, 8, 9, 10, 11, 12, 13] [pE 54 (.fldA 17 (t 9)), oS 55 (.load 1 false (t 54)), m 56 1, m 57 2, oS 58 (.call 21 [(t 55), (t 56), (t 57)]), pE 59 (.fldA 18 (t 9)), oS 60 (.load 1 false (t 59)), m 61 1, m 62 2, oS 63 (.call 21 [(t 60), (t 61), (t 62)]), pE 64 (.fldA 17 (t 9)), ⟨none, none, (.store 1 (t 64) (t 58))⟩, pE 65 (.fldA 18 (t 9)), ⟨none, none, (.store 1 (t 65) (t 63))⟩])) (.reg [m 66 7, oS 67 (.load 19 true (t 9)), pE 68 (.lits 19 [(t 67)]), oS 69 (.append false 54 19 240 (t 66) (t 68) 3), m 7 69])))))) (.reg [m 15 8, pE 16 (.bin .int .add (t 15) (i 1)), m 8 16])))
def b21 : SCode := (.seq (.reg [pE 6 (.mov (.lit (.sl [] 0 .full)))]) (.seq (.reg [pE 10 (.lits 19 []), m 7 10]) (.seq (.seq (.reg [pE 8 (.mov (i 0))]) (.block 0 (.loop l21_0))) (.seq (.reg [m 70 7, m 6 70]) .ret))))
theorem r21 : resFunc Tryz.prog Tryz.f21 = some ⟨71, [(.tmp 6)], b21.strip⟩ := by kernel_rfl
def b5 : SCode := (.seq (.frz [1] (.reg [oS 1 (.box 24 (t 0) 0), pE 2 (.mov (.lit (.bool false)))])) (.seq (.reg [oS 8 (.call 11 []), m 3 8]) (.seq (.seq (.reg [m 9 3, pE 10 (.un .not (t 9))]) (.cond (t 10) (.seq (.reg [pE 2 (.mov (.lit (.bool false)))]) .ret) .skip)) (.seq (.frz [4] (.reg [oS 11 (.load 1 true (t 1)), oS 12 (.call 12 [(t 11)]), oS 4 (.alloc 38 (.agg [(.str []), (.int .i64 0), (.int .i64 0), (.sl [] 0 .full), (.sl [] 0 .full), (.sl [] 0 .full), (.sl [] 0 .full)]) 2), ⟨none, none, (.store 7 (t 4) (t 12))⟩])) (.seq (.reg [pE 13 (.fldA 6 (t 4)), oS 14 (.load 1 false (t 13)), oS 15 (.call 20 [(t 14)]), m 5 15]) (.seq (.seq (.reg [m 16 5, pE 17 (.bin .str .eql (t 16) (.lit (.str [])))]) (.cond (t 17) (.seq (.reg [m 18 3, m 2 18]) .ret) .skip)) (.seq (.draw [0, 0, 0, 0, 13, 31] [0, 1, 2, 3, 4, 5] [oS 19 (.load 7 true (t 4)), oS 20 (.load 7 true (t 4)), oS 6 (.alloc 38 (.agg [(.str []), (.int .i64 0), (.int .i64 0), (.sl [] 0 .full), (.sl [] 0 .full), (.sl [] 0 .full), (.sl [] 0 .full)]) 2), oS 7 (.alloc 38 (.agg [(.str []), (.int .i64 0), (.int .i64 0), (.sl [] 0 .full), (.sl [] 0 .full), (.sl [] 0 .full), (.sl [] 0 .full)]) 3), ⟨none, none, (.store 7 (t 6) (t 19))⟩, ⟨none, none, (.store 7 (t 7) (t 20))⟩]) (.seq (.frz [6] (.reg [pE 21 (.fldA 6 (t 4)), oS 22 (.load 1 false (t 21)), m 23 5, oS 24 (.call 21 [(t 22), (t 23), (.lit (.str [113, 113, 57]))]), pE 25 (.fldA 6 (t 6)), ⟨none, none, (.store 1 (t 25) (t 24))⟩])) (.seq (.seq (.reg [pE 26 (.fldA 3 (t 4)), oS 27 (.load 1 false (t 26)), pE 28 (.lenL (t 27)), pE 29 (.bin .int .gtr (t 28) (i 0))]) (.cond (t 29) (.seq (.frz [7] (.draw [0, 1, 0, 0, 8, 24, 56, 120, 255, 511, 1023] [0, 1, 2, 3, 4, 5, 6, 7, 8, 9, 10] [pE 30 (.fldA 6 (t 4)), oS 31 (.load 1 false (t 30)), m 32 5, pE 33 (.fldA 3 (t 4)), oS 34 (.load 1 false (t 33)), pE 35 (.idxA 4 (t 34) (i 0)), pE 36 (.fldA 0 (t 35)), oS 37 (.load 1 false (t 36)), oS 38 (.call 21 [(t 31), (t 32), (t 37)]), pE 39 (.fldA 6 (t 7)), ⟨none, none, (.store 1 (t 39) (t 38))⟩])) (.seq (.reg [oS 40 (.load 7 true (t 7)), oS 41 (.call 14 [(t 40)]), pE 42 (.bin .int .neq (t 41) (i 30))]) (.cond (t 42) (.seq (.reg [pE 2 (.mov (.lit (.bool false)))]) .ret) .skip))) .skip)) (.seq (.reg [oS 43 (.load 7 true (t 6)), oS 44 (.call 14 [(t 43)]), pE 45 (.bin .int .eql (t 44) (i 0)), m 46 45, pG 47 46 true (.mov (t 3)), pE 48 (.pick (t 46) (t 47) (.lit (.bool false))), m 2 48]) .ret))))))))))
theorem r5 : resFunc Tryz.prog Tryz.f5 = some ⟨49, [(.tmp 2)], b5.strip⟩ := by kernel_rfl
end
section
variable {w0 : World} {base : Nat}
theorem cellsL_append (m : List Sm) : ∀ l : List Sm, Sm.cellsL (l ++ m) = Sm.cellsL l ++ Sm.cellsL m
 | [] => by simp [Sm.cellsL]
 | s :: l => by simp [Sm.cellsL, cellsL_append m l]
theorem len_nodes : ∀ l : List Sm, l.length ≤ nodesSL l
 | [] => Nat.le_refl _
 | .mk _ _ _ _ _ _ _ _ _ :: l => by have := len_nodes l; simp only [List.length_cons, nodesSL, nodesS]; omega
theorem body_few (bs : List UInt8) : (madeM bs).body.length ≤ 900 := by
 obtain ⟨sc', g, _⟩ := (ul bs).body
 have h1 := g.co.nodes
 have h2 := len_nodes (madeM bs).body
 omega
end
section
theorem nodesSL_append (m : List Sm) : ∀ l : List Sm, nodesSL (l ++ m) = nodesSL l + nodesSL m
 | [] => by simp [nodesSL]
 | s :: l => by simp [nodesSL, nodesSL_append m l, Nat.add_assoc]
theorem wSL_append (m : List Sm) (d : Nat) : ∀ l : List Sm, wSL (l ++ m) d = wSL l d + wSL m d
 | [] => by simp [wSL]
 | s :: l => by simp [wSL, wSL_append m d l, Nat.add_assoc]
theorem listT_pre {k : Ke} {inF : Bool} {lp : Int} (m : List Sm) : ∀ (l : List Sm) (sc : Scope), (listT k inF (l ++ m) lp sc).2 = 0 → (listT k inF l lp sc).2 = 0
 | [], sc, h => rfl
 | s :: l, sc, h => by
  simp only [listT, List.cons_append] at h ⊢
  split at h
  ·rename_i h1; exact absurd h h1
  ·rename_i h1; simp only [if_neg h1]; exact listT_pre m l _ h
theorem GL.pre {k : Ke} {sc sc' : Scope} {inF : Bool} {lp u : Int} {h : Nat} {l m : List Sm} (a : GL k sc sc' inF lp u h (l ++ m)) : GL k sc (listT k inF l lp sc).1 inF lp u h l := by
 have ht : (listT k inF l lp sc).2 = 0 := listT_pre m l sc (by rw [a.typ])
 refine ⟨Prod.ext rfl ht, fun ind => ?_, fun hf => ?_, fun n hn => a.decl n (by rw [declsL_append]; exact List.mem_append_left _ hn), ?_, ?_, ?_, ?_⟩
 ·have := a.good ind
  rw [bodyP_bad] at *
  simp only [List.any_append, Bool.or_eq_false_iff] at this
  exact this.1
 ·have := a.pure hf
  rw [anyImpure_any] at *
  simp only [List.any_append, Bool.or_eq_false_iff] at this
  exact this.1
 ·exact (Sm.okL_iff _).2 fun s hs => (Sm.okL_iff _).1 a.co.ok s (List.mem_append_left _ hs)
 ·intro d h0 h1
  have := a.co.over d h0 h1
  rw [overSL_iff] at *
  simp only [List.any_append, Bool.or_eq_false_iff] at this
  exact this.1
 ·have := a.co.nodes; rw [nodesSL_append] at this; omega
 ·intro d hd; have := a.co.w d hd; rw [wSL_append] at this; omega
section
variable {bs : List UInt8}
structure Like (bs : List UInt8) (k : Ke) : Prop where
 name : k.name = [107]
 group : k.group = gM bs
 sub : k.sub = sM bs
 arrays : k.arrays = arrsM
 params : k.params = parsM
 funcs : k.funcs = (headM bs (qM bs)).1
theorem Like.made {k : Ke} (h : Like bs k) : MadeOk bs k := made_ok h.arrays h.params h.funcs
theorem Like.ok {k : Ke} (h : Like bs k) {u : Int} {d : Nat} (hc : CoL u d k.body) : k.ok := made_okK h.made h.group h.sub h.arrays hc.ok
theorem Like.len {k : Ke} (h : Like bs k) {u : Int} {d : Nat} (hc : CoL u d k.body) (hu : u ≤ 100000) (hd : d ≤ 10) : (kernelP k).1.length ≤ 140737488355328 := by
 have h1 := hc.w 2 (by omega)
 have := kern_len (h.ok hc) (by rw [h.name]; decide) h.arrays h.params (funs_len h.made) (Nat.le_refl _)
 omega
theorem Like.valid {k : Ke} (h : Like bs k) {sc sc' : Scope} {u : Int} {d : Nat} (g : GL k sc sc' false 0 u d k.body) (hu : u ≤ 20) (hd : d ≤ 10) : validP k = true := by
 have hm := h.made
 have h1 : overK k = false := by
  have h2 := hm.few
  have h3 := g.co.over 1 (by omega) (by omega)
  have h4 : k.funcs.any overF = false := List.any_eq_false.2 fun f hf => by simp [(hm.each f hf).over]
  have h5 : decide (8 < k.arrays.length) = false := by rw [h.arrays]; rfl
  have h6 : decide (8 < k.params.length) = false := by rw [h.params]; rfl
  have h7 : decide (8 < k.funcs.length) = false := by simp; omega
  simp [overK, h3, h4, h5, h6, h7]
 have h2 : wn (nodesK k) ≤ 2000 := by
  have h3 := g.co.nodes
  have h4 := funs_nodes hm
  have : nodesK k ≤ 1500 := by unfold nodesK; omega
  rw [wn, yy (by omega) (by omega)]; omega
 have h3 : (kernelP k).2 = false := by
  have h4 : (bodyP [32, 32] k.body).2 = false := g.good _
  have h5 : ((k.funcs.flatMap funPs).any (·.2)) = false := by
   rw [List.any_flatMap, List.any_eq_false]
   intro f hf
   simp [funPs, (hm.each f hf).pure, (hm.each f hf).good]
  have h6 : (k.arrays.flatMap arrPs).any (·.2) = false := by
   rw [h.arrays]
   decide +kernel
  have h7 : (k.params.flatMap parPs).any (·.2) = false := by
   rw [h.params]
   decide +kernel
  have h8 : isNameP k.name = true := by
   rw [h.name]
   decide +kernel
  simp only [kernelP, xm, textPs, List.any_cons, List.any_append, h5, h6, h7, h8, endPs]
  simp [blockP, cat, h4]
 simp [validP, withinP, h1, h2, h3]
theorem Like.numbers {k : Ke} (h : Like bs k) : numbersP k = true := by
 have h1 : k.arrays.all lenP = true := by
  rw [h.arrays]
  decide +kernel
 simp only [numbersP, h1, Bool.and_true, h.group, h.sub]
 exact num_ok bs
theorem like_body (bs : List UInt8) (l : List Sm) : Like bs { madeM bs with body := l } := ⟨rfl, rfl, rfl, rfl, rfl, rfl⟩
def firstP : List Sm → Str
 | [] => []
 | s :: l => if s.kind = 1 then s.name else firstP l
theorem stmt_scope {k : Ke} {inF : Bool} {lp : Int} : ∀ (s : Sm) (sc : Scope), s.kind ≠ 1 → (stmtT k inF s lp sc).1 = sc
 | .mk kd op ty bd nm x y body els, sc, h => by
  have h1 : ¬ kd = 1 := h
  unfold stmtT
  simp only [if_neg h1]
  repeat' split
  all_goals rfl
theorem stmt_keeps {k : Ke} {inF : Bool} {lp : Int} {n : Str} : ∀ (s : Sm) (sc : Scope), sc.lookup n ≠ none → (stmtT k inF s lp sc).1.lookup n ≠ none
 | .mk kd op ty bd nm x y body els, sc, h => by
  by_cases h1 : kd = 1
  ·subst h1
   simp only [stmtT, varT, declP]
   repeat' split
   all_goals (try exact h)
   all_goals
    rcases hs : sc.lookup n with _ | t
    ·exact absurd hs h
    ·simp [List.lookup_append, hs]
  ·rw [stmt_scope (.mk kd op ty bd nm x y body els) sc h1]; exact h
theorem list_keeps {k : Ke} {inF : Bool} {lp : Int} {n : Str} : ∀ (l : List Sm) (sc : Scope), sc.lookup n ≠ none → (listT k inF l lp sc).1.lookup n ≠ none
 | [], sc, h => h
 | s :: l, sc, h => by
  simp only [listT]
  split
  ·exact stmt_keeps s sc h
  ·exact list_keeps l _ (stmt_keeps s sc h)
theorem var_ok {k : Ke} {sc : Scope} {ty : Int} {nm : Str} {x : Ex} (h : (varT k sc ty nm x).2 = 0) : sc.lookup nm = none ∧ (varT k sc ty nm x).1.lookup nm ≠ none := by
 by_cases h3 : (exprT k sc x).2 = 0
 ·rcases hs : sc.lookup nm with _ | t
  ·refine ⟨rfl, ?_⟩
   have : varT k sc ty nm x = (sc ++ [(nm, ⟨3, ty, 0⟩)], if (exprT k sc x).1 ≠ ty then 31 else 0) := by simp [varT, declP, h3, hs]
   rw [this]
   simp only
   rw [wt hs]
   simp
  ·have : varT k sc ty nm x = (sc, 30) := by simp [varT, declP, h3, hs]
   rw [this] at h; simp at h
 ·have : varT k sc ty nm x = (sc, (exprT k sc x).2) := by simp [varT, h3]
  rw [this] at h; exact absurd h h3
theorem firstP_some {k : Ke} {inF : Bool} {lp : Int} (hF : inF = false) : ∀ (l : List Sm) (sc : Scope), firstP l ≠ [] → (listT k inF l lp sc).2 = 0 → sc.lookup (firstP l) = none ∧ (listT k inF l lp sc).1.lookup (firstP l) ≠ none
 | [], sc, h, _ => absurd rfl h
 | s :: l, sc, h, ht => by
  simp only [firstP] at h ⊢
  simp only [listT] at ht ⊢
  split at ht
  ·rename_i h1; exact absurd ht h1
  ·rename_i h1
   rw [if_neg h1]
   split
   ·rename_i h2
    obtain ⟨kd, op, ty, bd, nm, x, y, body, els⟩ := s
    simp only [Sm.kind] at h2
    subst h2 hF
    simp only [Sm.name]
    have hv : stmtT k false (.mk 1 op ty bd nm x y body els) lp sc = varT k sc ty nm x := by simp [stmtT]
    rw [hv] at h1 ⊢
    obtain ⟨h3, h4⟩ := var_ok (Decidable.of_not_not h1)
    exact ⟨h3, list_keeps l _ h4⟩
   ·rename_i h2
    rw [if_neg h2] at h
    have h4 := firstP_some hF l _ h ht
    rw [stmt_scope s sc h2] at h4 ⊢
    exact h4
end
end
section
variable {w0 : World} {base : Nat}
theorem firstP_drop (l : List Sm) (j : Nat) (s : Sm) (h : l[j]? = some s) : firstP (l.drop j) = if s.kind = 1 then s.name else firstP (l.drop (j + 1)) := by
 obtain ⟨hlt, e⟩ := List.getElem?_eq_some_iff.1 h
 rw [List.drop_eq_getElem_cons hlt, e]
 rfl
theorem d20 (st : St) (l : List Sm) : Det Tryz.prog w0 base 20 [.sl (Sm.cellsL l) l.length .no] st (.str (firstP l)) st := by
 refine zh (zp Tryz.func20 r20) fun hwf hfit => z6 Tryz.func20 r20 rfl ?_
 have hlen : l.length ≤ big := hfit.1.1
 unfold big at hlen
 clear hfit
 have hrow := fun j x => @yg _ Sm.cells 19 Sm.cells_len l j x
 have hle := fun j x => @ye _ Sm.cells 19 Sm.cells_len l j x
 rw [← Sm.cellsL_row] at hrow hle
 unfold b20
 simp -dsimp -implicitDefEqProofs
 refine loop_by (fun k e z => ∃ j, j + k = l.length ∧ e 3 = vi j ∧ (∀ p, p < st.next → z.objs p = st.objs p) ∧ z.wf ∧ st.next ≤ z.next ∧ firstP l = firstP (l.drop j)) l.length ⟨0, by omega, by simp, fun _ _ => by simp, zk hwf, by simp, rfl⟩ (by decide) ?_
 rintro k e z hfr ⟨j, hjk, e3, hold', hzw, hzn, hj⟩
 have e0 : e 0 = .sl (Sm.cellsL l) l.length .no := by rw [hfr 0 rfl]; simp
 unfold l20_0
 simp -dsimp -implicitDefEqProofs [e0, e3]
 refine Br_iff (fun hb => ?_) (fun hb => ?_)
 ·have hjl : j < l.length := by simpa using hb
  obtain ⟨s, hs⟩ : ∃ s, l[j]? = some s := ⟨_, List.getElem?_eq_getElem hjl⟩
  have h1 := hrow j s hs
  have h2 := hle j s hs
  have hf := firstP_drop l j s hs
  have hwj : IntKind.i64.wrap ((j : Int) + 1) = (j : Int) + 1 := yy (by omega) (by omega)
  have c1 : (Sm.cellsL l)[j * 19]? = some (vi s.kind) := by
   have := congrArg (fun x => x[0]?) h1
   simp only [List.getElem?_take, List.getElem?_drop] at this
   obtain ⟨kd, op, ty, bd, nm, x, y, body, els⟩ := s
   simpa [Sm.cells, Sm.kind] using this
  have c2 : (Sm.cellsL l)[j * 19 + 4]? = some (.str s.name) := by
   have := congrArg (fun x => x[4]?) h1
   simp only [List.getElem?_take, List.getElem?_drop] at this
   obtain ⟨kd, op, ty, bd, nm, x, y, body, els⟩ := s
   simpa [Sm.cells, Sm.name] using this
  simp -dsimp -implicitDefEqProofs [e0, e3, hjl, h2, c1, c2, loadA]
  refine Br_iff (fun hb => ?_) (fun hb => ?_)
  ·have hk : s.kind = 1 := by simpa using hb
   simp -dsimp -implicitDefEqProofs [e0, e3, hjl, h2, c1, c2, loadA]
   rw [hj, hf, if_pos hk]
   refine zg hwf (fun p hp => ?_) (by simp [eraseA])
   simp [hold' p hp]
  ·have hk : ¬ s.kind = 1 := by simpa using hb
   rw [if_neg hk] at hf
   simp -dsimp -implicitDefEqProofs [e0, e3, hjl, hwj]
   refine hold ⟨k - 1, by omega, j + 1, by omega, by simp, fun p hp => by simp [hold' p hp], zk (zk hzw), by simp; omega, by rw [hj, hf]⟩
 ·have hjl : ¬ j < l.length := by simpa using hb
  have : l.drop j = [] := List.drop_eq_nil_of_le (by omega)
  rw [this] at hj
  simp -dsimp -implicitDefEqProofs [e0, e3]
  rw [hj]
  refine zg hwf (fun p hp => ?_) (by simp [eraseA, firstP])
  simp [hold' p hp]
end
end Go.Proofs.YthaekebedmoipaaGreatDoor.AM
