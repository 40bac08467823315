/- Part 7 of the proof: F16 F17 A32 F18 F19 F20 F21 F22 F23 G1 P4 G2 G3 G4 G5 G6 G7. -/
import Derived.Test.YthaekebedmoipaaGreatDoorJ6
import Derived.Test.YthaekebedmoipaaGreatDoorJ3
import Derived.Test.YthaekebedmoipaaGreatDoorJ4
import Derived.Shelf.SlMaps.Clone
set_option linter.unusedVariables false
set_option linter.unusedSimpArgs false
set_option linter.unusedSectionVars false
set_option maxRecDepth 100000
namespace Go.Proofs.YthaekebedmoipaaGreatDoor.AM
open Go Go.RowKit
section
variable {w0 : World} {base : Nat}
theorem wr_st1 (hT : Tabs w0 base) (o : Nat) (op t b : Int) (n : Str) (x y : Ex) (body els : List Sm) (ind : Str) (bo eo : Str × Bool) (hx : x.ok) (hy : y.ok) :
  Wr w0 base 195 o [.agg (Sm.mk 1 op t b n x y body els).cells, .str ind] (cats [([], spareP (Sm.mk 1 op t b n x y body els) false true false true true false false false), ([118, 97, 114, 32], false), paramP n t, ([32, 61, 32], false), exprP x]) := by
 have wx := xq hT o x hx
 have wy := xq hT o y hy
 have wi := wh o x _ wx
 refine yx _ rfl fun st tk goal hn0 hn p0 => za Tryz.func195 r195 rfl ?_
 have hs := wr_spare_SVar (w0 := w0) (base := base) o (Sm.mk 1 op t b n x y body els)
 have bb := Sm.bare_cellsL body
 have be := Sm.bare_cellsL els
 obtain ⟨xk, xo, xt, xn, xv, xa⟩ := x
 obtain ⟨yk, yo, yt, yn, yv, ya⟩ := y
 have ba := Ex.bare_cellsL xa
 have bya := Ex.bare_cellsL ya
 simp only [Sm.cells, Ex.cells, Ex.cellsL, List.cons_append, List.nil_append, List.append_nil] at *
 generalize Ex.cellsL xa = ca at *
 generalize Ex.cellsL ya = cb at *
 generalize Sm.cellsL body = cc at *
 generalize Sm.cellsL els = cd at *
 unfold b195
 simp -dsimp -implicitDefEqProofs [hn0, hn, zz]
 refine zq (hs) (by simp [AV.bareL, AV.bare, ba, bya, bb, be]) (zr p0 _) fun s1 f1 g1 p1 => ?_
 simp -dsimp -implicitDefEqProofs [f1, g1, zz]
 refine zq (yp o [[118, 97, 114, 32]] (by simp)) (by simp [AV.bareL, AV.bare, strs, ba, bya, bb, be]) (zr p1 _) fun s2 f2 g2 p2 => ?_
 simp -dsimp -implicitDefEqProofs [f2, g2, zz]
 refine zq (wr_param o n t) (by simp [AV.bareL, AV.bare, ba, bya, bb, be]) (zr p2 _) fun s3 f3 g3 p3 => ?_
 simp -dsimp -implicitDefEqProofs [f3, g3, zz]
 refine zq (yp o [[32, 61, 32]] (by simp)) (by simp [AV.bareL, AV.bare, strs, ba, bya, bb, be]) (zr p3 _) fun s4 f4 g4 p4 => ?_
 simp -dsimp -implicitDefEqProofs [f4, g4, zz]
 refine zq (wx) (by simp [AV.bareL, AV.bare, ba, bya, bb, be]) (zr p4 _) fun s5 f5 g5 p5 => ?_
 simp -dsimp -implicitDefEqProofs [f5, g5, zz]
 exact xz p5
theorem wr_st2 (hT : Tabs w0 base) (o : Nat) (op t b : Int) (n : Str) (x y : Ex) (body els : List Sm) (ind : Str) (bo eo : Str × Bool) (hx : x.ok) (hy : y.ok) :
  Wr w0 base 195 o [.agg (Sm.mk 2 op t b n x y body els).cells, .str ind] (cats [([], spareP (Sm.mk 2 op t b n x y body els) false false false true true false false false), (n, !isNameP n), ([32, 61, 32], false), exprP x]) := by
 have wx := xq hT o x hx
 have wy := xq hT o y hy
 have wi := wh o x _ wx
 refine yx _ rfl fun st tk goal hn0 hn p0 => za Tryz.func195 r195 rfl ?_
 have hs := wr_spare_SSet (w0 := w0) (base := base) o (Sm.mk 2 op t b n x y body els)
 have bb := Sm.bare_cellsL body
 have be := Sm.bare_cellsL els
 obtain ⟨xk, xo, xt, xn, xv, xa⟩ := x
 obtain ⟨yk, yo, yt, yn, yv, ya⟩ := y
 have ba := Ex.bare_cellsL xa
 have bya := Ex.bare_cellsL ya
 simp only [Sm.cells, Ex.cells, Ex.cellsL, List.cons_append, List.nil_append, List.append_nil] at *
 generalize Ex.cellsL xa = ca at *
 generalize Ex.cellsL ya = cb at *
 generalize Sm.cellsL body = cc at *
 generalize Sm.cellsL els = cd at *
 unfold b195
 simp -dsimp -implicitDefEqProofs [hn0, hn, zz]
 refine zq (hs) (by simp [AV.bareL, AV.bare, ba, bya, bb, be]) (zr p0 _) fun s1 f1 g1 p1 => ?_
 simp -dsimp -implicitDefEqProofs [f1, g1, zz]
 refine zq (uv o n) (by simp [AV.bareL, AV.bare, ba, bya, bb, be]) (zr p1 _) fun s2 f2 g2 p2 => ?_
 simp -dsimp -implicitDefEqProofs [f2, g2, zz]
 refine zq (yp o [[32, 61, 32]] (by simp)) (by simp [AV.bareL, AV.bare, strs, ba, bya, bb, be]) (zr p2 _) fun s3 f3 g3 p3 => ?_
 simp -dsimp -implicitDefEqProofs [f3, g3, zz]
 refine zq (wx) (by simp [AV.bareL, AV.bare, ba, bya, bb, be]) (zr p3 _) fun s4 f4 g4 p4 => ?_
 simp -dsimp -implicitDefEqProofs [f4, g4, zz]
 exact xz p4
theorem wr_st3 (hT : Tabs w0 base) (o : Nat) (op t b : Int) (n : Str) (x y : Ex) (body els : List Sm) (ind : Str) (bo eo : Str × Bool) (hx : x.ok) (hy : y.ok) :
  Wr w0 base 195 o [.agg (Sm.mk 3 op t b n x y body els).cells, .str ind] (cats [([], spareP (Sm.mk 3 op t b n x y body els) false false false true true true false false), (n, !isNameP n), indexP' (exprP x), ([32, 61, 32], false), exprP y]) := by
 have wx := xq hT o x hx
 have wy := xq hT o y hy
 have wi := wh o x _ wx
 refine yx _ rfl fun st tk goal hn0 hn p0 => za Tryz.func195 r195 rfl ?_
 have hs := wr_spare_SStore (w0 := w0) (base := base) o (Sm.mk 3 op t b n x y body els)
 have bb := Sm.bare_cellsL body
 have be := Sm.bare_cellsL els
 obtain ⟨xk, xo, xt, xn, xv, xa⟩ := x
 obtain ⟨yk, yo, yt, yn, yv, ya⟩ := y
 have ba := Ex.bare_cellsL xa
 have bya := Ex.bare_cellsL ya
 simp only [Sm.cells, Ex.cells, Ex.cellsL, List.cons_append, List.nil_append, List.append_nil] at *
 generalize Ex.cellsL xa = ca at *
 generalize Ex.cellsL ya = cb at *
 generalize Sm.cellsL body = cc at *
 generalize Sm.cellsL els = cd at *
 unfold b195
 simp -dsimp -implicitDefEqProofs [hn0, hn, zz]
 refine zq (hs) (by simp [AV.bareL, AV.bare, ba, bya, bb, be]) (zr p0 _) fun s1 f1 g1 p1 => ?_
 simp -dsimp -implicitDefEqProofs [f1, g1, zz]
 refine zq (uv o n) (by simp [AV.bareL, AV.bare, ba, bya, bb, be]) (zr p1 _) fun s2 f2 g2 p2 => ?_
 simp -dsimp -implicitDefEqProofs [f2, g2, zz]
 refine zq (wi) (by simp [AV.bareL, AV.bare, ba, bya, bb, be]) (zr p2 _) fun s3 f3 g3 p3 => ?_
 simp -dsimp -implicitDefEqProofs [f3, g3, zz]
 refine zq (yp o [[32, 61, 32]] (by simp)) (by simp [AV.bareL, AV.bare, strs, ba, bya, bb, be]) (zr p3 _) fun s4 f4 g4 p4 => ?_
 simp -dsimp -implicitDefEqProofs [f4, g4, zz]
 refine zq (wy) (by simp [AV.bareL, AV.bare, ba, bya, bb, be]) (zr p4 _) fun s5 f5 g5 p5 => ?_
 simp -dsimp -implicitDefEqProofs [f5, g5, zz]
 exact xz p5
theorem wr_st5a (hT : Tabs w0 base) (o : Nat) (op t b : Int) (n : Str) (x y : Ex) (body els : List Sm) (ind : Str) (bo eo : Str × Bool) (hx : x.ok) (hy : y.ok) (hb : Wr w0 base 130 o [.sl (Sm.cellsL body) body.length .no, .str ind] bo) (he : Wr w0 base 130 o [.sl (Sm.cellsL els) els.length .no, .str ind] eo) (hl : 0 < els.length) :
  Wr w0 base 195 o [.agg (Sm.mk 5 op t b n x y body els).cells, .str ind] (cats [([], spareP (Sm.mk 5 op t b n x y body els) false false false false true false true true), ([105, 102, 32], false), exprP x, ([32], false), bo, ([32, 101, 108, 115, 101, 32], false), eo]) := by
 have wx := xq hT o x hx
 have wy := xq hT o y hy
 have wi := wh o x _ wx
 refine yx _ rfl fun st tk goal hn0 hn p0 => za Tryz.func195 r195 rfl ?_
 have hs := wr_spare_SIf (w0 := w0) (base := base) o (Sm.mk 5 op t b n x y body els)
 have bb := Sm.bare_cellsL body
 have be := Sm.bare_cellsL els
 obtain ⟨xk, xo, xt, xn, xv, xa⟩ := x
 obtain ⟨yk, yo, yt, yn, yv, ya⟩ := y
 have ba := Ex.bare_cellsL xa
 have bya := Ex.bare_cellsL ya
 simp only [Sm.cells, Ex.cells, Ex.cellsL, List.cons_append, List.nil_append, List.append_nil] at *
 generalize Ex.cellsL xa = ca at *
 generalize Ex.cellsL ya = cb at *
 generalize Sm.cellsL body = cc at *
 generalize Sm.cellsL els = cd at *
 unfold b195
 simp -dsimp -implicitDefEqProofs [hn0, hn, zz, hl]
 refine zq (hs) (by simp [AV.bareL, AV.bare, ba, bya, bb, be]) (zr p0 _) fun s1 f1 g1 p1 => ?_
 simp -dsimp -implicitDefEqProofs [f1, g1, zz, hl]
 refine zq (yp o [[105, 102, 32]] (by simp)) (by simp [AV.bareL, AV.bare, strs, ba, bya, bb, be]) (zr p1 _) fun s2 f2 g2 p2 => ?_
 simp -dsimp -implicitDefEqProofs [f2, g2, zz, hl]
 refine zq (wx) (by simp [AV.bareL, AV.bare, ba, bya, bb, be]) (zr p2 _) fun s3 f3 g3 p3 => ?_
 simp -dsimp -implicitDefEqProofs [f3, g3, zz, hl]
 refine zq (yp o [[32]] (by simp)) (by simp [AV.bareL, AV.bare, strs, ba, bya, bb, be]) (zr p3 _) fun s4 f4 g4 p4 => ?_
 simp -dsimp -implicitDefEqProofs [f4, g4, zz, hl]
 refine zq (hb) (by simp [AV.bareL, AV.bare, ba, bya, bb, be]) (zr p4 _) fun s5 f5 g5 p5 => ?_
 simp -dsimp -implicitDefEqProofs [f5, g5, zz, hl]
 refine zq (yp o [[32, 101, 108, 115, 101, 32]] (by simp)) (by simp [AV.bareL, AV.bare, strs, ba, bya, bb, be]) (zr p5 _) fun s6 f6 g6 p6 => ?_
 simp -dsimp -implicitDefEqProofs [f6, g6, zz, hl]
 refine zq (he) (by simp [AV.bareL, AV.bare, ba, bya, bb, be]) (zr p6 _) fun s7 f7 g7 p7 => ?_
 simp -dsimp -implicitDefEqProofs [f7, g7, zz, hl]
 exact xz p7
theorem wr_st5b (hT : Tabs w0 base) (o : Nat) (op t b : Int) (n : Str) (x y : Ex) (body els : List Sm) (ind : Str) (bo eo : Str × Bool) (hx : x.ok) (hy : y.ok) (hb : Wr w0 base 130 o [.sl (Sm.cellsL body) body.length .no, .str ind] bo) (hl : els.length = 0) :
  Wr w0 base 195 o [.agg (Sm.mk 5 op t b n x y body els).cells, .str ind] (cats [([], spareP (Sm.mk 5 op t b n x y body els) false false false false true false true true), ([105, 102, 32], false), exprP x, ([32], false), bo]) := by
 have wx := xq hT o x hx
 have wy := xq hT o y hy
 have wi := wh o x _ wx
 refine yx _ rfl fun st tk goal hn0 hn p0 => za Tryz.func195 r195 rfl ?_
 have hs := wr_spare_SIf (w0 := w0) (base := base) o (Sm.mk 5 op t b n x y body els)
 have bb := Sm.bare_cellsL body
 have be := Sm.bare_cellsL els
 obtain ⟨xk, xo, xt, xn, xv, xa⟩ := x
 obtain ⟨yk, yo, yt, yn, yv, ya⟩ := y
 have ba := Ex.bare_cellsL xa
 have bya := Ex.bare_cellsL ya
 simp only [Sm.cells, Ex.cells, Ex.cellsL, List.cons_append, List.nil_append, List.append_nil] at *
 generalize Ex.cellsL xa = ca at *
 generalize Ex.cellsL ya = cb at *
 generalize Sm.cellsL body = cc at *
 generalize Sm.cellsL els = cd at *
 unfold b195
 simp -dsimp -implicitDefEqProofs [hn0, hn, zz, hl]
 refine zq (hs) (by simp [AV.bareL, AV.bare, ba, bya, bb, be, hl]) (zr p0 _) fun s1 f1 g1 p1 => ?_
 simp -dsimp -implicitDefEqProofs [f1, g1, zz, hl]
 refine zq (yp o [[105, 102, 32]] (by simp)) (by simp [AV.bareL, AV.bare, strs, ba, bya, bb, be, hl]) (zr p1 _) fun s2 f2 g2 p2 => ?_
 simp -dsimp -implicitDefEqProofs [f2, g2, zz, hl]
 refine zq (wx) (by simp [AV.bareL, AV.bare, ba, bya, bb, be, hl]) (zr p2 _) fun s3 f3 g3 p3 => ?_
 simp -dsimp -implicitDefEqProofs [f3, g3, zz, hl]
 refine zq (yp o [[32]] (by simp)) (by simp [AV.bareL, AV.bare, strs, ba, bya, bb, be, hl]) (zr p3 _) fun s4 f4 g4 p4 => ?_
 simp -dsimp -implicitDefEqProofs [f4, g4, zz, hl]
 refine zq (hb) (by simp [AV.bareL, AV.bare, ba, bya, bb, be, hl]) (zr p4 _) fun s5 f5 g5 p5 => ?_
 simp -dsimp -implicitDefEqProofs [f5, g5, zz, hl]
 exact pc_end p5 _
theorem wr_st6 (hT : Tabs w0 base) (o : Nat) (op t b : Int) (n : Str) (x y : Ex) (body els : List Sm) (ind : Str) (bo eo : Str × Bool) (hx : x.ok) (hy : y.ok) (hb : Wr w0 base 130 o [.sl (Sm.cellsL body) body.length .no, .str ind] bo) (hb0 : -9223372036854775808 ≤ b) (hb1 : b ≤ 9223372036854775807) :
  Wr w0 base 195 o [.agg (Sm.mk 6 op t b n x y body els).cells, .str ind] (cats [([], spareP (Sm.mk 6 op t b n x y body els) false false true false true false true false), ([119, 104, 105, 108, 101, 32], false), exprP x, ([32, 109, 111, 115, 116, 32] ++ (Lib.itoa b ++ [32]), false), bo]) := by
 have wx := xq hT o x hx
 have wy := xq hT o y hy
 have wi := wh o x _ wx
 refine yx _ rfl fun st tk goal hn0 hn p0 => za Tryz.func195 r195 rfl ?_
 have hs := wr_spare_SWhile (w0 := w0) (base := base) o (Sm.mk 6 op t b n x y body els)
 have bb := Sm.bare_cellsL body
 have be := Sm.bare_cellsL els
 obtain ⟨xk, xo, xt, xn, xv, xa⟩ := x
 obtain ⟨yk, yo, yt, yn, yv, ya⟩ := y
 have ba := Ex.bare_cellsL xa
 have bya := Ex.bare_cellsL ya
 simp only [Sm.cells, Ex.cells, Ex.cellsL, List.cons_append, List.nil_append, List.append_nil] at *
 generalize Ex.cellsL xa = ca at *
 generalize Ex.cellsL ya = cb at *
 generalize Sm.cellsL body = cc at *
 generalize Sm.cellsL els = cd at *
 unfold b195
 have hm : Wr w0 base 122 o [.sl (strs [[32, 109, 111, 115, 116, 32], Lib.itoa b, [32]]) 3 .no] ([32, 109, 111, 115, 116, 32] ++ (Lib.itoa b ++ [32]), false) := by
  have := yp (w0 := w0) (base := base) o [[32, 109, 111, 115, 116, 32], Lib.itoa b, [32]] (by simp)
  simpa using this
 simp -dsimp -implicitDefEqProofs [hn0, hn, zz]
 refine zq (hs) (by simp [AV.bareL, AV.bare, ba, bya, bb, be]) (zr p0 _) fun s1 f1 g1 p1 => ?_
 simp -dsimp -implicitDefEqProofs [f1, g1, zz]
 refine zq (yp o [[119, 104, 105, 108, 101, 32]] (by simp)) (by simp [AV.bareL, AV.bare, strs, ba, bya, bb, be]) (zr p1 _) fun s2 f2 g2 p2 => ?_
 simp -dsimp -implicitDefEqProofs [f2, g2, zz]
 refine zq (wx) (by simp [AV.bareL, AV.bare, ba, bya, bb, be]) (zr p2 _) fun s3 f3 g3 p3 => ?_
 simp -dsimp -implicitDefEqProofs [f3, g3, zz]
 refine zt (d124 hT _ b hb0 hb1) ?_
 simp -dsimp -implicitDefEqProofs [f3, g3, zz]
 refine zq (hm) (by simp [AV.bareL, AV.bare, strs, ba, bya, bb, be]) (zr p3 _) fun s4 f4 g4 p4 => ?_
 simp -dsimp -implicitDefEqProofs [f4, g4, zz]
 refine zq (hb) (by simp [AV.bareL, AV.bare, ba, bya, bb, be]) (zr p4 _) fun s5 f5 g5 p5 => ?_
 simp -dsimp -implicitDefEqProofs [f5, g5, zz]
 exact xz p5
theorem wr_st0 (o : Nat) (s : Sm) (ind : Str) (out : Str × Bool) (h : Wr w0 base 217 o [.agg s.cells] out) (hk : ∀ i : Int, (i = 1 ∨ i = 2 ∨ i = 3 ∨ i = 5 ∨ i = 6) → s.kind ≠ i) : Wr w0 base 195 o [.agg s.cells, .str ind] out := by
 refine yx [out] (by simp) fun st tk goal hn0 hn p0 => za Tryz.func195 r195 rfl ?_
 obtain ⟨k, op, t, b, n, x, y, body, els⟩ := s
 have b1 : (k == 1) = false := by simpa using hk 1 (by omega)
 have b2 : (k == 2) = false := by simpa using hk 2 (by omega)
 have b3 : (k == 3) = false := by simpa using hk 3 (by omega)
 have b5 : (k == 5) = false := by simpa using hk 5 (by omega)
 have b6 : (k == 6) = false := by simpa using hk 6 (by omega)
 clear hk
 have bb := Sm.bare_cellsL body
 have be := Sm.bare_cellsL els
 obtain ⟨xk, xo, xt, xn, xv, xa⟩ := x
 obtain ⟨yk, yo, yt, yn, yv, ya⟩ := y
 have ba := Ex.bare_cellsL xa
 have bya := Ex.bare_cellsL ya
 simp only [Sm.cells, Ex.cells, List.cons_append, List.nil_append] at *
 generalize Ex.cellsL xa = ca at *
 generalize Ex.cellsL ya = cb at *
 generalize Sm.cellsL body = cc at *
 generalize Sm.cellsL els = cd at *
 unfold b195
 simp -dsimp -implicitDefEqProofs [hn0, hn, zz, b1, b2, b3, b5, b6]
 refine zq (h) (by simp [AV.bareL, AV.bare, ba, bya, bb, be]) (zr p0 _) fun s1 f1 g1 p1 => ?_
 simp -dsimp -implicitDefEqProofs [f1, g1, zz, b1, b2, b3, b5, b6]
 exact xz p1
mutual
def stmtP : Sm → Str → Str × Bool
 | .mk k op t b n x y body els, ind =>
  if k = 1 then cats [([], spareP (Sm.mk k op t b n x y body els) false true false true true false false false), ([118, 97, 114, 32], false), paramP n t, ([32, 61, 32], false), exprP x]
  else if k = 2 then cats [([], spareP (Sm.mk k op t b n x y body els) false false false true true false false false), (n, !isNameP n), ([32, 61, 32], false), exprP x]
  else if k = 3 then cats [([], spareP (Sm.mk k op t b n x y body els) false false false true true true false false), (n, !isNameP n), indexP' (exprP x), ([32, 61, 32], false), exprP y]
  else if k = 5 then cats ([([], spareP (Sm.mk k op t b n x y body els) false false false false true false true true), ([105, 102, 32], false), exprP x, ([32], false), blockP ind (cats (linesP (ind ++ [32, 32]) (stmtsP body (ind ++ [32, 32]))))] ++
   (if els.length = 0 then [] else [([32, 101, 108, 115, 101, 32], false), blockP ind (cats (linesP (ind ++ [32, 32]) (stmtsP els (ind ++ [32, 32]))))]))
  else if k = 6 then cats [([], spareP (Sm.mk k op t b n x y body els) false false true false true false true false), ([119, 104, 105, 108, 101, 32], false), exprP x, ([32, 109, 111, 115, 116, 32] ++ (Lib.itoa b ++ [32]), false), blockP ind (cats (linesP (ind ++ [32, 32]) (stmtsP body (ind ++ [32, 32]))))]
  else otherP (.mk k op t b n x y body els)
def stmtsP : List Sm → Str → List (Str × Bool)
 | [], _ => []
 | s :: l, ind => stmtP s ind :: stmtsP l ind
end
theorem stmtsP_map (ind : Str) : ∀ l : List Sm, stmtsP l ind = l.map fun s => stmtP s ind
 | [] => by simp [stmtsP]
 | s :: l => by simp [stmtsP, stmtsP_map ind l]
theorem wr_stmt (hT : Tabs w0 base) (o : Nat) : ∀ s : Sm, s.ok → ∀ ind, Wr w0 base 195 o [.agg s.cells, .str ind] (stmtP s ind) := by
 refine Sm.ind ?_
 intro k op t b n x y body els ih1 ih2 hok ind
 simp only [Sm.ok] at hok
 obtain ⟨⟨hb0, hb1⟩, hx, hy, h1, h2⟩ := hok
 have wb := wr_block (w0 := w0) (base := base) o body ind (fun s => stmtP s (ind ++ [32, 32])) fun s hs => ih1 s hs ((Sm.okL_iff body).1 h1 s hs) _
 have we := wr_block (w0 := w0) (base := base) o els ind (fun s => stmtP s (ind ++ [32, 32])) fun s hs => ih2 s hs ((Sm.okL_iff els).1 h2 s hs) _
 simp only [stmtP, stmtsP_map]
 split
 ·rename_i e; subst e; exact wr_st1 hT o op t b n x y body els ind ([], false) ([], false) hx hy
 split
 ·rename_i e; subst e; exact wr_st2 hT o op t b n x y body els ind ([], false) ([], false) hx hy
 split
 ·rename_i e; subst e; exact wr_st3 hT o op t b n x y body els ind ([], false) ([], false) hx hy
 split
 ·rename_i e; subst e
  split
  ·rename_i hl
   exact wr_st5b hT o op t b n x y body els ind _ ([], false) hx hy wb hl
  ·rename_i hl
   exact wr_st5a hT o op t b n x y body els ind _ _ hx hy wb we (by omega)
 split
 ·rename_i e; subst e; exact wr_st6 hT o op t b n x y body els ind _ ([], false) hx hy wb hb0 hb1
 ·refine wr_st0 o _ ind _ (wr_other hT o _ hx hy) fun i hi e => ?_
  replace e : k = i := e
  omega
def bodyP (ind : Str) (l : List Sm) : Str × Bool := cats (linesP ind (stmtsP l ind))
theorem wr_body (hT : Tabs w0 base) (o : Nat) (l : List Sm) (hok : Sm.okL l) (ind : Str) : Wr w0 base 160 o [.sl (Sm.cellsL l) l.length .no, .str ind] (bodyP ind l) := by
 unfold bodyP
 rw [stmtsP_map]
 exact wr_stmts o l ind _ fun s hs => wr_stmt hT o s ((Sm.okL_iff l).1 hok s hs) ind
theorem wr_braces (hT : Tabs w0 base) (o : Nat) (l : List Sm) (hok : Sm.okL l) (ind : Str) : Wr w0 base 130 o [.sl (Sm.cellsL l) l.length .no, .str ind] (blockP ind (bodyP (ind ++ [32, 32]) l)) := by
 unfold bodyP
 rw [stmtsP_map]
 exact wr_block o l ind _ fun s hs => wr_stmt hT o s ((Sm.okL_iff l).1 hok s hs) _
end
section
variable {w0 : World} {base : Nat}
def indexF {α : Type} (f : α → Bool) : List α → Int
 | [] => -1
 | y :: l => if f y then 0 else if indexF f l = -1 then -1 else indexF f l + 1
theorem indexF_drop {α : Type} (f : α → Bool) (l : List α) (j : Nat) (y : α) (h : l[j]? = some y) : indexF f (l.drop j) = if f y then 0 else if indexF f (l.drop (j + 1)) = -1 then -1 else indexF f (l.drop (j + 1)) + 1 := by
 obtain ⟨hlt, e⟩ := List.getElem?_eq_some_iff.1 h
 rw [List.drop_eq_getElem_cons hlt, e]
 rfl
theorem indexF_ge {α : Type} (f : α → Bool) (l : List α) : -1 ≤ indexF f l := by
 induction l with
 | nil => simp [indexF]
 | cons y l ih => simp only [indexF]; split <;> (try split) <;> omega
theorem indexF_any {α : Type} (f : α → Bool) : ∀ l : List α, decide (0 ≤ indexF f l) = l.any f
 | [] => by simp [indexF]
 | y :: l => by
  have ih := indexF_any f l
  have hg := indexF_ge f l
  simp only [indexF, List.any_cons]
  by_cases hf : f y = true
  ·simp [hf]
  ·simp only [hf, if_false, Bool.false_eq_true, Bool.false_or]
   rw [← ih]
   split
   ·rename_i e; rw [e]
   ·have h1 : 0 ≤ indexF f l + 1 := by omega
    have h2 : 0 ≤ indexF f l := by omega
    simp [h1, h2]
theorem d193 (st : St) (l : List Sm) (f : Sm → Bool) (h : ∀ s ∈ l, ∀ st, Det Tryz.prog w0 base 158 [.agg s.cells] st (.bool (f s)) st) :
  Det Tryz.prog w0 base 193 [.sl (Sm.cellsL l) l.length .no, .func (.func 158) [] []] st (vi (indexF f l)) st := by
 refine zh (zp Tryz.func193 r193) fun hwf hfit => z6 Tryz.func193 r193 rfl ?_
 have hlen : l.length ≤ big := hfit.1.1
 unfold big at hlen
 clear hfit
 have hrow := fun j x => @yg _ Sm.cells 19 Sm.cells_len l j x
 have hle := fun j x => @ye _ Sm.cells 19 Sm.cells_len l j x
 rw [Sm.cellsL_row] at *
 generalize rowOf Sm.cells l = ca at *
 unfold b193
 simp -dsimp -implicitDefEqProofs
 refine y1 (d := 9) (x := 8) (n := 7) (y := 18) l.length (fun j e s => (indexF f l = if indexF f (l.drop j) = -1 then -1 else indexF f (l.drop j) + j) ∧ s.objs = st.objs) hlen rfl rfl ⟨by simp [indexF], rfl⟩ rfl (fun j e e' s k h _ => h) ?_ ?_
 ·rintro j e s hj hf hx ⟨hI, hs⟩
  have e1 := hf 1 rfl
  have e0 := hf 0 rfl
  simp at e1 e0
  obtain ⟨y, hy⟩ : ∃ y, l[j]? = some y := ⟨_, List.getElem?_eq_getElem hj⟩
  have hr := hrow j y hy
  have hl := hle j y hy
  have hd := indexF_drop f l j y hy
  have hg := indexF_ge f (l.drop (j + 1))
  have hc := h y (List.mem_of_getElem? hy)
  have hyb := Sm.bare_cells y
  generalize y.cells = yc at *
  simp -dsimp -implicitDefEqProofs [e1, e0, hx, hj, hr, hl]
  refine zo (hc _) (by simp [AV.bareL, AV.bare, hyb]) ?_
  simp -dsimp -implicitDefEqProofs [e1, e0, hx, hj, hr, hl]
  refine Br_iff (fun hb => ?_) (fun hb => ?_)
  ·simp -dsimp -implicitDefEqProofs [e1, e0, hx, hj]
   refine zg hwf (fun p hp => ?_) ?_
   ·simp [hs]
   ·simp_all [eraseA]
  ·simp -dsimp -implicitDefEqProofs
   refine hold ⟨?_, by simp [hs]⟩
   rw [hb] at hd
   rw [hI, hd]
   push_cast
   try simp only [Bool.false_eq_true, if_false]
   split <;> (try split) <;> (try split) <;> omega
 ·rintro e s hf ⟨hI, hs⟩
  simp -dsimp -implicitDefEqProofs
  refine zg hwf (fun p hp => ?_) ?_
  ·simp [hs]
  ·simp [indexF] at hI
   simp [hI, eraseA]
theorem d157 (st : St) (l : List Sm) (f : Sm → Bool) (h : ∀ s ∈ l, ∀ st, Det Tryz.prog w0 base 158 [.agg s.cells] st (.bool (f s)) st) :
  Det Tryz.prog w0 base 157 [.sl (Sm.cellsL l) l.length .no, .func (.func 158) [] []] st (.bool (l.any f)) st := by
 refine zh (zp Tryz.func157 r157) fun hwf hfit => z6 Tryz.func157 r157 rfl ?_
 have hc := fun st => d193 (w0 := w0) (base := base) st l f h
 have bl := Sm.bare_cellsL l
 clear h hfit
 generalize Sm.cellsL l = ca at *
 unfold b157
 simp -dsimp -implicitDefEqProofs
 refine zo (hc _) (by simp [AV.bareL, AV.bare, bl]) ?_
 simp -dsimp -implicitDefEqProofs
 exact zn hwf (by simp [eraseA, ← indexF_any])
def wPure : List Int := [1, 2, 5, 6, 7, 8]
mutual
def impureP : Sm → Bool
 | .mk k _ _ _ _ _ _ body els => !decide (k ∈ wPure) || (anyImpure body || anyImpure els)
def anyImpure : List Sm → Bool
 | [] => false
 | s :: l => impureP s || anyImpure l
end
theorem anyImpure_any : ∀ l : List Sm, anyImpure l = l.any impureP
 | [] => by simp [anyImpure]
 | s :: l => by simp [anyImpure, anyImpure_any l]
theorem d128_of (st : St) (l : List Sm) (h : ∀ s ∈ l, ∀ st, Det Tryz.prog w0 base 158 [.agg s.cells] st (.bool (impureP s)) st) :
  Det Tryz.prog w0 base 128 [.sl (Sm.cellsL l) l.length .no] st (.bool (!anyImpure l)) st := by
 refine zh (zp Tryz.func128 r128) fun hwf hfit => z6 Tryz.func128 r128 rfl ?_
 have hc := fun st => d157 (w0 := w0) (base := base) st l impureP h
 have bl := Sm.bare_cellsL l
 clear h hfit
 rw [anyImpure_any]
 generalize Sm.cellsL l = ca at *
 unfold b128
 simp -dsimp -implicitDefEqProofs
 refine zo (hc _) (by simp [AV.bareL, AV.bare, bl]) ?_
 simp -dsimp -implicitDefEqProofs
 exact zn hwf (by simp [eraseA])
theorem d158 : ∀ (s : Sm) (st : St), Det Tryz.prog w0 base 158 [.agg s.cells] st (.bool (impureP s)) st := by
 refine Sm.ind ?_
 intro k op t b n x y body els ih1 ih2 st
 refine zh (zp Tryz.func158 r158) fun hwf hfit => z6 Tryz.func158 r158 rfl ?_
 have h1 := fun st => d128_of (w0 := w0) (base := base) st body ih1
 have h2 := fun st => d128_of (w0 := w0) (base := base) st els ih2
 have bb := Sm.bare_cellsL body
 have be := Sm.bare_cellsL els
 have hn0 := zj hwf
 have hn := zf hwf
 clear ih1 ih2 hfit
 obtain ⟨xk, xo, xt, xn, xv, xa⟩ := x
 obtain ⟨yk, yo, yt, yn, yv, ya⟩ := y
 simp only [Sm.cells, Ex.cells, List.cons_append, List.nil_append, impureP] at *
 generalize Ex.cellsL xa = ca at *
 generalize Ex.cellsL ya = cb at *
 generalize Sm.cellsL body = cc at *
 generalize Sm.cellsL els = cd at *
 generalize anyImpure body = ib at *
 generalize anyImpure els = ie at *
 unfold b158
 simp -dsimp -implicitDefEqProofs [hn0, hn, zz]
 refine zo (d159 _ wPure k) (by simp [AV.bareL, AV.bare, wPure]) ?_
 simp -dsimp -implicitDefEqProofs [hn0, hn, zz]
 refine Br_iff (fun hb => ?_) (fun hb => ?_)
 ·simp -dsimp -implicitDefEqProofs [hb]
  exact zn hwf (by simp [eraseA, hb])
 ·simp -dsimp -implicitDefEqProofs [hb]
  refine zo (h1 _) (by simp [AV.bareL, AV.bare, bb]) ?_
  cases ib
  ·simp -dsimp -implicitDefEqProofs [hb]
   refine zo (h2 _) (by simp [AV.bareL, AV.bare, be]) ?_
   simp -dsimp -implicitDefEqProofs [hb]
   exact zn hwf (by simp [eraseA, hb])
  ·simp -dsimp -implicitDefEqProofs [hb]
   exact zn hwf (by simp [eraseA, hb])
theorem d128 (st : St) (l : List Sm) : Det Tryz.prog w0 base 128 [.sl (Sm.cellsL l) l.length .no] st (.bool (!anyImpure l)) st := d128_of st l fun s _ => d158 s
end
section
@[reducible] def rangeAt (ei bi d x n y : Nat) (body : SCode) : SCode :=
 .seq (.reg [⟨some d, none, .pe (.bin .int .lss (.tmp x) (.tmp n))⟩]) (.seq (.cond (.tmp d) .skip (.exit ei)) (.seq (.block bi body) (.reg [⟨some y, none, .pe (.bin .int .add (.tmp x) (.lit (.int .i64 1)))⟩, ⟨some x, none, .pe (.mov (.tmp y))⟩])))
def nextAt (bi : Nat) (I : Env → St → Prop) (Q : CK) : CK := fun ex e d s => match ex with
 | .normal => Hold (I e s) .mk
 | .exit i => if i = bi then Hold (I e s) .mk else Q (.exit i) e d s
 | .ret => Q .ret e d s
@[simp ↓] theorem nextAt_normal (bi : Nat) (I : Env → St → Prop) (Q : CK) (e : Env) (d : List ADef) (s : St) : nextAt bi I Q .normal e d s = Hold (I e s) .mk := rfl
@[simp ↓] theorem nextAt_ret (bi : Nat) (I : Env → St → Prop) (Q : CK) (e : Env) (d : List ADef) (s : St) : nextAt bi I Q .ret e d s = Q .ret e d s := rfl
@[simp ↓] theorem nextAt_one (bi : Nat) (I : Env → St → Prop) (Q : CK) (e : Env) (d : List ADef) (s : St) : nextAt bi I Q (.exit bi) e d s = Hold (I e s) .mk := if_pos rfl
@[simp ↓] theorem nextAt_exit (bi : Nat) (I : Env → St → Prop) (Q : CK) (i : Nat) (h : i ≠ bi) (e : Env) (d : List ADef) (s : St) : nextAt bi I Q (.exit i) e d s = Q (.exit i) e d s := if_neg h
section
variable {P : Program} {w0 : World} {base : Nat}
theorem range_at {ei bi d x n y : Nat} {body : SCode} {env : Env} {ds : List ADef} {st : St} {Q : CK} {l : Lock (rangeAt ei bi d x n y body, env, Q)} (N : Nat) (I : Nat → Env → St → Prop) (hN : N ≤ 140737488355328)
  (hn : env n = .int .i64 N) (hx : env x = .int .i64 0) (h0 : I 0 env st)
  (hw : (!wr n (rangeAt ei bi d x n y body) && !wr x body && !df (rangeAt ei bi d x n y body) && d != x && d != n && y != n && x != n && y != x) = true)
  (hs : ∀ j e e' s k, I j e s → (∀ t, t ≠ d → t ≠ x → t ≠ y → e' t = e t) → I j e' (s.bump k))
  (hbody : ∀ j e s, j < N → (∀ t, wr t (rangeAt ei bi d x n y body) = false → e t = env t) → e x = .int .i64 j → I j e s → awp P w0 base body e ds s (nextAt bi (I (j + 1)) Q))
  (hend : ∀ e s, (∀ t, wr t (rangeAt ei bi d x n y body) = false → e t = env t) → I N e s → Q (.exit ei) e ds s) : LoopL P w0 base (rangeAt ei bi d x n y body) env ds st Q l := by
 simp only [Bool.and_eq_true, Bool.not_eq_true', bne_iff_ne, ne_eq] at hw
 obtain ⟨⟨⟨⟨⟨⟨⟨w1, w2⟩, w3⟩, w4⟩, w5⟩, w6⟩, w7⟩, w8⟩ := hw
 have hdx : ∀ t, wr t (rangeAt ei bi d x n y body) = false → t ≠ d ∧ t ≠ x ∧ t ≠ y := by
  intro t ht
  simp only [rangeCode, wr, wrO, Bool.or_false, Bool.or_eq_false_iff, Bool.false_or] at ht
  refine ⟨?_, ?_, ?_⟩ <;> (rintro rfl; simp at ht)
 refine loop_by (fun m e s => ∃ j, j + m = N ∧ e x = .int .i64 j ∧ I j e s) N ⟨0, by omega, hx, h0⟩ w3 ?_
 rintro m e s hf ⟨j, hj, hex, hI⟩
 have hen := (hf n w1).trans hn
 by_cases hlt : j < N
 ·simp -dsimp -implicitDefEqProofs [hex, hen, hlt]
  have hb := hbody j (e.put (some d) (.bool true)) (s.bump 1) hlt (fun t ht => by (try simp only [xu]); rw [x7, if_neg (hdx t ht).1]; exact hf t ht) (by (try simp only [xu]); rw [x7, if_neg (Ne.symm w4)]; exact hex)
   (hs j e _ s 1 hI (fun t h1 _ _ => by (try simp only [xu]); rw [x7, if_neg h1]))
  refine xp body _ _ _ _ _ ?_ (wa body _ _ _ _ hb)
  rintro ex e2 d2 s2 ⟨hq, g1, g2⟩
  have hx2 : e2 x = .int .i64 j := by rw [g1 x w2]; (try simp only [xu]); rw [x7, if_neg (Ne.symm w4)]; exact hex
  have hd2 : d2 = ds := g2 (by simp only [rangeCode, df, dfO, Bool.or_false, Bool.or_eq_false_iff, Bool.false_or] at w3; first | exact w3 | exact w3.1 | exact w3.2)
  subst hd2
  have hgo : I (j + 1) e2 s2 → awp P w0 base (.reg [⟨some y, none, .pe (.bin .int .add (.tmp x) (.lit (.int .i64 1)))⟩, ⟨some x, none, .pe (.mov (.tmp y))⟩]) e2 d2 s2 (nextRound (fun m e d s => ∃ j, j + m = N ∧ e x = .int .i64 j ∧ I j e s) m Q) := by
   intro hI2
   simp -dsimp -implicitDefEqProofs [hx2, wrap_up (show j < 9223372036854775807 by omega)]
   refine hold ⟨m - 1, by omega, j + 1, by omega, by simp, ?_⟩
   exact hs (j + 1) e2 _ s2 2 hI2 (fun t _ h2 h3 => by (try simp only [xu]); rw [x7, if_neg h2, x7, if_neg h3])
  cases ex with
  | normal => exact hgo hq
  | ret => exact hq
  | exit i =>
   by_cases hi : i = bi
   ·subst hi; rw [nextAt_one] at hq; simp -dsimp -implicitDefEqProofs only [inBlock_exit, andThen_normal]; exact hgo hq
   ·simp -dsimp -implicitDefEqProofs only [inBlock_other bi i _ _ _ _ hi, andThen_exit, nextRound_exit]
    rw [nextAt_exit _ _ _ _ hi] at hq
    exact hq
 ·simp -dsimp -implicitDefEqProofs [hex, hen, hlt]
  have : j = N := by omega
  subst this
  exact hend _ _ (fun t ht => by (try simp only [xu]); rw [x7, if_neg (hdx t ht).1]; exact hf t ht) (hs j e _ s 1 hI (fun t h1 _ _ => by (try simp only [xu]); rw [x7, if_neg h1]))
end
structure Own (st : St) (o : Nat) (x : AObj) (s : St) : Prop where
 wf : s.wf
 next : st.next ≤ s.next
 lt : o < st.next
 at_ : s.objs o = some x
 old : ∀ p, p < st.next → p ≠ o → s.objs p = st.objs p
theorem xy {st : St} {o : Nat} {x : AObj} (h : st.wf) (ho : st.objs o = some x) : Own st o x st := ⟨h, Nat.le_refl _, h _ _ ho, ho, fun _ _ _ => rfl⟩
theorem z8 {st s : St} {o : Nat} {x : AObj} (h : Own st o x s) (k : Nat) : Own st o x (s.bump k) := ⟨zk h.wf, Nat.le_trans h.next (Nat.le_add_right _ _), h.lt, h.at_, h.old⟩
theorem x8 {st s : St} {o : Nat} {x : AObj} (h : Own st o x s) (y : AObj) : Own st o y (s.put o y) :=
 ⟨zb h.wf (Nat.lt_of_lt_of_le h.lt h.next), h.next, h.lt, by simp, fun p h1 h2 => by simp [h2, h.old p h1 h2]⟩
theorem own_new {st s : St} {o : Nat} {x : AObj} (h : Own st o x s) {k q : Nat} (y : AObj) (h1 : s.next ≤ q) (h2 : q < s.next + k) : Own st o x ((s.bump k).put q y) :=
 ⟨zb (zk h.wf) h2, Nat.le_trans h.next (Nat.le_add_right _ _), h.lt, by have := h.lt; have := h.next; rw [yh, if_neg (by omega)]; exact h.at_, fun p g1 g2 => by have := h.next; rw [yh, if_neg (by omega)]; exact h.old p g1 g2⟩
theorem vy {st s : St} {o : Nat} {x : AObj} {r0 r : AV} (hwf : st.wf) (h : Own st o x s) (hx : x.under (· < st.next)) (e : eraseA st.next r0 = some r) : Fin st s r0 r (st.put o x) := by
 refine fin_put hwf h.lt (fun p hp => ?_) hx e
 by_cases hpo : p = o
 ·subst hpo; simp [h.at_]
 ·simp [hpo, h.old p hp hpo]
theorem wq {P : Program} {w0 : World} {base : Nat} {f : FuncId} {args : List AV} {st : St} {r : AV} {o : Nat} {x y : AObj} (hE : Enters P f) (ho : st.objs o = some x) (h : st.wf → AV.fitL args → Det P w0 base f args st r (st.put o y)) : Det P w0 base f args st r (st.put o y) := by
 refine det_know hE (Nat.le_refl _) (fun p hp hn => ?_) h
 rw [yh]
 split
 ·rename_i e; rw [e, ho] at hn; cases hn
 ·exact hn
theorem wrap_def (a : Int) : IntKind.i64.wrap a = if 9223372036854775808 ≤ a % 18446744073709551616 then a % 18446744073709551616 - 18446744073709551616 else a % 18446744073709551616 := by
 simp [IntKind.wrap, IntKind.signed, IntKind.bits]
theorem wrap_dvd (a : Int) : ∃ c, IntKind.i64.wrap a = a + 18446744073709551616 * c := by
 rw [wrap_def]
 split
 ·exact ⟨-(a / 18446744073709551616) - 1, by omega⟩
 ·exact ⟨-(a / 18446744073709551616), by omega⟩
theorem wrap_shift (a c : Int) : IntKind.i64.wrap (a + 18446744073709551616 * c) = IntKind.i64.wrap a := by
 rw [wrap_def, wrap_def, Int.add_mul_emod_self_left]
theorem wrap_add (a b : Int) : IntKind.i64.wrap (IntKind.i64.wrap a + b) = IntKind.i64.wrap (a + b) := by
 obtain ⟨c, h⟩ := wrap_dvd a
 rw [h, show a + 18446744073709551616 * c + b = a + b + 18446744073709551616 * c by omega, wrap_shift]
end
section
variable {w0 : World} {base : Nat}
mutual
def nodesE : Ex → Nat
 | .mk _ _ _ _ _ a => 1 + nodesL a
def nodesL : List Ex → Nat
 | [] => 0
 | e :: l => nodesE e + nodesL l
end
def incW (d : Int) : Int := IntKind.i64.wrap (d + 1)
mutual
def overE : Ex → Int → Bool
 | .mk k _ _ _ _ a, d => (decide (30 < d) || (k == 8 && decide (8 < a.length))) || overL a (incW d)
def overL : List Ex → Int → Bool
 | [], _ => false
 | e :: l, d => overE e d || overL l d
end
def wn (n : Nat) : Int := IntKind.i64.wrap n
theorem wn_inc (n : Nat) : IntKind.i64.wrap (wn n + 1) = wn (n + 1) := by
 simp only [wn]
 rw [wrap_add]; push_cast; rfl
def Ms (n : Nat) (over : Bool) : AObj := .cells 207 [vi (wn n), .bool over]
theorem Ms_under (U : Nat → Prop) (n : Nat) (over : Bool) : (Ms n over).under U := by simp [Ms, AObj.under, AV.underL, AV.under]
theorem nodesL_take (a : List Ex) (j : Nat) (y : Ex) (h : a[j]? = some y) : nodesL (a.take (j + 1)) = nodesL (a.take j) + nodesE y := by
 have key : ∀ (l1 l2 : List Ex), nodesL (l1 ++ l2) = nodesL l1 + nodesL l2 := by
  intro l1 l2
  induction l1 with
  | nil => simp [nodesL]
  | cons x l ih => simp [nodesL, ih, Nat.add_assoc]
 rw [List.take_add_one, h, key]
 simp [nodesL]
theorem overL_take (a : List Ex) (d : Int) (j : Nat) (y : Ex) (h : a[j]? = some y) : overL (a.take (j + 1)) d = (overL (a.take j) d || overE y d) := by
 have key : ∀ (l1 l2 : List Ex), overL (l1 ++ l2) d = (overL l1 d || overL l2 d) := by
  intro l1 l2
  induction l1 with
  | nil => simp [overL]
  | cons x l ih => simp [overL, ih, Bool.or_assoc]
 rw [List.take_add_one, h, key]
 simp [overL]
theorem d152 : ∀ (e : Ex) (d : Int) (st : St) (o n : Nat) (over : Bool), st.objs o = some (Ms n over) →
  Det Tryz.prog w0 base 152 [.ptr o 0, .agg e.cells, vi d] st (.tuple []) (st.put o (Ms (n + nodesE e) (over || overE e d))) := by
 refine Ex.ind ?_
 intro k op t nm v a ih d st o n over ho
 refine wq (zp Tryz.func152 r152) ho fun hwf hfit => z6 Tryz.func152 r152 rfl ?_
 have hlen : a.length ≤ big := by
  have := hfit.2.1
  simp only [Ex.cells, AV.fit, AV.fitL] at this
  exact this.2.2.2.2.2.1.1
 unfold big at hlen
 clear hfit
 have hO := xy hwf ho
 have hlt := hO.lt
 have hrow := fun j x => @yg _ Ex.cells 6 Ex.cells_len a j x
 have hle := fun j x => @ye _ Ex.cells 6 Ex.cells_len a j x
 have hn0 := zj hwf
 have hn := zf hwf
 simp only [Ex.cells, Ex.cellsL_row]
 generalize rowOf Ex.cells a = ca at *
 generalize hN : n + nodesE (Ex.mk k op t nm v a) = N
 generalize hX : (over || overE (Ex.mk k op t nm v a) d) = X
 unfold b152
 have main : ∀ (e : Env) (s : St), e 0 = .ptr o 0 → e 2 = vi d → e 4 = .iptr [vi k, vi op, vi t, .str nm, .int .i32 v, .sl ca a.length .no] 0 → Own st o (Ms (n + 1) (over || (decide (30 < d) || (k == 8 && decide (8 < a.length))))) s →
   awp Tryz.prog w0 base (.seq (.reg [⟨(some 37), none, (.pe (.fldA 5 (AM.t 4)))⟩, ⟨(some 38), none, (.load 1 false (AM.t 37))⟩, ⟨(some 39), none, (.pe (.lenL (AM.t 38)))⟩, ⟨(some 40), none, (.pe (.mov (i 0)))⟩]) (.block 0 (.loop l152_0))) e [] s (Ends Tryz.prog w0 base [] st (.tuple []) (st.put o (Ms N X))) := by
  intro e s e0 e2 e4 hs
  simp -dsimp -implicitDefEqProofs [e0, e2, e4]
  refine y1 (d := 41) (x := 40) (n := 39) (y := 49) a.length (fun j e s => Own st o (Ms (n + 1 + nodesL (a.take j)) ((over || (decide (30 < d) || (k == 8 && decide (8 < a.length)))) || overL (a.take j) (incW d))) s) hlen (by simp) (by simp) (by simpa [nodesL, overL] using z8 hs _) rfl (fun j e e' s k h _ => z8 h k) ?_ ?_
  ·rintro j e' s' hj hf hx hI
   have e0' : e' 0 = .ptr o 0 := by rw [hf 0 rfl]; simp [e0]
   have e2' : e' 2 = vi d := by rw [hf 2 rfl]; simp [e2]
   have e38 : e' 38 = .sl ca a.length .no := by rw [hf 38 rfl]; simp
   obtain ⟨y, hy⟩ : ∃ y, a[j]? = some y := ⟨_, List.getElem?_eq_getElem hj⟩
   have hr := hrow j y hy
   have hl := hle j y hy
   have hyl := Ex.cells_len y
   have hyt : y.cells.take 6 = y.cells := List.take_of_length_le (by omega)
   have hyb := Ex.bare_cells y
   have hc := ih y (List.mem_of_getElem? hy) (incW d)
   rw [nodesL_take a j y hy, overL_take a (incW d) j y hy]
   generalize y.cells = yc at *
   have q0 := zj hI.wf
   have q := zf hI.wf
   simp -dsimp -implicitDefEqProofs [e38, e0', e2', hx, hj, hr, hl, hyl, q0, q, zz, hyt]
   refine zo (hc _ o _ _ hI.at_) (by simp [AV.bareL, AV.bare, hyb, incW]) ?_
   simp -dsimp -implicitDefEqProofs
   refine hold ?_
   have := x8 (z8 hI 9) (Ms (n + 1 + nodesL (a.take j) + nodesE y) (((over || (decide (30 < d) || (k == 8 && decide (8 < a.length)))) || overL (a.take j) (incW d)) || overE y (incW d)))
   simpa [Nat.add_assoc, Bool.or_assoc] using this
  ·rintro e' s' hf hI
   simp -dsimp -implicitDefEqProofs
   refine vy hwf (by subst hN; subst hX; simpa [nodesE, overE, Nat.add_assoc, Bool.or_assoc] using hI) (Ms_under _ _ _) (by simp [eraseA, eraseL])
 have fin : ∀ (X : Bool) (K : Nat), (over || (decide (30 < d) || (k == 8 && decide (8 < a.length)))) = X → Own st o (Ms (n + 1) (over || (decide (30 < d) || (k == 8 && decide (8 < a.length))))) ((st.bump K).put o (.cells 207 [vi (wn (n + 1)), .bool X])) := by
  rintro X K rfl
  exact x8 (z8 hO K) _
 have ho' : st.objs o = some (.cells 207 [vi (wn n), .bool over]) := ho
 have hcast : decide ((8 : Int) < (a.length : Int)) = decide (8 < a.length) := decide_eq_decide.2 (by omega)
 by_cases hk : k = 8
 ·subst hk
  simp -dsimp -implicitDefEqProofs [hn0, hn, zz, ho', wn_inc, hcast, hlt, zx, zy]
  repeat' (refine Br_iff (fun hb => ?_) (fun hb => ?_) <;> simp -dsimp -implicitDefEqProofs [hb, -yr])
  all_goals exact main _ _ (by simp) (by simp) (by simp) (fin _ _ (by first | (simp_all; done) | (simp_all; omega)))
 ·have hk' : (k == 8) = false := by simpa using hk
  simp -dsimp -implicitDefEqProofs [hn0, hn, zz, ho', wn_inc, hcast, hlt, zx, zy, hk']
  repeat' (refine Br_iff (fun hb => ?_) (fun hb => ?_) <;> simp -dsimp -implicitDefEqProofs [hb, hk', -yr])
  all_goals exact main _ _ (by simp) (by simp) (by simp) (fin _ _ (by first | (simp_all; done) | (simp_all; omega)))
end
section
variable {w0 : World} {base : Nat}
def exN (e : Ex) : Nat := if e.kind = 0 then 0 else nodesE e
def exO (e : Ex) : Bool := if e.kind = 0 then false else overE e 1
mutual
def nodesS : Sm → Nat
 | .mk _ _ _ _ _ x y body els => 1 + (exN x + exN y) + nodesSL body + nodesSL els
def nodesSL : List Sm → Nat
 | [] => 0
 | s :: l => nodesS s + nodesSL l
end
mutual
def overS : Sm → Int → Bool
 | .mk _ _ _ _ _ x y body els, d => ((decide (30 < d) || (exO x || exO y)) || overSL body (incW d)) || overSL els (incW d)
def overSL : List Sm → Int → Bool
 | [], _ => false
 | s :: l, d => overS s d || overSL l d
end
theorem nodesSL_take (a : List Sm) (j : Nat) (y : Sm) (h : a[j]? = some y) : nodesSL (a.take (j + 1)) = nodesSL (a.take j) + nodesS y := by
 have key : ∀ (l1 l2 : List Sm), nodesSL (l1 ++ l2) = nodesSL l1 + nodesSL l2 := by
  intro l1 l2
  induction l1 with
  | nil => simp [nodesSL]
  | cons x l ih => simp [nodesSL, ih, Nat.add_assoc]
 rw [List.take_add_one, h, key]
 simp [nodesSL]
theorem overSL_take (a : List Sm) (d : Int) (j : Nat) (y : Sm) (h : a[j]? = some y) : overSL (a.take (j + 1)) d = (overSL (a.take j) d || overS y d) := by
 have key : ∀ (l1 l2 : List Sm), overSL (l1 ++ l2) d = (overSL l1 d || overSL l2 d) := by
  intro l1 l2
  induction l1 with
  | nil => simp [overSL]
  | cons x l ih => simp [overSL, ih, Bool.or_assoc]
 rw [List.take_add_one, h, key]
 simp [overSL]
def MeasL (w0 : World) (base : Nat) (l : List Sm) : Prop := ∀ (d : Int) (st : St) (o n : Nat) (over : Bool), st.objs o = some (Ms n over) →
 Det Tryz.prog w0 base 151 [.ptr o 0, .sl (Sm.cellsL l) l.length .no, vi d] st (.tuple []) (st.put o (Ms (n + nodesSL l) (over || overSL l d)))
theorem own_call {st s : St} {o : Nat} {x y : AObj} {f : FuncId} {args args' : List AV} {K : AV → St → Prop} {l : Lock K} {r : AV} (h : Own st o x s) (hd : Det Tryz.prog w0 base f args' s r (s.put o y)) (e : AV.bareL args = args')
  (hk : ∀ s' : St, s'.objs s'.next = none → (∀ k, s'.objs (s'.next + k) = none) → s'.objs o = some y → o < s'.next → Own st o y s' → K r s') : CallL Tryz.prog w0 base f args s K l := by
 have q := x8 h y
 exact zo hd e (hk _ (zj q.wf) (zf q.wf) q.at_ (Nat.lt_of_lt_of_le q.lt q.next) q)
theorem meas_list (l : List Sm) (h : ∀ s ∈ l, MeasL w0 base s.body ∧ MeasL w0 base s.els) : MeasL w0 base l := by
 intro d st o n over ho
 refine wq (zp Tryz.func151 r151) ho fun hwf hfit => z6 Tryz.func151 r151 rfl ?_
 have hlen : l.length ≤ big := hfit.2.1.1
 unfold big at hlen
 clear hfit
 have hO := xy hwf ho
 have hrow := fun j x => @yg _ Sm.cells 19 Sm.cells_len l j x
 have hle := fun j x => @ye _ Sm.cells 19 Sm.cells_len l j x
 rw [Sm.cellsL_row]
 generalize rowOf Sm.cells l = ca at *
 generalize hN : n + nodesSL l = N
 generalize hX : (over || overSL l d) = X
 unfold b151
 simp -dsimp -implicitDefEqProofs
 refine y1 (d := 13) (x := 12) (n := 11) (y := 63) l.length (fun j e s => Own st o (Ms (n + nodesSL (l.take j)) (over || overSL (l.take j) d)) s) hlen (by simp) (by simp) (by simpa [nodesSL, overSL] using z8 hO _) rfl (fun j e e' s k h _ => z8 h k) ?_ ?_
 ·rintro j e s hj hf hx hI
  have e0 : e 0 = .ptr o 0 := by rw [hf 0 rfl]; simp
  have e2 : e 2 = vi d := by rw [hf 2 rfl]; simp
  have e10 : e 10 = .sl ca l.length .no := by rw [hf 10 rfl]; simp
  obtain ⟨y, hy⟩ : ∃ y, l[j]? = some y := ⟨_, List.getElem?_eq_getElem hj⟩
  have hr := hrow j y hy
  have hl := hle j y hy
  have hm := h y (List.mem_of_getElem? hy)
  rw [nodesSL_take l j y hy, overSL_take l d j y hy]
  generalize hn1 : n + nodesSL (l.take j) = n1 at *
  generalize hov1 : (over || overSL (l.take j) d) = ov1 at *
  obtain ⟨k, op, t, b, nm, ex, ey, body, els⟩ := y
  have hcx := d152 (w0 := w0) (base := base) ex
  have hcy := d152 (w0 := w0) (base := base) ey
  have bb := Sm.bare_cellsL body
  have be := Sm.bare_cellsL els
  have hmb : MeasL w0 base body := hm.1
  have hme : MeasL w0 base els := hm.2
  clear hm
  unfold MeasL at hmb hme
  obtain ⟨xk, xo, xt, xn, xv, xa⟩ := ex
  obtain ⟨yk, yo, yt, yn, yv, ya⟩ := ey
  have brx := Ex.bare_cellsL xa
  have bry := Ex.bare_cellsL ya
  simp only [Sm.cells, Ex.cells, nodesS, overS, List.cons_append, List.nil_append] at *
  have hxN : exN (Ex.mk xk xo xt xn xv xa) = if xk = 0 then 0 else nodesE (Ex.mk xk xo xt xn xv xa) := rfl
  have hyN : exN (Ex.mk yk yo yt yn yv ya) = if yk = 0 then 0 else nodesE (Ex.mk yk yo yt yn yv ya) := rfl
  have hxO : exO (Ex.mk xk xo xt xn xv xa) = if xk = 0 then false else overE (Ex.mk xk xo xt xn xv xa) 1 := rfl
  have hyO : exO (Ex.mk yk yo yt yn yv ya) = if yk = 0 then false else overE (Ex.mk yk yo yt yn yv ya) 1 := rfl
  generalize exN (Ex.mk xk xo xt xn xv xa) = enx at *
  generalize exN (Ex.mk yk yo yt yn yv ya) = eny at *
  generalize exO (Ex.mk xk xo xt xn xv xa) = eox at *
  generalize exO (Ex.mk yk yo yt yn yv ya) = eoy at *
  generalize nodesE (Ex.mk xk xo xt xn xv xa) = nx at *
  generalize nodesE (Ex.mk yk yo yt yn yv ya) = ny at *
  generalize overE (Ex.mk xk xo xt xn xv xa) = ox at *
  generalize overE (Ex.mk yk yo yt yn yv ya) = oy at *
  generalize Ex.cellsL xa = xc at *
  generalize Ex.cellsL ya = yc at *
  generalize Sm.cellsL body = cb at *
  generalize Sm.cellsL els = ce at *
  generalize nodesSL body = nb at *
  generalize nodesSL els = ne at *
  generalize hob : overSL body = ob at *
  generalize hoe : overSL els = oe at *
  have q0 := zj hI.wf
  have q := zf hI.wf
  have qlt := Nat.lt_of_lt_of_le hI.lt hI.next
  have qo : s.objs o = some (.cells 207 [vi (wn n1), .bool ov1]) := hI.at_
  have main : ∀ (e : Env) (s : St), e 0 = .ptr o 0 → e 2 = vi d → e 7 = .iptr [AV.int IntKind.i64 k, AV.int IntKind.i64 op, AV.int IntKind.i64 t, AV.int IntKind.i64 b, AV.str nm, AV.int IntKind.i64 xk, AV.int IntKind.i64 xo, AV.int IntKind.i64 xt, AV.str xn, AV.int IntKind.i32 xv, AV.sl xc xa.length Perm.no, AV.int IntKind.i64 yk, AV.int IntKind.i64 yo, AV.int IntKind.i64 yt, AV.str yn, AV.int IntKind.i32 yv, AV.sl yc ya.length Perm.no, AV.sl cb body.length Perm.no, AV.sl ce els.length Perm.no] 0 → Own st o (Ms (n1 + 1) (ov1 || decide (30 < d))) s →
   ∀ Q : CK, (∀ e s, Own st o (Ms (n1 + (1 + (enx + eny) + nb + ne)) (ov1 || (((decide (30 < d) || (eox || eoy)) || ob (incW d)) || oe (incW d)))) s → Q .normal e [] s) →
   awp Tryz.prog w0 base (.seq (.seq (.reg [⟨(some 34), none, (.pe (.fldA 5 (AM.t 7)))⟩, ⟨(some 35), none, (.load 6 true (AM.t 34))⟩, ⟨(some 36), none, (.pe (.fldA 11 (AM.t 7)))⟩, ⟨(some 37), none, (.load 6 true (AM.t 36))⟩, ⟨(some 38), none, (.pe (.lits 6 [(AM.t 35), (AM.t 37)]))⟩, ⟨(some 39), none, (.pe (.lenL (AM.t 38)))⟩, ⟨(some 40), none, (.pe (.mov (i 0)))⟩]) (.block 2 (.loop l151_0))) (.seq (.reg [m 51 0, ⟨(some 52), none, (.pe (.fldA 17 (AM.t 7)))⟩, ⟨(some 53), none, (.load 1 false (AM.t 52))⟩, m 54 2, ⟨(some 55), none, (.pe (.bin .int .add (AM.t 54) (i 1)))⟩, ⟨(some 56), none, (.call 151 [(AM.t 51), (AM.t 53), (AM.t 55)])⟩]) (.reg [m 57 0, ⟨(some 58), none, (.pe (.fldA 18 (AM.t 7)))⟩, ⟨(some 59), none, (.load 1 false (AM.t 58))⟩, m 60 2, ⟨(some 61), none, (.pe (.bin .int .add (AM.t 60) (i 1)))⟩, ⟨(some 62), none, (.call 151 [(AM.t 57), (AM.t 59), (AM.t 61)])⟩]))) e [] s Q := by
   intro e s e0 e2 e7 hs Q hQ
   simp -dsimp -implicitDefEqProofs [e0, e2, e7]
   refine range_at (ei := 2) (bi := 3) (d := 41) (x := 40) (n := 39) (y := 50) 2 (fun j e s => Own st o (Ms (n1 + 1 + (if j = 0 then 0 else if j = 1 then enx else enx + eny)) ((ov1 || decide (30 < d)) || (if j = 0 then false else if j = 1 then eox else eox || eoy))) s) (by decide) (by simp) (by simp) (by simpa using z8 hs _) rfl (fun j e e' s k h _ => z8 h k) ?_ ?_
   ·rintro j e1 s1 hj hf1 hx1 hI1
    have f0 : e1 0 = .ptr o 0 := by rw [hf1 0 rfl]; simp [e0]
    have f38 : e1 38 = .sl [AV.int IntKind.i64 xk, AV.int IntKind.i64 xo, AV.int IntKind.i64 xt, AV.str xn, AV.int IntKind.i32 xv, AV.sl xc xa.length Perm.no, AV.int IntKind.i64 yk, AV.int IntKind.i64 yo, AV.int IntKind.i64 yt, AV.str yn, AV.int IntKind.i32 yv, AV.sl yc ya.length Perm.no] 2 .full := by rw [hf1 38 rfl]; simp
    have q0 := zj hI1.wf
    have q := zf hI1.wf
    obtain rfl | rfl : j = 0 ∨ j = 1 := by omega
    ·simp only [if_true, Nat.zero_add, if_neg (show ¬ (1 : Nat) = 0 by decide), Nat.add_zero, Bool.or_false] at *
     simp -dsimp -implicitDefEqProofs [f38, f0, hx1, q0, q, zz]
     refine Br_iff (fun hb => ?_) (fun hb => ?_)
     ·have hk0 : ¬ xk = 0 := by simpa using hb
      rw [if_neg hk0] at hxN hxO
      simp -dsimp -implicitDefEqProofs [f38, f0, hx1, q0, q, zz]
      refine own_call (z8 hI1 _) (hcx 1 _ o _ _ hI1.at_) (by simp [AV.bareL, AV.bare, brx]) fun s2 g0 g1 g2 g3 h2 => ?_
      simp -dsimp -implicitDefEqProofs
      subst hxN; subst hxO
      exact hold (by simpa [Nat.add_assoc, Bool.or_assoc] using h2)
     ·have hk0 : xk = 0 := by simpa using hb
      rw [if_pos hk0] at hxN hxO
      simp -dsimp -implicitDefEqProofs [q0, q, zz]
      subst hxN; subst hxO
      exact hold (by simpa [Nat.add_assoc, Bool.or_assoc] using z8 hI1 7)
    ·simp only [if_true, if_neg (show ¬ (1 : Nat) = 0 by decide), if_neg (show ¬ (1 + 1 : Nat) = 0 by decide), if_neg (show ¬ (1 + 1 : Nat) = 1 by decide)] at *
     simp -dsimp -implicitDefEqProofs [f38, f0, hx1, q0, q, zz]
     refine Br_iff (fun hb => ?_) (fun hb => ?_)
     ·have hk0 : ¬ yk = 0 := by simpa using hb
      rw [if_neg hk0] at hyN hyO
      simp -dsimp -implicitDefEqProofs [f38, f0, hx1, q0, q, zz]
      refine own_call (z8 hI1 _) (hcy 1 _ o _ _ hI1.at_) (by simp [AV.bareL, AV.bare, bry]) fun s2 g0 g1 g2 g3 h2 => ?_
      simp -dsimp -implicitDefEqProofs
      subst hyN; subst hyO
      exact hold (by simpa [Nat.add_assoc, Bool.or_assoc] using h2)
     ·have hk0 : yk = 0 := by simpa using hb
      rw [if_pos hk0] at hyN hyO
      simp -dsimp -implicitDefEqProofs [q0, q, zz]
      subst hyN; subst hyO
      exact hold (by simpa [Nat.add_assoc, Bool.or_assoc] using z8 hI1 7)
   ·rintro e1 s1 hf1 hI1
    have f0 : e1 0 = .ptr o 0 := by rw [hf1 0 rfl]; simp [e0]
    have f2 : e1 2 = vi d := by rw [hf1 2 rfl]; simp [e2]
    have f7 : e1 7 = _ := (hf1 7 rfl).trans (by simp -implicitDefEqProofs only [xu, x7]; exact e7)
    simp -dsimp -implicitDefEqProofs [f0, f2, f7]
    refine own_call (z8 hI1 _) (hmb (incW d) _ o _ _ hI1.at_) (by simp [AV.bareL, AV.bare, bb, incW]) fun s2 g0 g1 g2 g3 h2 => ?_
    simp -dsimp -implicitDefEqProofs [f0, f2, f7]
    refine own_call (z8 h2 _) (hme (incW d) _ o _ _ h2.at_) (by simp [AV.bareL, AV.bare, be, incW]) fun s3 k0 k1 k2 k3 h3 => ?_
    simp -dsimp -implicitDefEqProofs
    exact hQ _ _ (by simpa [Nat.add_assoc, Bool.or_assoc] using h3)
  have fin : ∀ (Y : Bool) (K : Nat), (ov1 || decide (30 < d)) = Y → Own st o (Ms (n1 + 1) (ov1 || decide (30 < d))) ((s.bump K).put o (.cells 207 [vi (wn (n1 + 1)), .bool Y])) := by
   rintro Y K rfl
   exact x8 (z8 hI K) _
  rw [yr]
  simp -dsimp -implicitDefEqProofs [e0, e2, e10, hx, hj, hr, hl, q0, q, zz, -yr]
  rw [yr]
  simp -dsimp -implicitDefEqProofs [e0, e2, e10, q0, q, zz, qo, qlt, zx, zy, wn_inc, -yr]
  rw [yr]
  simp -dsimp -implicitDefEqProofs [e0, e2, e10, q0, q, zz, qo, qlt, zx, zy, wn_inc, -yr]
  refine Br_iff (fun hb => ?_) (fun hb => ?_)
  ·simp -dsimp -implicitDefEqProofs [e0, e2, hb, q0, q, zz, qo, qlt, zx, zy, -yr]
   exact main _ _ (by simp [e0]) (by simp [e2]) (by simp) (fin _ _ (by simp [hb])) _ fun e s h => by
    rw [uw]
    rw [← hn1, ← hov1] at h
    exact hold (by simpa [Nat.add_assoc, Bool.or_assoc] using h)
  ·simp -dsimp -implicitDefEqProofs [e0, e2, hb, q0, q, zz, qo, qlt, zx, zy, -yr]
   exact main _ _ (by simp [e0]) (by simp [e2]) (by simp) (fin _ _ (by simp [hb])) _ fun e s h => by
    rw [uw]
    rw [← hn1, ← hov1] at h
    exact hold (by simpa [Nat.add_assoc, Bool.or_assoc] using h)
 ·rintro e s hf hI
  simp -dsimp -implicitDefEqProofs
  exact vy hwf (by subst hN; subst hX; simpa using hI) (Ms_under _ _ _) (by simp [eraseA, eraseL])
theorem meas_all : ∀ l : List Sm, MeasL w0 base l := by
 have key : ∀ s : Sm, MeasL w0 base s.body ∧ MeasL w0 base s.els := by
  refine Sm.ind ?_
  intro k op t b n x y body els h1 h2
  exact ⟨meas_list body h1, meas_list els h2⟩
 exact fun l => meas_list l fun s _ => key s
end
section
variable {w0 : World} {base : Nat}
def nodesF (f : Fu) : Nat := nodesSL f.body + nodesE f.ret
def overF (f : Fu) : Bool := decide (8 < f.params.length) || (overSL f.body 1 || overE f.ret 1)
def nodesK (k : Ke) : Nat := (k.funcs.map nodesF).sum + nodesSL k.body
def overK (k : Ke) : Bool := (decide (8 < k.arrays.length) || (decide (8 < k.params.length) || decide (8 < k.funcs.length))) || (k.funcs.any overF || overSL k.body 1)
def withinP (k : Ke) : Bool := !overK k && decide (wn (nodesK k) ≤ 2000)
theorem gt8 (n : Nat) : decide ((8 : Int) < (n : Int)) = decide (8 < n) := decide_eq_decide.2 (by omega)
theorem xb {α : Type} (f : α → List AV) (h : ∀ x, AV.bareL (f x) = f x) : ∀ l : List α, AV.bareL (rowOf f l) = rowOf f l
 | [] => by simp [AV.bareL]
 | x :: l => by rw [xj, zm, h, xb f h l]
theorem Pa.bare_cells (x : Pa) : AV.bareL x.cells = x.cells := by simp [Pa.cells, AV.bareL, AV.bare]
theorem Ar.bare_cells (x : Ar) : AV.bareL x.cells = x.cells := by simp [Ar.cells, AV.bareL, AV.bare]
theorem Fu.bare_cells (x : Fu) : AV.bareL x.cells = x.cells := by
 simp [Fu.cells, zm, AV.bareL, AV.bare, Sm.bare_cellsL, Ex.bare_cells, xb _ Pa.bare_cells]
theorem Ke.bare_cells (x : Ke) : AV.bareL x.cells = x.cells := by
 simp [Ke.cells, zm, AV.bareL, AV.bare, Sm.bare_cellsL, xb _ Pa.bare_cells, xb _ Ar.bare_cells, xb _ Fu.bare_cells]
def b121r : SCode := (.seq (.seq (.reg [pE 23 (.fldA 5 (t 1)), oS 24 (.load 1 false (t 23)), pE 25 (.lenL (t 24)), pE 26 (.mov (i 0))]) (.block 0 (.loop l121_0))) (.seq (.reg [pE 46 (.fldA 6 (t 1)), oS 47 (.load 1 false (t 46)), oS 48 (.call 151 [(t 3), (t 47), (i 1)])]) (.seq (.reg [pE 49 (.fldA 1 (t 3)), oS 50 (.load 1 false (t 49)), pE 51 (.un .not (t 50)), m 52 51, pG 53 52 true (.fldA 0 (t 3)), oG 54 52 true (.load 1 false (t 53)), pG 55 52 true (.bin .int .leq (t 54) (i 2000)), pE 56 (.pick (t 52) (t 55) (.lit (.bool false))), m 2 56]) .ret)))
theorem m121 {st stB s : St} {o : Nat} {e : Env} {nm : Str} {grp sub : Int} {ca cp : List AV} {la lp : Nat} {fs : List Fu} {body : List Sm} {X : Bool} {R : AV} (hwf : st.wf) (hB : ∀ p, p < st.next → stB.objs p = st.objs p) (hBn : st.next ≤ stB.next) (ho : st.next ≤ o) (hlen : fs.length ≤ 140737488355328)
  (e1 : e 1 = .iptr [.str nm, vi grp, vi sub, .sl ca la .no, .sl cp lp .no, .sl (rowOf Fu.cells fs) fs.length .no, .sl (Sm.cellsL body) body.length .no] 0) (e3 : e 3 = .ptr o 0) (hO : Own stB o (Ms 0 X) s)
  (hR : R = .bool (!(X || (fs.any overF || overSL body 1)) && decide (wn ((fs.map nodesF).sum + nodesSL body) ≤ 2000))) : awp Tryz.prog w0 base b121r e [] s (Ends Tryz.prog w0 base [SRes.tmp 2] st R st) := by
 have hrow := fun j x => @yg _ Fu.cells 10 Fu.cells_len fs j x
 have hle := fun j x => @ye _ Fu.cells 10 Fu.cells_len fs j x
 have hmb : MeasL w0 base body := meas_all body
 unfold MeasL at hmb
 have bb := Sm.bare_cellsL body
 generalize rowOf Fu.cells fs = cf at *
 generalize Sm.cellsL body = cb at *
 unfold b121r
 simp -dsimp -implicitDefEqProofs [e1, e3]
 refine y1 (d := 27) (x := 26) (n := 25) (y := 45) fs.length (fun j e s => Own stB o (Ms ((fs.take j).map nodesF).sum (X || (fs.take j).any overF)) s) hlen (by simp) (by simp) (by simpa using z8 hO _) rfl (fun j e e' s k h _ => z8 h k) ?_ ?_
 ·rintro j e' s' hj hf hx hI
  have f3 : e' 3 = .ptr o 0 := by rw [hf 3 rfl]; simp [e3]
  have f24 : e' 24 = .sl cf fs.length .no := by rw [hf 24 rfl]; simp
  obtain ⟨y, hy⟩ : ∃ y, fs[j]? = some y := ⟨_, List.getElem?_eq_getElem hj⟩
  have hr := hrow j y hy
  have hl := hle j y hy
  have ht : fs.take (j + 1) = fs.take j ++ [y] := by rw [List.take_add_one, hy]; rfl
  rw [ht, List.map_append, List.sum_append, List.any_append]
  generalize hn1 : ((fs.take j).map nodesF).sum = n1 at *
  generalize hx1 : (X || (fs.take j).any overF) = x1 at *
  have hx1' : ∀ b, (X || ((fs.take j).any overF || b)) = (x1 || b) := by intro b; rw [← Bool.or_assoc, hx1]
  obtain ⟨fn, fp, ft, fb, fr⟩ := y
  have hmf : MeasL w0 base fb := meas_all fb
  unfold MeasL at hmf
  have hmr := d152 (w0 := w0) (base := base) fr
  have bfb := Sm.bare_cellsL fb
  obtain ⟨rk, ro, rt, rn, rv, ra⟩ := fr
  have bra := Ex.bare_cellsL ra
  simp only [Fu.cells, Ex.cells, List.cons_append, List.nil_append, List.map_cons, List.map_nil, List.any_cons, List.any_nil, List.sum_cons, List.sum_nil, nodesF, overF] at *
  generalize nodesE (Ex.mk rk ro rt rn rv ra) = nr at *
  generalize overE (Ex.mk rk ro rt rn rv ra) = orr at *
  generalize Ex.cellsL ra = cra at *
  generalize Sm.cellsL fb = cfb at *
  generalize nodesSL fb = nfb at *
  generalize overSL fb = ofb at *
  generalize rowOf Pa.cells fp = cfp at *
  have q0 := zj hI.wf
  have q := zf hI.wf
  have qlt := Nat.lt_of_lt_of_le hI.lt hI.next
  have qo : s'.objs o = some (.cells 207 [vi (wn n1), .bool x1]) := hI.at_
  have h2 : ∀ K, Own stB o (Ms n1 (x1 || decide (8 < fp.length))) ((s'.bump K).put o (.cells 207 [vi (wn n1), .bool (x1 || decide (8 < fp.length))])) := fun K => x8 (z8 hI K) _
  have main : ∀ (e : Env) (s : St), e 3 = .ptr o 0 → e 5 = .iptr [.str fn, .sl cfp fp.length .no, vi ft, .sl cfb fb.length .no, vi rk, vi ro, vi rt, .str rn, .int .i32 rv, .sl cra ra.length .no] 0 → Own stB o (Ms n1 (x1 || decide (8 < fp.length))) s → ∀ Q : CK, (∀ e s, Own stB o (Ms (n1 + (nfb + nr + 0)) (x1 || ((decide (8 < fp.length) || (ofb 1 || orr 1)) || false))) s → Q .normal e [] s) →
   awp Tryz.prog w0 base ((.seq (.reg [⟨(some 39), none, (.pe (.fldA 3 (t 5)))⟩, ⟨(some 40), none, (.load 1 false (t 39))⟩, ⟨(some 41), none, (.call 151 [(t 3), (t 40), (i 1)])⟩]) (.reg [⟨(some 42), none, (.pe (.fldA 4 (t 5)))⟩, ⟨(some 43), none, (.load 6 true (t 42))⟩, ⟨(some 44), none, (.call 152 [(t 3), (t 43), (i 1)])⟩]))) e [] s Q := by
   intro e s e3 e5 hs Q hQ
   simp -dsimp -implicitDefEqProofs [e3, e5]
   refine own_call (z8 hs _) (hmf 1 _ o _ _ hs.at_) (by simp [AV.bareL, AV.bare, bfb]) fun s2 g0 g1 g2 g3 h2 => ?_
   simp -dsimp -implicitDefEqProofs [e3, e5]
   refine own_call (z8 h2 _) (hmr 1 _ o _ _ h2.at_) (by simp [AV.bareL, AV.bare, bra]) fun s3 k0 k1 k2 k3 h3 => ?_
   simp -dsimp -implicitDefEqProofs
   exact hQ _ _ (by simpa [Nat.add_assoc, Bool.or_assoc] using h3)
  rw [yr]
  simp -dsimp -implicitDefEqProofs [f3, f24, hx, hj, hr, hl, q0, q, zz, -yr]
  rw [yr]
  cases x1
  ·simp -dsimp -implicitDefEqProofs [f3, q0, q, zz, qo, qlt, zx, zy, gt8, -yr]
   refine main _ _ (by simp [f3]) (by simp) ?_ _ fun e s h => ?_
   ·simpa using h2 _
   ·rw [uw]
    exact hold (by simpa [Nat.add_assoc, Bool.or_assoc, hx1'] using h)
  ·simp -dsimp -implicitDefEqProofs [f3, q0, q, zz, qo, qlt, zx, zy, gt8, -yr]
   refine main _ _ (by simp [f3]) (by simp) ?_ _ fun e s h => ?_
   ·simpa using h2 _
   ·rw [uw]
    exact hold (by simpa [Nat.add_assoc, Bool.or_assoc, hx1'] using h)
 ·rintro e' s' hf hI
  rw [List.take_length] at hI
  have f3 : e' 3 = .ptr o 0 := by rw [hf 3 rfl]; simp [e3]
  have f1 := (hf 1 rfl).trans (by simp -implicitDefEqProofs only [xu, x7]; exact e1)
  simp -dsimp -implicitDefEqProofs [f1, f3]
  refine own_call (z8 hI _) (hmb 1 _ o _ _ hI.at_) (by simp [AV.bareL, AV.bare, bb]) fun s2 g0 g1 g2 g3 h2 => ?_
  generalize hn1 : (fs.map nodesF).sum + nodesSL body = n1 at *
  generalize hx1 : ((X || fs.any overF) || overSL body 1) = x1 at *
  have qo : s2.objs o = some (.cells 207 [vi (wn n1), .bool x1]) := g2
  have hfin : ∀ K p, p < st.next → (s2.bump K).objs p = st.objs p := fun K p hp => by
   rw [bump_objs, h2.old p (by omega) (by omega), hB p hp]
  rw [Bool.or_assoc] at hx1
  rw [hx1] at hR
  subst hR
  cases x1
  ·simp -dsimp -implicitDefEqProofs [f3, qo]
   exact zg hwf (hfin _) (by simp [eraseA])
  ·simp -dsimp -implicitDefEqProofs [f3, qo]
   exact zg hwf (hfin _) (by simp [eraseA])
theorem d121 (st : St) (k : Ke) : Det Tryz.prog w0 base 121 [.agg k.cells] st (.bool (withinP k)) st := by
 refine zh (zp Tryz.func121 r121) fun hwf hfit => z6 Tryz.func121 r121 rfl ?_
 obtain ⟨nm, grp, sub, ars, prs, fs, body⟩ := k
 have hlen : fs.length ≤ big := by
  have := hfit.1
  simp only [Ke.cells, AV.fit, AV.fitL] at this
  exact this.2.2.2.2.2.1.1
 unfold big at hlen
 clear hfit
 have hn0 := zj hwf
 have hn := zf hwf
 generalize hR : AV.bool (withinP (Ke.mk nm grp sub ars prs fs body)) = R
 simp only [withinP, overK, nodesK] at hR
 simp only [Ke.cells]
 generalize rowOf Pa.cells prs = cp at *
 generalize rowOf Ar.cells ars = ca at *
 generalize hX : (decide (8 < ars.length) || (decide (8 < prs.length) || decide (8 < fs.length))) = X at hR
 have hO : ∀ K, Own ((st.bump 3).put (st.next + 2) (Ms 0 false)) (st.next + 2) (Ms 0 X) ((st.bump (3 + K)).put (st.next + 2) (.cells 207 [vi 0, .bool X])) := by
  intro K
  have h1 : Own ((st.bump 3).put (st.next + 2) (Ms 0 false)) (st.next + 2) (Ms 0 false) ((st.bump 3).put (st.next + 2) (Ms 0 false)) := xy (zb (zk hwf) (by simp)) (by simp)
  have := x8 (z8 h1 K) (Ms 0 X)
  simpa [Nat.add_assoc, Ms, wn, yy] using this
 have fin : ∀ (e : Env) (K : Nat), e 1 = .iptr [.str nm, vi grp, vi sub, .sl ca ars.length .no, .sl cp prs.length .no, .sl (rowOf Fu.cells fs) fs.length .no, .sl (Sm.cellsL body) body.length .no] 0 → e 3 = .ptr (st.next + 2) 0 → awp Tryz.prog w0 base b121r e [] ((st.bump (3 + K)).put (st.next + 2) (.cells 207 [vi 0, .bool X])) (Ends Tryz.prog w0 base [SRes.tmp 2] st R st) := by
  intro e K h1 h3
  exact m121 (stB := (st.bump 3).put (st.next + 2) (Ms 0 false)) hwf (fun p hp => by simp [hp, zx]) (by simp) (by omega) hlen h1 h3 (hO K) hR.symm
 clear hO hR
 generalize rowOf Fu.cells fs = cf at *
 generalize Sm.cellsL body = cb at *
 generalize hb1 : decide (8 < ars.length) = b1 at *
 generalize hb2 : decide (8 < prs.length) = b2 at *
 generalize hb3 : decide (8 < fs.length) = b3 at *
 subst hX
 unfold b121
 simp -dsimp -implicitDefEqProofs [hn0, hn, zz, gt8, hb1, hb2, hb3]
 cases b1 <;> cases b2 <;> cases b3
 all_goals
  simp -dsimp -implicitDefEqProofs [hn0, hn, zz, gt8, hb1, hb2, hb3, -yr]
  exact fin _ 18 (by simp) (by simp)
end
section
variable {w0 : World} {base : Nat}
def paP (x : Pa) : Str × Bool := paramP x.name x.typ
def functionP (f : Fu) : Str × Bool := cats ([([102, 117, 110, 99, 32], false), (f.name, !isNameP f.name), ([40], false)] ++ (commas 0 (f.params.map paP) ++ [([41, 32], false), pickP wTypes (subW f.typ 1), ([32, 123, 10], false), bodyP [32, 32] f.body, ([32, 32, 114, 101, 116, 117, 114, 110, 32], false), exprP f.ret, ([10, 125, 10], false)]))
theorem wr_function (hT : Tabs w0 base) (o : Nat) (f : Fu) (hb : Sm.okL f.body) (hr : f.ret.ok) : Wr w0 base 129 o [.agg f.cells] (functionP f) := by
 obtain ⟨nm, ps, ty, body, ret⟩ := f
 have wb := wr_body (w0 := w0) (base := base) hT o body hb [32, 32]
 have we := xq (w0 := w0) (base := base) hT o ret hr
 refine yx _ rfl fun st tk goal hn0 hn p0 => za Tryz.func129 r129 rfl ?_
 have hlen : ps.length ≤ 140737488355328 := by
  have h1 := pc_len p0
  have h2 := (commas_len (ps.map paP) 0).1
  simp only [cats_app, cats_cons, cat, List.length_append, List.length_map, List.length_cons, List.length_nil] at h1 h2
  omega
 have hrow := fun j x => @yg _ Pa.cells 2 Pa.cells_len ps j x
 have hle := fun j x => @ye _ Pa.cells 2 Pa.cells_len ps j x
 have bb := Sm.bare_cellsL body
 obtain ⟨rk, ro, rt, rn, rv, ra⟩ := ret
 have bra := Ex.bare_cellsL ra
 simp only [Fu.cells, Ex.cells, List.cons_append, List.nil_append] at *
 generalize Ex.cellsL ra = cra at *
 generalize Sm.cellsL body = cb at *
 generalize rowOf Pa.cells ps = cp at *
 unfold b129
 simp -dsimp -implicitDefEqProofs [hn0, hn, zz]
 refine zq (yp o [[102, 117, 110, 99, 32]] (by simp)) (by simp [AV.bareL, AV.bare, strs, bb, bra]) (zr p0 _) fun s1 f1 g1 p1 => ?_
 simp -dsimp -implicitDefEqProofs [f1, g1, zz]
 refine zq (uv o nm) (by simp [AV.bareL, AV.bare, bb, bra]) (zr p1 _) fun s2 f2 g2 p2 => ?_
 simp -dsimp -implicitDefEqProofs [f2, g2, zz]
 refine zq (yp o [[40]] (by simp)) (by simp [AV.bareL, AV.bare, strs, bb, bra]) (zr p2 _) fun s3 f3 g3 p3 => ?_
 simp -dsimp -implicitDefEqProofs [f3, g3, zz]
 refine y1 (d := 20) (x := 19) (n := 18) (y := 32) ps.length (fun j e s => Pc st tk o goal (commas j ((ps.map paP).drop j) ++ [([41, 32], false), pickP wTypes (subW ty 1), ([32, 123, 10], false), bodyP [32, 32] body, ([32, 32, 114, 101, 116, 117, 114, 110, 32], false), exprP (Ex.mk rk ro rt rn rv ra), ([10, 125, 10], false)]) s) hlen rfl rfl (zr p3 _) rfl (fun j e e' s k h _ => zr h k) ?_ ?_
 ·rintro j e s hj hf hx hI
  have e17 : e 17 = .sl cp ps.length .no := by rw [hf 17 rfl]; simp
  have e0 : e 0 = .ptr o 0 := by rw [hf 0 rfl]; simp
  obtain ⟨y, hy⟩ : ∃ y, ps[j]? = some y := ⟨_, List.getElem?_eq_getElem hj⟩
  have hr := hrow j y hy
  have hl := hle j y hy
  have q0 := zj hI.wf
  have q := zf hI.wf
  have hdrop : (ps.map paP).drop j = paP y :: (ps.map paP).drop (j + 1) := by
   have hj' : j < (ps.map paP).length := by simpa using hj
   have hy' : ps[j] = y := by simpa [hj] using hy
   rw [List.drop_eq_getElem_cons hj', List.getElem_map, hy']
  rw [hdrop] at hI
  obtain ⟨yn, yt⟩ := y
  simp only [Pa.cells] at hr
  simp -dsimp -implicitDefEqProofs [e17, e0, hx, hj, hr, hl, q0, q, zz]
  cases j with
  | zero =>
   simp -dsimp -implicitDefEqProofs [e0, q0, q, zz]
   refine zq (wr_param o yn yt) (by simp [AV.bareL, AV.bare, e0]) (zr hI _) fun s1 f1 g1 p1 => ?_
   simp -dsimp -implicitDefEqProofs [f1, g1, zz]
   exact hold p1
  | succ j =>
   simp -dsimp -implicitDefEqProofs [e0, q0, q, zz]
   refine zq (yp o [[44, 32]] (by simp)) (by simp [AV.bareL, AV.bare, strs, e0]) (zr hI _) fun s1 f1 g1 p1 => ?_
   simp -dsimp -implicitDefEqProofs [e0, f1, g1, zz]
   refine zq (wr_param o yn yt) (by simp [AV.bareL, AV.bare, e0]) (zr p1 _) fun s2 f2 g2 p2 => ?_
   simp -dsimp -implicitDefEqProofs [f2, g2, zz]
   exact hold p2
 ·rintro e s hf hI
  have e0 : e 0 = .ptr o 0 := by rw [hf 0 rfl]; simp
  have e3 := (hf 3 rfl).trans (by simp -implicitDefEqProofs only [xu, x7]; rfl)
  have p0 : Pc st tk o goal [([41, 32], false), pickP wTypes (subW ty 1), ([32, 123, 10], false), bodyP [32, 32] body, ([32, 32, 114, 101, 116, 117, 114, 110, 32], false), exprP (Ex.mk rk ro rt rn rv ra), ([10, 125, 10], false)] s := by simpa [commas, List.drop_of_length_le] using hI
  have hn0 := zj hI.wf
  have hn := zf hI.wf
  simp -dsimp -implicitDefEqProofs [hn0, hn, zz, e0, e3]
  refine zq (yp o [[41, 32]] (by simp)) (by simp [AV.bareL, AV.bare, strs, bb, bra, e0]) (zr p0 _) fun s1 f1 g1 p1 => ?_
  simp -dsimp -implicitDefEqProofs [f1, g1, zz, e0, e3]
  refine zt (d156 _) ?_
  simp -dsimp -implicitDefEqProofs [f1, g1, zz, e0, e3]
  refine zq (uu o wTypes _) (by simp [AV.bareL, AV.bare, wz, subW, wTypes, strs, bb, bra, e0]) (zr p1 _) fun s2 f2 g2 p2 => ?_
  simp -dsimp -implicitDefEqProofs [f2, g2, zz, e0, e3]
  refine zq (yp o [[32, 123, 10]] (by simp)) (by simp [AV.bareL, AV.bare, strs, bb, bra, e0]) (zr p2 _) fun s3 f3 g3 p3 => ?_
  simp -dsimp -implicitDefEqProofs [f3, g3, zz, e0, e3]
  refine zq (wb) (by simp [AV.bareL, AV.bare, bb, bra, e0]) (zr p3 _) fun s4 f4 g4 p4 => ?_
  simp -dsimp -implicitDefEqProofs [f4, g4, zz, e0, e3]
  refine zq (yp o [[32, 32, 114, 101, 116, 117, 114, 110, 32]] (by simp)) (by simp [AV.bareL, AV.bare, strs, bb, bra, e0]) (zr p4 _) fun s5 f5 g5 p5 => ?_
  simp -dsimp -implicitDefEqProofs [f5, g5, zz, e0, e3]
  refine zq (we) (by simp [AV.bareL, AV.bare, bb, bra, e0]) (zr p5 _) fun s6 f6 g6 p6 => ?_
  simp -dsimp -implicitDefEqProofs [f6, g6, zz, e0, e3]
  refine zq (yp o [[10, 125, 10]] (by simp)) (by simp [AV.bareL, AV.bare, strs, bb, bra, e0]) (zr p6 _) fun s7 f7 g7 p7 => ?_
  simp -dsimp -implicitDefEqProofs [f7, g7, zz, e0, e3]
  exact xz p7
end
section
variable {w0 : World} {base : Nat}
def arrPs : Ar → List (Str × Bool) := fun a : Ar => [pickP wSpaces (subW a.space 1), ([32], false), paramP a.name a.typ, ([32] ++ (Lib.itoa a.len ++ [10]), false)]
def parPs : Pa → List (Str × Bool) := fun p : Pa => [([112, 97, 114, 97, 109, 32], false), paP p, ([10], false)]
def funPs : Fu → List (Str × Bool) := fun f : Fu => [([], anyImpure f.body), functionP f]
def headP (g s : Int) : Str := [32, 103, 114, 111, 117, 112, 32] ++ (Lib.itoa g ++ ([32, 115, 117, 98, 32] ++ (Lib.itoa s ++ [10])))
def endPs (k : Ke) : List (Str × Bool) := [blockP [] (bodyP [32, 32] k.body), ([10], false)]
def textPs (k : Ke) : List (Str × Bool) := ([107, 101, 114, 110, 101, 108, 32], false) :: (k.name, !isNameP k.name) :: (headP k.group k.sub, false) :: (k.arrays.flatMap arrPs ++ (k.params.flatMap parPs ++ (k.funcs.flatMap funPs ++ endPs k)))
def kernelP (k : Ke) : Str × Bool := cats (textPs k)
def i64ok (n : Int) : Prop := -9223372036854775808 ≤ n ∧ n ≤ 9223372036854775807
structure Ke.ok (k : Ke) : Prop where
 group : i64ok k.group
 sub : i64ok k.sub
 arrays : ∀ a ∈ k.arrays, i64ok a.len
 funcs : ∀ f ∈ k.funcs, Sm.okL f.body ∧ f.ret.ok
 body : Sm.okL k.body
theorem drop_flat {α β : Type} (g : α → List β) (l : List α) (j : Nat) (y : α) (h : l[j]? = some y) : (l.drop j).flatMap g = g y ++ (l.drop (j + 1)).flatMap g := by
 obtain ⟨hlt, e⟩ := List.getElem?_eq_some_iff.1 h
 rw [List.drop_eq_getElem_cons hlt, e, List.flatMap_cons]
def b74e : SCode := (.seq (.reg [m 103 4, pE 104 (.fldA 6 (t 1)), oS 105 (.load 1 false (t 104)), oS 106 (.call 130 [(t 103), (t 105), (.lit (.str []))])]) (.seq (.reg [m 107 4, pE 108 (.lits 1 [(.lit (.str [10]))]), oS 109 (.call 122 [(t 107), (t 108)])]) (.seq (.draw [0, 1, 3, 7, 0, 16, 48, 112, 240, 15, 1023] [0, 1, 2, 3, 4, 5, 6, 7, 8, 9, 10] [m 110 4, pE 111 (.nilck (t 110)), pE 112 (.fldA 0 (t 111)), oS 113 (.call 131 [(t 112)]), m 114 4, pE 115 (.nilck (t 114)), pE 116 (.fldA 2 (t 115)), oS 117 (.load 1 false (t 116)), pE 118 (.un .not (t 117)), m 2 113, m 3 118]) .ret)))
theorem m74e (hT : Tabs w0 base) {st st1 s : St} {tk0 : Option Nat} {o : Nat} {goal : Str × Bool} {e : Env} {k : Ke} (hk : k.ok) (hwf : st.wf) (hB : ∀ p, p < st.next → st1.objs p = st.objs p) (hBn : st.next ≤ st1.next) (ho : st.next ≤ o) (hlo : o < st1.next) (htk : tk0 = none) (hg : goal.1 ≠ [])
  (e1 : e 1 = .iptr k.cells 0) (e4 : e 4 = .ptr o 0) (p0 : Pc st1 tk0 o goal (endPs k) s) : awp Tryz.prog w0 base b74e e [] s (Ends Tryz.prog w0 base [SRes.tmp 2, SRes.tmp 3] st (.tuple [.str goal.1, .bool (!goal.2)]) st) := by
 have wb := wr_braces (w0 := w0) (base := base) hT o k.body hk.body []
 have bb := Sm.bare_cellsL k.body
 have hn0 := zj p0.wf
 have hn := zf p0.wf
 simp only [Ke.cells, endPs] at *
 generalize Sm.cellsL k.body = cb at *
 generalize rowOf Fu.cells k.funcs = cf at *
 generalize rowOf Ar.cells k.arrays = ca at *
 generalize rowOf Pa.cells k.params = cp at *
 unfold b74e
 simp -dsimp -implicitDefEqProofs [hn0, hn, zz, e1, e4]
 refine zq (wb) (by simp [AV.bareL, AV.bare, bb, e4]) (zr p0 _) fun s1 f1 g1 p1 => ?_
 simp -dsimp -implicitDefEqProofs [f1, g1, zz, e1, e4]
 refine zq (yp o [[10]] (by simp)) (by simp [AV.bareL, AV.bare, strs, bb, e4]) (zr p1 _) fun s2 f2 g2 p2 => ?_
 simp -dsimp -implicitDefEqProofs [f2, g2, zz, e1, e4]
 obtain ⟨tk, txt, bad, h1, h2, h3, h4⟩ := p2.ex
 simp only [cats_nil, List.append_nil, Bool.or_false] at h3 h4
 subst h4
 obtain ⟨t, rfl⟩ : ∃ t, tk = some t := by
  cases tk with
  | some t => exact ⟨t, rfl⟩
  | none =>
   obtain ⟨a, p, _, _, ht⟩ := h1.bd.obj
   exact absurd (h3 ▸ ht.2) hg
 obtain ⟨a, p, _, hob, hp, hto, htt⟩ := h1.bd.obj
 have hot : ¬ o = t := fun e => hto e.symm
 refine zt (d131 (T := 179) (rest := [.bool goal.2]) (t := t) (txt := txt) (bd_bump h1.bd _) (by rw [h3]; exact hg)) ?_
 simp -dsimp -implicitDefEqProofs [e1, e4, hob, hot, f2, g2]
 rw [h3]
 refine zg hwf (fun q hq => ?_) (by simp [eraseA, eraseL])
 have hqt : ¬ q = t := by
  rintro rfl
  rcases h2.tok with e | ⟨q', e, hq'⟩
  ·rw [htk] at e; cases e
  ·cases e; omega
 simp only [del_objs, bump_objs, if_neg hqt]
 rw [h2.same q (by omega) (by omega) (by rw [htk]; simp), hB q hq]
def b74f : SCode := (.seq (.seq (.reg [pE 79 (.fldA 5 (t 1)), oS 80 (.load 1 false (t 79)), pE 81 (.lenL (t 80)), pE 82 (.mov (i 0))]) (.block 4 (.loop l74_0))) (.seq (.reg [m 103 4, pE 104 (.fldA 6 (t 1)), oS 105 (.load 1 false (t 104)), oS 106 (.call 130 [(t 103), (t 105), (.lit (.str []))])]) (.seq (.reg [m 107 4, pE 108 (.lits 1 [(.lit (.str [10]))]), oS 109 (.call 122 [(t 107), (t 108)])]) (.seq (.draw [0, 1, 3, 7, 0, 16, 48, 112, 240, 15, 1023] [0, 1, 2, 3, 4, 5, 6, 7, 8, 9, 10] [m 110 4, pE 111 (.nilck (t 110)), pE 112 (.fldA 0 (t 111)), oS 113 (.call 131 [(t 112)]), m 114 4, pE 115 (.nilck (t 114)), pE 116 (.fldA 2 (t 115)), oS 117 (.load 1 false (t 116)), pE 118 (.un .not (t 117)), m 2 113, m 3 118]) .ret))))
theorem m74f (hT : Tabs w0 base) {st st1 s : St} {tk0 : Option Nat} {o : Nat} {goal : Str × Bool} {e : Env} {k : Ke} (hk : k.ok) (hwf : st.wf) (hB : ∀ p, p < st.next → st1.objs p = st.objs p) (hBn : st.next ≤ st1.next) (ho : st.next ≤ o) (hlo : o < st1.next) (htk : tk0 = none) (hg : goal.1 ≠ [])
  (hla : k.arrays.length ≤ 140737488355328) (hlp : k.params.length ≤ 140737488355328) (hlf : k.funcs.length ≤ 140737488355328) (e1 : e 1 = .iptr k.cells 0) (e4 : e 4 = .ptr o 0) (p0 : Pc st1 tk0 o goal (k.funcs.flatMap funPs ++ (endPs k)) s) :
  awp Tryz.prog w0 base b74f e [] s (Ends Tryz.prog w0 base [SRes.tmp 2, SRes.tmp 3] st (.tuple [.str goal.1, .bool (!goal.2)]) st) := by
 have hrow := fun j x => @yg _ Fu.cells 10 Fu.cells_len k.funcs j x
 have hle := fun j x => @ye _ Fu.cells 10 Fu.cells_len k.funcs j x
 have hl : k.funcs.length ≤ 140737488355328 := by assumption
 have e1' := e1
 simp only [Ke.cells] at e1'
 generalize rowOf Fu.cells k.funcs = cl at *
 unfold b74f
 simp -dsimp -implicitDefEqProofs [e1', e4]
 refine range_at (ei := 4) (bi := 5) (d := 83) (x := 82) (n := 81) (y := 102) k.funcs.length (fun j e s => Pc st1 tk0 o goal ((k.funcs.drop j).flatMap funPs ++ (endPs k)) s) hl (by simp) (by simp) (by simpa using zr p0 _) rfl (fun j e e' s k h _ => zr h k) ?_ ?_
 ·rintro j e' s' hj hf hx hI
  have f80 : e' 80 = .sl cl k.funcs.length .no := by rw [hf 80 rfl]; simp
  have f4 : e' 4 = .ptr o 0 := by rw [hf 4 rfl]; simp [e4]
  obtain ⟨y, hy⟩ : ∃ y, k.funcs[j]? = some y := ⟨_, List.getElem?_eq_getElem hj⟩
  have hr := hrow j y hy
  have hl := hle j y hy
  have hmem := List.mem_of_getElem? hy
  have hn0 := zj hI.wf
  have hn := zf hI.wf
  rw [drop_flat funPs _ j y hy, List.append_assoc] at hI
  obtain ⟨hf1, hf2⟩ := hk.funcs y hmem
  have wf := wr_function (w0 := w0) (base := base) hT o y hf1 hf2
  have h128 := fun st => d128 (w0 := w0) (base := base) st y.body
  have byc := Fu.bare_cells y
  have bbo := Sm.bare_cellsL y.body
  have yl := Fu.cells_len y
  have yt : y.cells.take 10 = y.cells := List.take_of_length_le (by omega)
  have y3 : y.cells[3]? = some (.sl (Sm.cellsL y.body) y.body.length .no) := rfl
  have y3' : ∀ h, y.cells[3]'h = .sl (Sm.cellsL y.body) y.body.length .no := fun _ => rfl
  simp only [funPs, List.cons_append, List.nil_append] at hI
  generalize y.cells = yc at *
  generalize Sm.cellsL y.body = cb at *
  generalize anyImpure y.body = im at *
  obtain ⟨u, w, bad, hob, hlt, hput⟩ := vw hI
  have hob1 := hlt
  simp -dsimp -implicitDefEqProofs [f80, f4, hx, hj, hr, hl, hn0, hn, zz, hob, yl]
  cases bad
  ·simp -dsimp -implicitDefEqProofs [f80, f4, hn0, hn, zz, hob, hlt, zx, zy, yl, y3, y3']
   refine zo (h128 _) (by simp [AV.bareL, AV.bare, bbo]) ?_
   simp -dsimp -implicitDefEqProofs [f80, f4, hn0, hn, zz, hob, hlt, zx, zy, yl, yt]
   refine zq wf (by simp [AV.bareL, AV.bare, byc, f4]) (hput _ _ _ _ rfl (by simp)) fun s2 f2 g2 p2 => ?_
   simp -dsimp -implicitDefEqProofs [f2, g2]
   exact hold p2
  ·simp -dsimp -implicitDefEqProofs [f80, f4, hn0, hn, zz, hob, hlt, zx, zy, yl, yt]
   refine zq wf (by simp [AV.bareL, AV.bare, byc, f4]) (hput _ _ _ _ rfl (by simp)) fun s2 f2 g2 p2 => ?_
   simp -dsimp -implicitDefEqProofs [f2, g2]
   exact hold p2
 ·rintro e' s' hf hI
  have f4 : e' 4 = .ptr o 0 := by rw [hf 4 rfl]; simp [e4]
  have f1 : e' 1 = .iptr k.cells 0 := (hf 1 rfl).trans (by simp -implicitDefEqProofs only [xu, x7]; exact e1)
  have hI' : Pc st1 tk0 o goal (endPs k) s' := by simpa using hI
  simp -dsimp -implicitDefEqProofs [-yr]
  exact m74e hT hk hwf hB hBn ho hlo htk hg f1 f4 hI'
def b74p : SCode := (.seq (.seq (.reg [pE 62 (.fldA 4 (t 1)), oS 63 (.load 1 false (t 62)), pE 64 (.lenL (t 63)), pE 65 (.mov (i 0))]) (.block 2 (.loop l74_1))) (.seq (.seq (.reg [pE 79 (.fldA 5 (t 1)), oS 80 (.load 1 false (t 79)), pE 81 (.lenL (t 80)), pE 82 (.mov (i 0))]) (.block 4 (.loop l74_0))) (.seq (.reg [m 103 4, pE 104 (.fldA 6 (t 1)), oS 105 (.load 1 false (t 104)), oS 106 (.call 130 [(t 103), (t 105), (.lit (.str []))])]) (.seq (.reg [m 107 4, pE 108 (.lits 1 [(.lit (.str [10]))]), oS 109 (.call 122 [(t 107), (t 108)])]) (.seq (.draw [0, 1, 3, 7, 0, 16, 48, 112, 240, 15, 1023] [0, 1, 2, 3, 4, 5, 6, 7, 8, 9, 10] [m 110 4, pE 111 (.nilck (t 110)), pE 112 (.fldA 0 (t 111)), oS 113 (.call 131 [(t 112)]), m 114 4, pE 115 (.nilck (t 114)), pE 116 (.fldA 2 (t 115)), oS 117 (.load 1 false (t 116)), pE 118 (.un .not (t 117)), m 2 113, m 3 118]) .ret)))))
theorem m74p (hT : Tabs w0 base) {st st1 s : St} {tk0 : Option Nat} {o : Nat} {goal : Str × Bool} {e : Env} {k : Ke} (hk : k.ok) (hwf : st.wf) (hB : ∀ p, p < st.next → st1.objs p = st.objs p) (hBn : st.next ≤ st1.next) (ho : st.next ≤ o) (hlo : o < st1.next) (htk : tk0 = none) (hg : goal.1 ≠ [])
  (hla : k.arrays.length ≤ 140737488355328) (hlp : k.params.length ≤ 140737488355328) (hlf : k.funcs.length ≤ 140737488355328) (e1 : e 1 = .iptr k.cells 0) (e4 : e 4 = .ptr o 0) (p0 : Pc st1 tk0 o goal (k.params.flatMap parPs ++ (k.funcs.flatMap funPs ++ endPs k)) s) :
  awp Tryz.prog w0 base b74p e [] s (Ends Tryz.prog w0 base [SRes.tmp 2, SRes.tmp 3] st (.tuple [.str goal.1, .bool (!goal.2)]) st) := by
 have hrow := fun j x => @yg _ Pa.cells 2 Pa.cells_len k.params j x
 have hle := fun j x => @ye _ Pa.cells 2 Pa.cells_len k.params j x
 have hl : k.params.length ≤ 140737488355328 := by assumption
 have e1' := e1
 simp only [Ke.cells] at e1'
 generalize rowOf Pa.cells k.params = cl at *
 unfold b74p
 simp -dsimp -implicitDefEqProofs [e1', e4]
 refine range_at (ei := 2) (bi := 3) (d := 66) (x := 65) (n := 64) (y := 78) k.params.length (fun j e s => Pc st1 tk0 o goal ((k.params.drop j).flatMap parPs ++ (k.funcs.flatMap funPs ++ endPs k)) s) hl (by simp) (by simp) (by simpa using zr p0 _) rfl (fun j e e' s k h _ => zr h k) ?_ ?_
 ·rintro j e' s' hj hf hx hI
  have f63 : e' 63 = .sl cl k.params.length .no := by rw [hf 63 rfl]; simp
  have f4 : e' 4 = .ptr o 0 := by rw [hf 4 rfl]; simp [e4]
  obtain ⟨y, hy⟩ : ∃ y, k.params[j]? = some y := ⟨_, List.getElem?_eq_getElem hj⟩
  have hr := hrow j y hy
  have hl := hle j y hy
  have hmem := List.mem_of_getElem? hy
  have hn0 := zj hI.wf
  have hn := zf hI.wf
  rw [drop_flat parPs _ j y hy, List.append_assoc] at hI
  obtain ⟨yn, yt⟩ := y
  simp only [parPs, Pa.cells, List.cons_append, List.nil_append] at hI hr
  simp -dsimp -implicitDefEqProofs [hn0, hn, zz, f63, f4, hx, hj, hr, hl]
  refine zq (yp o [[112, 97, 114, 97, 109, 32]] (by simp)) (by simp [AV.bareL, AV.bare, strs, f4]) (zr hI _) fun s1 f1 g1 p1 => ?_
  simp -dsimp -implicitDefEqProofs [f1, g1, zz, f63, f4, hx, hj, hr, hl]
  refine zq (wr_param o yn yt) (by simp [AV.bareL, AV.bare, f4]) (zr p1 _) fun s2 f2 g2 p2 => ?_
  simp -dsimp -implicitDefEqProofs [f2, g2, zz, f63, f4, hx, hj, hr, hl]
  refine zq (yp o [[10]] (by simp)) (by simp [AV.bareL, AV.bare, strs, f4]) (zr p2 _) fun s3 f3 g3 p3 => ?_
  simp -dsimp -implicitDefEqProofs [f3, g3, zz, f63, f4, hx, hj, hr, hl]
  exact hold p3
 ·rintro e' s' hf hI
  have f4 : e' 4 = .ptr o 0 := by rw [hf 4 rfl]; simp [e4]
  have f1 : e' 1 = .iptr k.cells 0 := (hf 1 rfl).trans (by simp -implicitDefEqProofs only [xu, x7]; exact e1)
  have hI' : Pc st1 tk0 o goal (k.funcs.flatMap funPs ++ endPs k) s' := by simpa using hI
  simp -dsimp -implicitDefEqProofs [-yr]
  exact m74f hT hk hwf hB hBn ho hlo htk hg hla hlp hlf f1 f4 hI'
def b74a : SCode := (.seq (.seq (.reg [pE 32 (.fldA 3 (t 1)), oS 33 (.load 1 false (t 32)), pE 34 (.lenL (t 33)), pE 35 (.mov (i 0))]) (.block 0 (.loop l74_2))) (.seq (.seq (.reg [pE 62 (.fldA 4 (t 1)), oS 63 (.load 1 false (t 62)), pE 64 (.lenL (t 63)), pE 65 (.mov (i 0))]) (.block 2 (.loop l74_1))) (.seq (.seq (.reg [pE 79 (.fldA 5 (t 1)), oS 80 (.load 1 false (t 79)), pE 81 (.lenL (t 80)), pE 82 (.mov (i 0))]) (.block 4 (.loop l74_0))) (.seq (.reg [m 103 4, pE 104 (.fldA 6 (t 1)), oS 105 (.load 1 false (t 104)), oS 106 (.call 130 [(t 103), (t 105), (.lit (.str []))])]) (.seq (.reg [m 107 4, pE 108 (.lits 1 [(.lit (.str [10]))]), oS 109 (.call 122 [(t 107), (t 108)])]) (.seq (.draw [0, 1, 3, 7, 0, 16, 48, 112, 240, 15, 1023] [0, 1, 2, 3, 4, 5, 6, 7, 8, 9, 10] [m 110 4, pE 111 (.nilck (t 110)), pE 112 (.fldA 0 (t 111)), oS 113 (.call 131 [(t 112)]), m 114 4, pE 115 (.nilck (t 114)), pE 116 (.fldA 2 (t 115)), oS 117 (.load 1 false (t 116)), pE 118 (.un .not (t 117)), m 2 113, m 3 118]) .ret))))))
theorem m74a (hT : Tabs w0 base) {st st1 s : St} {tk0 : Option Nat} {o : Nat} {goal : Str × Bool} {e : Env} {k : Ke} (hk : k.ok) (hwf : st.wf) (hB : ∀ p, p < st.next → st1.objs p = st.objs p) (hBn : st.next ≤ st1.next) (ho : st.next ≤ o) (hlo : o < st1.next) (htk : tk0 = none) (hg : goal.1 ≠ [])
  (hla : k.arrays.length ≤ 140737488355328) (hlp : k.params.length ≤ 140737488355328) (hlf : k.funcs.length ≤ 140737488355328) (e1 : e 1 = .iptr k.cells 0) (e4 : e 4 = .ptr o 0) (p0 : Pc st1 tk0 o goal (k.arrays.flatMap arrPs ++ (k.params.flatMap parPs ++ (k.funcs.flatMap funPs ++ endPs k))) s) :
  awp Tryz.prog w0 base b74a e [] s (Ends Tryz.prog w0 base [SRes.tmp 2, SRes.tmp 3] st (.tuple [.str goal.1, .bool (!goal.2)]) st) := by
 have hrow := fun j x => @yg _ Ar.cells 4 Ar.cells_len k.arrays j x
 have hle := fun j x => @ye _ Ar.cells 4 Ar.cells_len k.arrays j x
 have hl : k.arrays.length ≤ 140737488355328 := by assumption
 have e1' := e1
 simp only [Ke.cells] at e1'
 generalize rowOf Ar.cells k.arrays = cl at *
 unfold b74a
 simp -dsimp -implicitDefEqProofs [e1', e4]
 refine y1 (d := 36) (x := 35) (n := 34) (y := 61) k.arrays.length (fun j e s => Pc st1 tk0 o goal ((k.arrays.drop j).flatMap arrPs ++ (k.params.flatMap parPs ++ (k.funcs.flatMap funPs ++ endPs k))) s) hl (by simp) (by simp) (by simpa using zr p0 _) rfl (fun j e e' s k h _ => zr h k) ?_ ?_
 ·rintro j e' s' hj hf hx hI
  have f33 : e' 33 = .sl cl k.arrays.length .no := by rw [hf 33 rfl]; simp
  have f4 : e' 4 = .ptr o 0 := by rw [hf 4 rfl]; simp [e4]
  obtain ⟨y, hy⟩ : ∃ y, k.arrays[j]? = some y := ⟨_, List.getElem?_eq_getElem hj⟩
  have hr := hrow j y hy
  have hl := hle j y hy
  have hmem := List.mem_of_getElem? hy
  have hn0 := zj hI.wf
  have hn := zf hI.wf
  rw [drop_flat arrPs _ j y hy, List.append_assoc] at hI
  have hlen := hk.arrays y hmem
  obtain ⟨yn, ys, yt, yl⟩ := y
  simp only [arrPs, Ar.cells, List.cons_append, List.nil_append] at hI hr hlen
  have hm : Wr w0 base 122 o [.sl (strs [[32], Lib.itoa yl, [10]]) 3 .no] ([32] ++ (Lib.itoa yl ++ [10]), false) := by
   have := yp (w0 := w0) (base := base) o [[32], Lib.itoa yl, [10]] (by simp)
   simpa using this
  simp -dsimp -implicitDefEqProofs [hn0, hn, zz, f33, f4, hx, hj, hr, hl]
  refine zt (d126 _) ?_
  simp -dsimp -implicitDefEqProofs [hn0, hn, zz, f33, f4, hx, hj, hr, hl]
  refine zq (uu o wSpaces _) (by simp [AV.bareL, AV.bare, wz, subW, wSpaces, strs, f4]) (zr hI _) fun s1 f1 g1 p1 => ?_
  simp -dsimp -implicitDefEqProofs [f1, g1, zz, f33, f4, hx, hj, hr, hl]
  refine zq (yp o [[32]] (by simp)) (by simp [AV.bareL, AV.bare, strs, f4]) (zr p1 _) fun s2 f2 g2 p2 => ?_
  simp -dsimp -implicitDefEqProofs [f2, g2, zz, f33, f4, hx, hj, hr, hl]
  refine zq (wr_param o yn yt) (by simp [AV.bareL, AV.bare, f4]) (zr p2 _) fun s3 f3 g3 p3 => ?_
  simp -dsimp -implicitDefEqProofs [f3, g3, zz, f33, f4, hx, hj, hr, hl]
  refine zt (d124 hT _ yl hlen.1 hlen.2) ?_
  simp -dsimp -implicitDefEqProofs [f3, g3, zz, f33, f4, hx, hj, hr, hl]
  refine zq (hm) (by simp [AV.bareL, AV.bare, strs, f4]) (zr p3 _) fun s4 f4 g4 p4 => ?_
  simp -dsimp -implicitDefEqProofs [f4, g4, zz, f33, f4, hx, hj, hr, hl]
  exact hold p4
 ·rintro e' s' hf hI
  have f4 : e' 4 = .ptr o 0 := by rw [hf 4 rfl]; simp [e4]
  have f1 : e' 1 = .iptr k.cells 0 := (hf 1 rfl).trans (by simp -implicitDefEqProofs only [xu, x7]; exact e1)
  have hI' : Pc st1 tk0 o goal (k.params.flatMap parPs ++ (k.funcs.flatMap funPs ++ endPs k)) s' := by simpa using hI
  simp -dsimp -implicitDefEqProofs [-yr]
  exact m74p hT hk hwf hB hBn ho hlo htk hg hla hlp hlf f1 f4 hI'
end
section
variable {w0 : World} {base : Nat}
theorem kernelP_ne (k : Ke) : (kernelP k).1 ≠ [] := by simp [kernelP, textPs, cat]
theorem d74 (hT : Tabs w0 base) (st : St) (k : Ke) (hk : k.ok) (hbig : (kernelP k).1.length ≤ 140737488355328) :
  Det Tryz.prog w0 base 74 [.agg k.cells] st (.tuple [.str (if withinP k then (kernelP k).1 else []), .bool (withinP k && !(kernelP k).2)]) st := by
 refine zh (zp Tryz.func74 r74) fun hwf hfit => z6 Tryz.func74 r74 rfl ?_
 obtain ⟨hla, hlp, hlf⟩ : k.arrays.length ≤ 140737488355328 ∧ k.params.length ≤ 140737488355328 ∧ k.funcs.length ≤ 140737488355328 := by
  have := hfit.1
  simp only [Ke.cells, AV.fit, AV.fitL, big] at this
  exact ⟨this.2.2.2.1.1, this.2.2.2.2.1.1, this.2.2.2.2.2.1.1⟩
 clear hfit
 have hw := fun st => d121 (w0 := w0) (base := base) st k
 have hne := kernelP_ne k
 have bk := Ke.bare_cells k
 have hkc : k.cells = [.str k.name, vi k.group, vi k.sub, .sl (rowOf Ar.cells k.arrays) k.arrays.length .no, .sl (rowOf Pa.cells k.params) k.params.length .no, .sl (rowOf Fu.cells k.funcs) k.funcs.length .no, .sl (Sm.cellsL k.body) k.body.length .no] := rfl
 have fin := fun (st1 s : St) (o : Nat) (e : Env) (hB : ∀ p, p < st.next → st1.objs p = st.objs p) (hBn : st.next ≤ st1.next) (ho : st.next ≤ o) (hlo : o < st1.next) (e1 : e 1 = .iptr k.cells 0) (e4 : e 4 = .ptr o 0) p0 =>
  m74a (w0 := w0) (base := base) (s := s) hT (goal := kernelP k) hk hwf hB hBn ho hlo rfl hne hla hlp hlf e1 e4 p0
 have hn0 := zj hwf
 have hn := zf hwf
 generalize hR : (AV.tuple [.str (if withinP k then (kernelP k).1 else []), .bool (withinP k && !(kernelP k).2)]) = R
 generalize hrest : k.arrays.flatMap arrPs ++ (k.params.flatMap parPs ++ (k.funcs.flatMap funPs ++ endPs k)) = rest at *
 have hcat : cats (([107, 101, 114, 110, 101, 108, 32], false) :: (k.name, !isNameP k.name) :: (headP k.group k.sub, false) :: rest) = kernelP k := by subst hrest; rfl
 generalize rowOf Fu.cells k.funcs = cf at *
 generalize rowOf Ar.cells k.arrays = ca at *
 generalize rowOf Pa.cells k.params = cp at *
 generalize Sm.cellsL k.body = cb at *
 rw [hkc] at hw bk ⊢
 generalize withinP k = wi at *
 generalize kernelP k = goal at *
 unfold b74
 simp -dsimp -implicitDefEqProofs [hn0, hn, zz]
 refine zo (hw _) (by simpa [AV.bareL, AV.bare] using bk) ?_
 cases wi
 ·simp -dsimp -implicitDefEqProofs
  subst hR
  exact zn hwf (by simp [eraseA, eraseL])
 ·have hm : Wr w0 base 122 (st.next + 7) [.sl (strs [[32, 103, 114, 111, 117, 112, 32], Lib.itoa k.group, [32, 115, 117, 98, 32], Lib.itoa k.sub, [10]]) 5 .no] (headP k.group k.sub, false) := by
   have := yp (w0 := w0) (base := base) (st.next + 7) [[32, 103, 114, 111, 117, 112, 32], Lib.itoa k.group, [32, 115, 117, 98, 32], Lib.itoa k.sub, [10]] (by simp)
   simpa [headP] using this
  have hwf1 : ((st.bump 9).put (st.next + 7) (.cells 179 [.nilp, .sl [] 0 .full, .bool false])).wf := zb (zk hwf) (by simp)
  have p0 : Pc ((st.bump 9).put (st.next + 7) (.cells 179 [.nilp, .sl [] 0 .full, .bool false])) none (st.next + 7) goal (([107, 101, 114, 110, 101, 108, 32], false) :: (k.name, !isNameP k.name) :: (headP k.group k.sub, false) :: rest) ((st.bump 9).put (st.next + 7) (.cells 179 [.nilp, .sl [] 0 .full, .bool false])) :=
   ⟨⟨none, [], false, ⟨hwf1, ⟨.nilp, .full, .inl rfl, by simp [bytesAV], rfl, rfl⟩⟩, Kp.refl hwf1, by rw [hcat]; rfl, by rw [hcat]; rfl⟩, hbig⟩
  simp -dsimp -implicitDefEqProofs [hn0, hn, zz]
  refine zq (yp (st.next + 7) [[107, 101, 114, 110, 101, 108, 32]] (by simp)) (by simp [AV.bareL, AV.bare, strs]) (zr p0 3) fun s1 f1 g1 p1 => ?_
  simp -dsimp -implicitDefEqProofs [f1, g1, zz]
  refine zq (uv (st.next + 7) k.name) (by simp [AV.bareL, AV.bare]) (zr p1 _) fun s2 f2 g2 p2 => ?_
  simp -dsimp -implicitDefEqProofs [f2, g2, zz]
  refine zt (d124 hT _ k.group hk.group.1 hk.group.2) ?_
  simp -dsimp -implicitDefEqProofs [f2, g2, zz]
  refine zt (d124 hT _ k.sub hk.sub.1 hk.sub.2) ?_
  simp -dsimp -implicitDefEqProofs [f2, g2, zz]
  refine zq hm (by simp [AV.bareL, AV.bare, strs]) (zr p2 _) fun s3 f3 g3 p3 => ?_
  simp -dsimp -implicitDefEqProofs [f3, g3, -yr]
  subst hR
  simp only [if_true, Bool.true_and]
  exact fin _ _ (st.next + 7) _ (fun q hq => by simp [hq, zx]) (by simp) (by omega) (by simp) (by simp [hkc]) (by simp) p3
theorem d45 (hT : Tabs w0 base) (st : St) (k : Ke) (hk : k.ok) (hbig : (kernelP k).1.length ≤ 140737488355328) :
  Det Tryz.prog w0 base 45 [.agg k.cells] st (.bool (withinP k && !(kernelP k).2)) st := by
 refine zh (zp Tryz.func45 r45) fun hwf hfit => z6 Tryz.func45 r45 rfl ?_
 have hc := fun st => d74 (w0 := w0) (base := base) hT st k hk hbig
 have bk := Ke.bare_cells k
 have kl := Ke.cells_len k
 have kt : k.cells.take 7 = k.cells := List.take_of_length_le (by omega)
 have hn0 := zj hwf
 have hn := zf hwf
 generalize k.cells = kc at *
 clear hfit
 unfold b45
 simp -dsimp -implicitDefEqProofs [hn0, hn, zz, kl, kt]
 refine zo (hc _) (by simp [AV.bareL, AV.bare, bk]) ?_
 simp -dsimp -implicitDefEqProofs
 exact zn hwf (by simp [eraseA])
end
section
variable {w0 : World} {base : Nat}
def unOk (op : Int) : Bool := decide (1 ≤ op) && decide (op ≤ 5)
theorem d49z (st : St) (op : Int) : Det Tryz.prog w0 base 49 [vi op, .int .i32 0] st (.tuple [.int .i32 (if op = 2 then -1 else 0), vi (if unOk op then 0 else 1)]) st := by
 refine zh (zp Tryz.func49 r49) fun hwf hfit => z6 Tryz.func49 r49 rfl ?_
 unfold b49
 by_cases h : 1 ≤ op ∧ op ≤ 5
 ·obtain ⟨h1, h2⟩ := h
  have : op = 1 ∨ op = 2 ∨ op = 3 ∨ op = 4 ∨ op = 5 := by omega
  rcases this with rfl | rfl | rfl | rfl | rfl
  all_goals
   simp -dsimp -implicitDefEqProofs [IntKind.wrap, IntKind.signed, IntKind.bits]
   exact zn hwf (by simp [eraseA, eraseL, unOk])
 ·have n1 : (op == 1) = false := by simp; omega
  have n2 : (op == 2) = false := by simp; omega
  have n3 : (op == 3) = false := by simp; omega
  have n4 : (op == 4) = false := by simp; omega
  have n5 : (op == 5) = false := by simp; omega
  have hu : unOk op = false := by simp [unOk]; omega
  have h2 : ¬ op = 2 := by omega
  simp -dsimp -implicitDefEqProofs [n1, n2, n3, n4, n5]
  exact zn hwf (by simp [eraseA, eraseL, hu, h2])
def knownP (t : Int) : Bool := t == 1 || t == 2 || t == 3
def unTypeP (op t : Int) : Int × Int :=
 if !unOk op || !knownP t then (0, 1) else if op = 4 ∧ t = 1 then (2, 0) else if op = 5 ∧ t = 2 then (1, 0)
 else if (op = 2 ∧ t ≠ 2) ∨ ((op = 1 ∨ op = 3) ∧ t ≠ 3) then (t, 0) else (0, 31)
theorem d23 (st : St) (op t : Int) : Det Tryz.prog w0 base 23 [vi op, vi t] st (.tuple [vi (unTypeP op t).1, vi (unTypeP op t).2]) st := by
 refine zh (zp Tryz.func23 r23) fun hwf hfit => z6 Tryz.func23 r23 rfl ?_
 unfold b23
 simp -dsimp -implicitDefEqProofs
 refine zt (d49z _ op) ?_
 by_cases hu : unOk op = true
 ·have : op = 1 ∨ op = 2 ∨ op = 3 ∨ op = 4 ∨ op = 5 := by simp [unOk] at hu; omega
  simp -dsimp -implicitDefEqProofs [hu]
  refine zt (d50 _ t) ?_
  by_cases hk : knownP t = true
  ·have : t = 1 ∨ t = 2 ∨ t = 3 := by simp [knownP] at hk; omega
   rcases this with rfl | rfl | rfl <;> rcases ‹op = 1 ∨ _› with rfl | rfl | rfl | rfl | rfl
   all_goals
    simp -dsimp -implicitDefEqProofs
    exact zn hwf (by simp [eraseA, eraseL, unTypeP, unOk, knownP])
  ·have hk' : knownP t = false := by simpa using hk
   have hk2 : (t == 1 || t == 2 || t == 3) = false := hk'
   simp -dsimp -implicitDefEqProofs [hk2]
   exact zn hwf (by simp [eraseA, eraseL, unTypeP, hk'])
 ·have hu' : unOk op = false := by simpa using hu
  simp -dsimp -implicitDefEqProofs [hu']
  exact zn hwf (by simp [eraseA, eraseL, unTypeP, hu'])
def binOk (op : Int) : Bool := decide (10 ≤ op) && decide (op ≤ 29)
theorem d134 (st : St) (b : Bool) : Det Tryz.prog w0 base 134 [.bool b] st (.int .i32 (if b then 1 else 0)) st := by
 refine zh (zp Tryz.func134 r134) fun hwf hfit => z6 Tryz.func134 r134 rfl ?_
 unfold b134
 cases b
 all_goals
  simp -dsimp -implicitDefEqProofs
  exact zn hwf (by simp [eraseA])
theorem d81z (st : St) : Det Tryz.prog w0 base 81 [.int .i32 0, .int .i32 0] st (.tuple [.int .i32 0, .int .i32 0]) st := by
 refine zh (zp Tryz.func81 r81) fun hwf hfit => z6 Tryz.func81 r81 rfl ?_
 unfold b81
 simp -dsimp -implicitDefEqProofs
 exact zn hwf (by simp [eraseA, eraseL])
def eqOk (op : Int) : Bool := op == 24 || op == 27 || op == 29
theorem d83z (st : St) (op : Int) : Det Tryz.prog w0 base 83 [vi op, .int .i32 0, .int .i32 0] st (.tuple [.int .i32 (if eqOk op then 1 else 0), vi (if decide (24 ≤ op) && decide (op ≤ 29) then 0 else 1)]) st := by
 refine zh (zp Tryz.func83 r83) fun hwf hfit => z6 Tryz.func83 r83 rfl ?_
 unfold b83
 by_cases h : 24 ≤ op ∧ op ≤ 29
 ·obtain ⟨h1, h2⟩ := h
  have : op = 24 ∨ op = 25 ∨ op = 26 ∨ op = 27 ∨ op = 28 ∨ op = 29 := by omega
  rcases this with rfl | rfl | rfl | rfl | rfl | rfl
  all_goals
   simp -dsimp -implicitDefEqProofs
   refine zt (d134 _ _) ?_
   simp -dsimp -implicitDefEqProofs
   exact zn hwf (by simp [eraseA, eraseL, eqOk])
 ·have n1 : (op == 24) = false := by simp; omega
  have n2 : (op == 25) = false := by simp; omega
  have n3 : (op == 26) = false := by simp; omega
  have n4 : (op == 27) = false := by simp; omega
  have n5 : (op == 28) = false := by simp; omega
  have n6 : (op == 29) = false := by simp; omega
  have hu : (decide (24 ≤ op) && decide (op ≤ 29)) = false := by simp; omega
  have h2 : eqOk op = false := by simp [eqOk]; omega
  rw [hu, h2]
  simp -dsimp -implicitDefEqProofs [n1, n2, n3, n4, n5, n6]
  exact zn hwf (by simp [eraseA, eraseL])
theorem d51z (st : St) (op : Int) : Det Tryz.prog w0 base 51 [vi op, .int .i32 0, .int .i32 0] st (.tuple [.int .i32 (if eqOk op then 1 else 0), vi (if binOk op then 0 else 1)]) st := by
 refine zh (zp Tryz.func51 r51) fun hwf hfit => z6 Tryz.func51 r51 rfl ?_
 unfold b51
 simp -dsimp -implicitDefEqProofs [yy]
 refine zt (d81z _) ?_
 by_cases h : 10 ≤ op ∧ op ≤ 23
 ·obtain ⟨h1, h2⟩ := h
  have : op = 10 ∨ op = 11 ∨ op = 12 ∨ op = 13 ∨ op = 14 ∨ op = 15 ∨ op = 16 ∨ op = 17 ∨ op = 18 ∨ op = 19 ∨ op = 20 ∨ op = 21 ∨ op = 22 ∨ op = 23 := by omega
  rcases this with rfl | rfl | rfl | rfl | rfl | rfl | rfl | rfl | rfl | rfl | rfl | rfl | rfl | rfl
  all_goals
   simp -dsimp -implicitDefEqProofs [IntKind.wrap, IntKind.signed, IntKind.bits]
   exact zn hwf (by simp [eraseA, eraseL, eqOk, binOk])
 ·have n1 : (op == 10) = false := by simp; omega
  have n2 : (op == 11) = false := by simp; omega
  have n3 : (op == 12) = false := by simp; omega
  have n4 : (op == 13) = false := by simp; omega
  have n5 : (op == 14) = false := by simp; omega
  have n6 : (op == 15) = false := by simp; omega
  have n7 : (op == 16) = false := by simp; omega
  have n8 : (op == 17) = false := by simp; omega
  have n9 : (op == 18) = false := by simp; omega
  have n10 : (op == 19) = false := by simp; omega
  have n11 : (op == 20) = false := by simp; omega
  have n12 : (op == 21) = false := by simp; omega
  have n13 : (op == 22) = false := by simp; omega
  have n14 : (op == 23) = false := by simp; omega
  have hu : binOk op = (decide (24 ≤ op) && decide (op ≤ 29)) := by
   by_cases h24 : 24 ≤ op
   ·have h10 : 10 ≤ op := by omega
    simp [binOk, h24, h10]
   ·have h10 : ¬ 10 ≤ op := by omega
    simp [binOk, h24, h10]
  rw [hu]
  simp -dsimp -implicitDefEqProofs [n1, n2, n3, n4, n5, n6, n7, n8, n9, n10, n11, n12, n13, n14]
  refine zt (d83z _ op) ?_
  simp -dsimp -implicitDefEqProofs
  exact zn hwf (by simp [eraseA, eraseL])
def binFit (op t : Int) : Int × Bool :=
 if op = 24 ∨ op = 25 then (3, true) else if 26 ≤ op ∧ op ≤ 29 then (3, t != 3) else if op = 10 ∨ op = 11 ∨ op = 22 ∨ op = 23 then (t, t != 3)
 else if op = 15 ∨ op = 16 then (t, t == 2) else if op = 17 ∨ op = 18 ∨ op = 19 then (t, t != 2) else (t, t == 1)
def binTypeP (op t u : Int) : Int × Int :=
 if !binOk op || !knownP t || !knownP u then (0, 1) else if t ≠ u ∨ (binFit op t).2 = false then (0, 31) else ((binFit op t).1, 0)
theorem d24 (st : St) (op t u : Int) : Det Tryz.prog w0 base 24 [vi op, vi t, vi u] st (.tuple [vi (binTypeP op t u).1, vi (binTypeP op t u).2]) st := by
 refine zh (zp Tryz.func24 r24) fun hwf hfit => z6 Tryz.func24 r24 rfl ?_
 unfold b24
 simp -dsimp -implicitDefEqProofs
 refine zt (d51z _ op) ?_
 by_cases hu : binOk op = true
 ·have hop : op = 10 ∨ op = 11 ∨ op = 12 ∨ op = 13 ∨ op = 14 ∨ op = 15 ∨ op = 16 ∨ op = 17 ∨ op = 18 ∨ op = 19 ∨ op = 20 ∨ op = 21 ∨ op = 22 ∨ op = 23 ∨ op = 24 ∨ op = 25 ∨ op = 26 ∨ op = 27 ∨ op = 28 ∨ op = 29 := by simp [binOk] at hu; omega
  simp -dsimp -implicitDefEqProofs [hu]
  refine zt (d50 _ t) ?_
  by_cases hk : knownP t = true
  ·have hk2 : (t == 1 || t == 2 || t == 3) = true := hk
   simp -dsimp -implicitDefEqProofs [hk2]
   refine zt (d50 _ u) ?_
   by_cases hk' : knownP u = true
   ·have hk3 : (u == 1 || u == 2 || u == 3) = true := hk'
    have ht : t = 1 ∨ t = 2 ∨ t = 3 := by simp [knownP] at hk; omega
    have hR : binTypeP op t u = if t ≠ u ∨ (binFit op t).2 = false then (0, 31) else ((binFit op t).1, 0) := by simp [binTypeP, hu, hk, hk']
    rw [hR]
    clear hR
    by_cases htu : t = u
    ·subst htu
     rcases ht with rfl | rfl | rfl <;> rcases hop with rfl | rfl | rfl | rfl | rfl | rfl | rfl | rfl | rfl | rfl | rfl | rfl | rfl | rfl | rfl | rfl | rfl | rfl | rfl | rfl
     all_goals
      simp -dsimp -implicitDefEqProofs
      exact zn hwf (by simp [eraseA, eraseL, binFit])
    ·have hne : (t != u) = true := by simpa using htu
     have hR : (if t ≠ u ∨ (binFit op t).2 = false then ((0 : Int), (31 : Int)) else ((binFit op t).1, 0)) = (0, 31) := by simp [htu]
     rw [hR]
     clear hR
     rcases hop with rfl | rfl | rfl | rfl | rfl | rfl | rfl | rfl | rfl | rfl | rfl | rfl | rfl | rfl | rfl | rfl | rfl | rfl | rfl | rfl
     all_goals
      simp -dsimp -implicitDefEqProofs [hk3, hne]
      exact zn hwf (by simp [eraseA, eraseL])
   ·have hk4 : knownP u = false := by simpa using hk'
    have hk3 : (u == 1 || u == 2 || u == 3) = false := hk4
    simp -dsimp -implicitDefEqProofs [hk3]
    exact zn hwf (by simp [eraseA, eraseL, binTypeP, hk4])
  ·have hk' : knownP t = false := by simpa using hk
   have hk2 : (t == 1 || t == 2 || t == 3) = false := hk'
   simp -dsimp -implicitDefEqProofs [hk2]
   exact zn hwf (by simp [eraseA, eraseL, binTypeP, hk'])
 ·have hu' : binOk op = false := by simpa using hu
  simp -dsimp -implicitDefEqProofs [hu']
  exact zn hwf (by simp [eraseA, eraseL, binTypeP, hu'])
end
section
variable {w0 : World} {base : Nat}
theorem enters93 : Enters Tryz.prog 93 := ⟨Tryz.f93, Tryz.func93, by kernel_rfl, by decide⟩
set_option maxHeartbeats 2000000 in
theorem walk93 (b : Nat) (es : Array MapEntry) (clock : Nat) (w : World) (hb : w.heap[b]? = some (.map es clock)) :
  Calls Tryz.prog 93 #[.map (some b)] w fun e w' => e = .returned (.map (some w.heap.size)) ∧ w' = w.alloc (.map es clock) := by
 have mixed : Tryz.prog.follows .mixedOrders = true := by kernel_rfl
 have t105 := Tryz.underlying105; have a105 := Tryz.isAgg105; have z105 := Tryz.sizeOf105; have v105 := Tryz.zeroValue105
 have t20 := Tryz.underlying20; have a20 := Tryz.isAgg20; have z20 := Tryz.sizeOf20; have v20 := Tryz.zeroValue20
 have t4 := Tryz.underlying4; have a4 := Tryz.isAgg4; have z4 := Tryz.sizeOf4; have v4 := Tryz.zeroValue4
 have hq := fun w => run_eql_map_nil_sl (P := Tryz.prog) w 105 _ _ (some b) Tryz.underlying105
 go_enter Tryz.func93, Tryz.ntmps93
 go_wp2
 rw [run_callFunc_extern Tryz.func137 (by kernel_rfl) (by kernel_rfl) (by kernel_rfl) (e := Extern.MapsClone.clone) (by kernel_rfl), run_maps_clone_sl w 105 hb]
 simp only [Result.andThen]
 rw [Oper.upon_value]
 go_wp2
 rw [run_typeAssert_map_sl _ 105 20 _ _ _ Tryz.underlying105]
 simp only [Result.andThen]
 rw [Oper.upon_value]
 go_wp2
 go_ret
 exact ⟨rfl, rfl⟩
theorem d93 {st : St} {mo : Nat} {es : List (AV × AV)} (ho : st.objs mo = some (.map es)) : Det Tryz.prog w0 base 93 [.map mo] st (.map st.next) ((st.bump 1).put st.next (.map es)) := by
 refine ⟨enters93, by simp, fun p hp hn => ?_, fun X G w us hX hI hR => ?_⟩
 ·rw [yh, if_neg (by omega)]; exact hn
 obtain ⟨u, us', rfl, hu, rfl⟩ := hR
 obtain ⟨h1, b', rfl, h2⟩ := hu
 obtain ⟨hused, b, ms, clock, g1, g2, g3, g4, g5, g6, g7⟩ := hI.objs mo _ (xd ho)
 obtain rfl := h2 b g1
 refine (walk93 b' ms clock w g5).mono ?_
 rintro e w' ⟨rfl, rfl⟩
 have hXn : X st.next = none := by
  cases hx : X st.next with
  | none => rfl
  | some x =>
   cases hs : st.objs st.next with
   | none => have := hI.scope st.next (hI.objs st.next x (by simp [St.add, hs, hx])).1; simp [St.add] at this
   | some y => have := hX st.next (by simp [hx]); rw [hs] at this; cases this
 have hk : ¬ G.used st.next := fun hu => by have := hI.scope _ hu; simp [St.add] at this
 have hB : Below w.heap.size w (w.alloc (.map ms clock)) := (Below.refl _ w).alloc (Nat.le_refl _) _
 have hI1 : Inv w0 base G ((st.bump 1).add X) w := inv_forget hI (fun o x hx => by simpa [St.add] using hx) (by simp [St.add])
 have hhd := heap_alloc_new w (.map ms clock)
 have he := ext_addObj hI1 hB (k := st.next) (b := w.heap.size) (c := 0) hk
 have hI2 := inv_addObj hI1 hB (k := st.next) (b := w.heap.size) (c := 0) hk (by simp [St.add]) (Nat.le_refl _) (by simp) (.map es)
  ⟨w.heap.size, ms, clock, zd _ _ _, zd _ _ _, hI.size, (hI.fresh _ (Nat.le_refl _)).1, hhd, xf he _ _ g6, xf he _ _ g7⟩
 refine ⟨_, _, rfl, he, fun o ho hu => ?_, ?_, ?_⟩
 ·rcases hu with e | hu
  ·omega
  ·exact hu
 ·have : ((st.bump 1).put st.next (.map es)).add X = { ((st.bump 1).add X) with objs := upd ((st.bump 1).add X).objs st.next (some (.map es)) } := ux _ _ _ _
  rw [this]; exact hI2
 ·exact ⟨.inl rfl, w.heap.size, rfl, fun b hb => by have : some w.heap.size = some b := (zd G.blk st.next (some w.heap.size)).symm.trans hb; exact Option.some.inj this⟩
end
section
variable {w0 : World} {base : Nat}
structure Thing where
 kind : Int
 typ : Int
 at_ : Int
 deriving DecidableEq
def Thing.cells (t : Thing) : List AV := [vi t.kind, vi t.typ, vi t.at_]
def Thing.zero : Thing := ⟨0, 0, 0⟩
abbrev Scope := List (Str × Thing)
def Scope.enc (s : Scope) : List (AV × AV) := s.map fun x => (.str x.1, .agg x.2.cells)
structure Sees (st : St) (o mo : Nat) (k : Ke) (sc : Scope) (inF : Bool) (lp : Int) : Prop where
 obj : st.objs o = some (.cells 107 (k.cells ++ [.map mo, .bool inF, vi lp]))
 map : st.objs mo = some (.map sc.enc)
theorem Sees.ne {st : St} {o mo : Nat} {k : Ke} {sc : Scope} {inF : Bool} {lp : Int} (h : Sees st o mo k sc inF lp) : o ≠ mo := by
 rintro rfl; have := h.obj.symm.trans h.map; simp at this
theorem Sees.bump {st : St} {o mo : Nat} {k : Ke} {sc : Scope} {inF : Bool} {lp : Int} (h : Sees st o mo k sc inF lp) (n : Nat) : Sees (st.bump n) o mo k sc inF lp := ⟨h.obj, h.map⟩
theorem Sees.same {st s : St} {o mo : Nat} {k : Ke} {sc : Scope} {inF : Bool} {lp : Int} (h : Sees st o mo k sc inF lp) (hwf : st.wf) (hs : ∀ p, p < st.next → s.objs p = st.objs p) : Sees s o mo k sc inF lp :=
 ⟨by rw [hs o (hwf _ _ h.obj)]; exact h.obj, by rw [hs mo (hwf _ _ h.map)]; exact h.map⟩
theorem find_enc (nm : Str) (s : Scope) : ∃ x, findA .str (.str nm) s.enc 0 = some x ∧ x.isSome = (s.lookup nm).isSome ∧ (x.map (·.2)).getD (.agg [.int .i64 0, .int .i64 0, .int .i64 0]) = .agg ((s.lookup nm).getD Thing.zero).cells := by
 have : ∀ (s : Scope) (i : Nat), ∃ j, findA .str (.str nm) s.enc i = some ((s.lookup nm).map fun t => (j, .agg t.cells)) := by
  intro s
  induction s with
  | nil => exact fun i => ⟨0, rfl⟩
  | cons x s ih =>
   intro i
   obtain ⟨j, h⟩ := ih (i + 1)
   simp only [Scope.enc] at h
   by_cases e : nm = x.1
   ·exact ⟨i, by simp [Scope.enc, findA, leafEq, List.lookup, e]⟩
   ·refine ⟨j, ?_⟩
    have : (nm == x.1) = false := by simpa using e
    simp [Scope.enc, findA, leafEq, List.lookup, this, h]
 obtain ⟨j, h⟩ := this s 0
 refine ⟨_, h, ?_⟩
 cases s.lookup nm <;> simp [Thing.cells, Thing.zero]
def findP (sc : Scope) (nm : Str) (ks : List Int) : Option Thing := match sc.lookup nm with
 | some t => if t.kind ∈ ks then some t else none
 | none => none
def foundAV : Option Thing → AV
 | some t => .tuple [.agg t.cells, .bool true]
 | none => .tuple [.agg [vi 0, vi 0, vi 0], .bool false]
theorem d76 {st : St} {o mo : Nat} {k : Ke} {sc : Scope} {inF : Bool} {lp : Int} (h : Sees st o mo k sc inF lp) (nm : Str) (ks : List Int) :
   Det Tryz.prog w0 base 76 [.ptr o 0, .str nm, .sl (ks.map (.int .i64)) ks.length .no] st (foundAV (findP sc nm ks)) st := by
  refine zh (zp Tryz.func76 r76) fun hwf hfit => z6 Tryz.func76 r76 rfl ?_
  have hks : ks.length ≤ big := hfit.2.2.1.1
  unfold big at hks
  clear hfit
  have h1 := h.obj
  have h2 := h.map
  have g1 := hwf _ _ h1
  have g2 := hwf _ _ h2
  have hn0 := zj hwf
  have hn := zf hwf
  obtain ⟨x, h4, h5, h6⟩ := find_enc nm sc
  have hf : findP sc nm ks = if (sc.lookup nm).isSome ∧ ((sc.lookup nm).getD Thing.zero).kind ∈ ks then some ((sc.lookup nm).getD Thing.zero) else none := by
    unfold findP
    cases sc.lookup nm <;> simp
  rw [hf]
  clear hf
  generalize hok : (sc.lookup nm).isSome = ok at *
  generalize ((sc.lookup nm).getD Thing.zero) = t0 at *
  have hk7 : ∀ (n : Nat) (a : AV), (k.cells ++ [AV.map mo, .bool inF, vi lp])[7]? = some (.map mo) := fun _ _ => rfl
  obtain ⟨tk, tt, ta⟩ := t0
  simp only [Thing.cells] at *
  generalize hR : foundAV (if ok = true ∧ tk ∈ ks then some ⟨tk, tt, ta⟩ else none) = R
  have hkc : k.cells ++ [AV.map mo, .bool inF, vi lp] = [.str k.name, vi k.group, vi k.sub, .sl (rowOf Ar.cells k.arrays) k.arrays.length .no, .sl (rowOf Pa.cells k.params) k.params.length .no, .sl (rowOf Fu.cells k.funcs) k.funcs.length .no, .sl (Sm.cellsL k.body) k.body.length .no, .map mo, .bool inF, vi lp] := rfl
  rw [hkc] at h1
  unfold b76
  simp -dsimp -implicitDefEqProofs [h1, h2, h4, h5, h6, g1, g2, hn0, hn, zz, zx, zy, zu, zw]
  refine y1 (d := 24) (x := 23) (n := 22) (y := 35) ks.length (fun j e s => (∀ i, i < j → ok = true → ks[i]? ≠ some tk) ∧ s.objs st.next = some (.cells 103 [vi 0, vi 0, vi 0]) ∧ (∀ p, p < st.next → s.objs p = st.objs p)) hks (by simp) (by simp) ⟨by simp, ?_, ?_⟩ rfl (fun j e e' s k h _ => h) ?_ ?_
  · simp [zx, zy, zu, zw]
  · intro p hp
    simp [hp, zx, zy]
  · rintro j e s hj hf hx ⟨hI, hz, hs⟩
    have e21 : e 21 = .sl (ks.map (.int .i64)) ks.length .no := by rw [hf 21 rfl]; simp
    have e9 : e 9 = .bool ok := by rw [hf 9 rfl]; simp
    have e8 : e 8 = .iptr [vi tk, vi tt, vi ta] 0 := by rw [hf 8 rfl]; simp
    have e6 : e 6 = .ptr st.next 0 := by rw [hf 6 rfl]; simp
    obtain ⟨y, hy⟩ : ∃ y, ks[j]? = some y := ⟨_, List.getElem?_eq_getElem hj⟩
    have hy' : ks[j] = y := by simpa [hj] using hy
    simp -dsimp -implicitDefEqProofs [e21, e9, e8, hx, hj, hy, hy']
    have nextI : (ok = true → y ≠ tk) → ∀ K, (∀ i, i < j + 1 → ok = true → ks[i]? ≠ some tk) ∧ (s.bump K).objs st.next = some (.cells 103 [vi 0, vi 0, vi 0]) ∧ (∀ p, p < st.next → (s.bump K).objs p = st.objs p) := by
      intro h3 K
      refine ⟨fun i hi ho => ?_, hz, hs⟩
      rcases Nat.lt_succ_iff_lt_or_eq.1 hi with h | rfl
      · exact hI i h ho
      · rw [hy]; simpa using h3 ho
    cases ok
    · simp -dsimp -implicitDefEqProofs [e21, e9, e8, hx]
      exact hold (nextI (by simp) 0)
    · simp -dsimp -implicitDefEqProofs [e21, e9, e8, e6, hx, hz]
      refine Br_iff (fun hb => ?_) (fun hb => ?_)
      · have hyk : tk = y := by simpa using hb
        simp -dsimp -implicitDefEqProofs [e21, e9, e8, e6, hx, hz]
        refine zg hwf (fun p hp => by simp [hp, zy, hs]) ?_
        rw [← hR, if_pos ⟨rfl, by rw [hyk, ← hy']; exact List.getElem_mem hj⟩]
        simp [eraseA, eraseL, foundAV, Thing.cells]
      · simp -dsimp -implicitDefEqProofs [e21, e9, e8, hx]
        exact hold (nextI (fun _ h => by simp [h] at hb) 0)
  · rintro e s hf ⟨hI, hz, hs⟩
    have e6 : e 6 = .ptr st.next 0 := by rw [hf 6 rfl]; simp
    simp -dsimp -implicitDefEqProofs [e6, hz]
    refine zg hwf (fun p hp => by simp [hp, zy, hs]) ?_
    rw [← hR, if_neg]
    · simp [eraseA, eraseL, foundAV]
    · rintro ⟨h1, h2⟩
      obtain ⟨i, hi, h⟩ := List.getElem_of_mem h2
      exact hI i hi h1 (by rw [List.getElem?_eq_getElem hi, h])
end
section
variable {w0 : World} {base : Nat}
def callT (f : Fu) (ts : List Int) : Int × Int := if ts = f.params.map (·.typ) then (f.typ, 0) else (0, 31)
def tup (x : Int × Int) : AV := .tuple [vi x.1, vi x.2]
structure Akin (st s : St) : Prop where
 objs : s.objs = st.objs
 le : st.next ≤ s.next
theorem Akin.refl (st : St) (n : Nat) : Akin st (st.bump n) := ⟨rfl, Nat.le_add_right _ _⟩
theorem Akin.bump {st s : St} (h : Akin st s) (n : Nat) : Akin st (s.bump n) := ⟨h.objs, Nat.le_trans h.le (Nat.le_add_right _ _)⟩
theorem Akin.fresh {st s : St} (hwf : st.wf) (h : Akin st s) (k : Nat) : s.objs (s.next + k) = none := by
 rw [h.objs]
 rcases hk : st.objs (s.next + k) with _ | x
 ·rfl
 ·have := hwf _ _ hk
  have := h.le
  omega
theorem Akin.fresh0 {st s : St} (hwf : st.wf) (h : Akin st s) : s.objs s.next = none := h.fresh hwf 0
theorem Akin.fin {st s : St} {r0 r : AV} (hwf : st.wf) (h : Akin st s) (e : eraseA st.next r0 = some r) : Fin st s r0 r st := zg hwf (fun p _ => by rw [h.objs]) e
theorem take_eq_step {α : Type} {l m : List α} {j : Nat} {x y : α} (h : l.take j = m.take j) (hx : l[j]? = some x) (hy : m[j]? = some y) : l.take (j + 1) = m.take (j + 1) ↔ x = y := by
 rw [List.take_add_one, List.take_add_one, hx, hy, h]
 simp
theorem d77 (st : St) (c : AV) (f : Fu) (ts : List Int) (pm : Perm) :
   Det Tryz.prog w0 base 77 [c, .agg f.cells, .sl (ts.map (.int .i64)) ts.length pm] st (tup (callT f ts)) st := by
  refine zh (zp Tryz.func77 r77) fun hwf hfit => z6 Tryz.func77 r77 rfl ?_
  have hts : ts.length ≤ big := hfit.2.2.1.1
  obtain ⟨fn, ps, ft, fb, fr⟩ := f
  have hlen : ps.length ≤ big := by
    have := hfit.2.1
    simp only [Fu.cells, AV.fit, List.cons_append, AV.fitL] at this
    exact this.2.1.1
  unfold big at hlen hts
  clear hfit
  have hrow := fun j x => @yg _ Pa.cells 2 Pa.cells_len ps j x
  have hle := fun j x => @ye _ Pa.cells 2 Pa.cells_len ps j x
  have hn0 := zj hwf
  have hn := zf hwf
  obtain ⟨rk, ro, rt, rn, rv, ra⟩ := fr
  simp only [Fu.cells, Ex.cells, List.cons_append, List.nil_append, callT] at *
  generalize Ex.cellsL ra = cra at *
  generalize Sm.cellsL fb = cb at *
  generalize rowOf Pa.cells ps = cp at *
  generalize hR : tup (if ts = ps.map (·.typ) then (ft, 0) else (0, 31)) = R
  unfold b77
  simp -dsimp -implicitDefEqProofs [hn0, hn, zz]
  refine Br_iff (fun hb => ?_) (fun hb => ?_)
  · have hne : ts ≠ ps.map (·.typ) := by rintro rfl; simp at hb
    simp -dsimp -implicitDefEqProofs [hn0, hn, zz, hb]
    refine zn hwf ?_
    rw [← hR, if_neg hne]
    simp [eraseA, eraseL, tup]
  · have hl : ts.length = ps.length := by simp at hb; exact_mod_cast hb
    simp -dsimp -implicitDefEqProofs [hn0, hn, zz, hl]
    refine y1 (d := 20) (x := 19) (n := 18) (y := 31) ps.length (fun j e s => ts.take j = (ps.map (·.typ)).take j ∧ Akin st s) hlen (by simp) (by simp) ⟨by simp, Akin.refl _ _⟩ rfl (fun j e e' s k h _ => ⟨h.1, h.2.bump k⟩) ?_ ?_
    · rintro j e s hj hf hx ⟨hI, hs⟩
      have e17 : e 17 = .sl cp ps.length .no := by rw [hf 17 rfl]; simp
      have e2 : e 2 = .sl (ts.map (.int .i64)) ps.length pm := by rw [hf 2 rfl]; simp [hl]
      obtain ⟨y, hy⟩ : ∃ y, ps[j]? = some y := ⟨_, List.getElem?_eq_getElem hj⟩
      obtain ⟨t, ht⟩ : ∃ t, ts[j]? = some t := ⟨_, List.getElem?_eq_getElem (by omega)⟩
      have hj' : j < ts.length := by omega
      have hy' : (ps.map (·.typ))[j]? = some y.typ := by simp [hy]
      have ht' : ts[j] = t := by simpa [hj'] using ht
      have hst := take_eq_step hI ht hy'
      have hr := hrow j y hy
      have hl := hle j y hy
      have q0 := hs.fresh0 hwf
      have q := hs.fresh hwf
      obtain ⟨yn, yt⟩ := y
      simp only [Pa.cells] at hr hst hy'
      simp -dsimp -implicitDefEqProofs [e17, e2, hx, hj, hr, hl, q0, q, zz, ht, ht']
      refine Br_iff (fun hb => ?_) (fun hb => ?_)
      · have hne : ts ≠ ps.map (·.typ) := by
          intro hh
          rw [hh, hy'] at ht
          have hyt : yt = t := by simpa using ht
          simp [hyt] at hb
        simp -dsimp -implicitDefEqProofs [e17, e2, hx, hj, hr, hl, q0, q, zz, ht, ht', hb]
        refine (hs.bump _).fin hwf ?_
        rw [← hR, if_neg hne]
        simp [eraseA, eraseL, tup]
      · have hyt : t = yt := by simp at hb; omega
        simp -dsimp -implicitDefEqProofs [hb]
        exact hold ⟨hst.2 hyt, hs.bump _⟩
    · rintro e s hf ⟨hI, hs⟩
      have e4 := (hf 4 rfl).trans (by simp -implicitDefEqProofs only [xu, x7]; rfl)
      have heq : ts = ps.map (·.typ) := by
        rw [List.take_of_length_le (by omega), List.take_of_length_le (by simp)] at hI
        exact hI
      simp -dsimp -implicitDefEqProofs [e4]
      refine (hs.bump _).fin hwf ?_
      rw [← hR, if_pos heq]
      simp [eraseA, eraseL, tup]
end
section
variable {w0 : World} {base : Nat}
def nodeT (k : Ke) (sc : Scope) (kind op t : Int) (n : Str) (ts : List Int) : Int × Int :=
 if kind = 1 then (t, 0) else if kind = 3 then (1, 0) else if kind = 4 then unTypeP op (ts.getD 0 0) else if kind = 5 then binTypeP op (ts.getD 0 0) (ts.getD 1 0)
 else if kind = 6 then (if ts.getD 0 0 ≠ 3 ∨ ts.getD 1 0 ≠ ts.getD 2 0 then (0, 31) else (ts.getD 1 0, 0))
 else if kind = 2 then (match findP sc n [2, 3] with | some v => (v.typ, 0) | none => (0, 30))
 else if kind = 7 then (match findP sc n [0] with | some v => if ts.getD 0 0 ≠ 1 then (0, 31) else (v.typ, 0) | none => (0, 30))
 else if kind = 8 then (match findP sc n [1] with | some v => (match k.funcs[v.at_.toNat]? with | some f => callT f ts | none => (0, 30)) | none => (0, 30))
 else (0, 30)
def comb (ts : List Int) (r : List Int × Int) : List Int × Int := if r.2 = 0 then (ts ++ r.1, 0) else ([], r.2)
mutual
def exprT (k : Ke) (sc : Scope) : Ex → Int × Int
 | .mk kind op t n _ a => if (allT k sc a).2 = 0 then nodeT k sc kind op t n (allT k sc a).1 else (0, (allT k sc a).2)
def allT (k : Ke) (sc : Scope) : List Ex → List Int × Int
 | [] => ([], 0)
 | e :: l => if (exprT k sc e).2 = 0 then comb [(exprT k sc e).1] (allT k sc l) else ([], (exprT k sc e).2)
end
theorem comb_comb (a b : List Int) (r : List Int × Int) : comb a (comb b r) = comb (a ++ b) r := by
 unfold comb
 split <;> simp_all
theorem comb_fail (a : List Int) (x : List Int) (f : Int) (h : f ≠ 0) : comb a (x, f) = ([], f) := by simp [comb, h]
theorem allT_len (k : Ke) (sc : Scope) : ∀ l : List Ex, (allT k sc l).2 = 0 → (allT k sc l).1.length = l.length
 | [] => by simp [allT]
 | e :: l => by
  have ih := allT_len k sc l
  simp only [allT]
  split
  ·unfold comb
   split
   ·rename_i h; intro _; simp [ih h, Nat.add_comm]
   ·rename_i h; intro h'; exact absurd h' h
  ·rename_i h; intro h'; exact absurd h' h
theorem allT_drop (k : Ke) (sc : Scope) (l : List Ex) (j : Nat) (y : Ex) (h : l[j]? = some y) :
  allT k sc (l.drop j) = if (exprT k sc y).2 = 0 then comb [(exprT k sc y).1] (allT k sc (l.drop (j + 1))) else ([], (exprT k sc y).2) := by
 obtain ⟨hlt, e⟩ := List.getElem?_eq_some_iff.1 h
 rw [List.drop_eq_getElem_cons hlt, e]
 simp only [allT]
theorem comb_nil (k : Ke) (sc : Scope) (l : List Ex) : allT k sc l = comb [] (allT k sc l) := by
 cases l with
 | nil => simp [allT, comb]
 | cons e l =>
  simp only [allT]
  split
  ·rw [comb_comb]; rfl
  ·rename_i h; exact (comb_fail _ _ _ h).symm
def pmL (ts : List Int) : Perm := if ts = [] then .full else .no
inductive Tip (st : St) : Nat → Perm → St → Prop
 | none {s : St} (h : Akin st s) : Tip st 0 .full s
 | some {s : St} {n t : Nat} (le : st.next ≤ t) (lt : t < s.next) (old : ∀ q, q < st.next → s.objs q = st.objs q) (at_ : s.objs t = .some (.tip 3 1 n)) (no : ∀ q, q ≠ t → st.next ≤ q → s.objs q = .none) (hn : n ≠ 0) : Tip st n (.tok t) s
theorem Tip.bump {st s : St} {n : Nat} {p : Perm} (h : Tip st n p s) (k : Nat) : Tip st n p (s.bump k) := by
 cases h with
 | none h => exact .none (h.bump k)
 | some le lt old at_ no hn => exact .some le (Nat.lt_of_lt_of_le lt (Nat.le_add_right _ _)) old at_ no hn
theorem Tip.old {st s : St} {n : Nat} {p : Perm} (h : Tip st n p s) : ∀ q, q < st.next → s.objs q = st.objs q := by
 cases h with
 | none h => intro q _; rw [h.objs]
 | some le lt old at_ no => exact old
theorem Tip.fresh {st s : St} {n : Nat} {p : Perm} (hwf : st.wf) (h : Tip st n p s) (k : Nat) : s.objs (s.next + k) = .none := by
 cases h with
 | none h => exact h.fresh hwf k
 | some le lt old at_ no => exact no _ (by omega) (by omega)
theorem eraseL_ints (n : Nat) (ts : List Int) : eraseL n (ts.map (.int .i64)) = some (ts.map (.int .i64)) := by
 induction ts with
 | nil => simp [eraseL]
 | cons t ts ih => simp [eraseL, eraseA, ih]
theorem none_from {st : St} (hwf : st.wf) {q : Nat} (h : st.next ≤ q) : st.objs q = none := by
 rcases hk : st.objs q with _ | x
 ·rfl
 ·have := hwf _ _ hk
  omega
theorem d75 {st : St} {o mo : Nat} {k : Ke} {sc : Scope} {inF : Bool} {lp : Int} (h : Sees st o mo k sc inF lp) (l : List Ex) (h8 : l.length ≤ 8)
   (hl : ∀ x ∈ l, ∀ s, Sees s o mo k sc inF lp → Det Tryz.prog w0 base 46 [.ptr o 0, .agg x.cells] s (tup (exprT k sc x)) s) :
   Det Tryz.prog w0 base 75 [.ptr o 0, .sl (Ex.cellsL l) l.length .no] st (.tuple [.sl ((allT k sc l).1.map (.int .i64)) (allT k sc l).1.length (pmL (allT k sc l).1), vi (allT k sc l).2]) st := by
  refine zh (zp Tryz.func75 r75) fun hwf hfit => z6 Tryz.func75 r75 rfl ?_
  have hlen : l.length ≤ big := hfit.2.1.1
  unfold big at hlen
  clear hfit
  have g1 := hwf _ _ h.obj
  have hrow := fun j x => @yg _ Ex.cells 6 Ex.cells_len l j x
  have hle := fun j x => @ye _ Ex.cells 6 Ex.cells_len l j x
  rw [Ex.cellsL_row] at *
  generalize rowOf Ex.cells l = ca at *
  generalize hR : AV.tuple [.sl ((allT k sc l).1.map (.int .i64)) (allT k sc l).1.length (pmL (allT k sc l).1), vi (allT k sc l).2] = R
  unfold b75
  simp -dsimp -implicitDefEqProofs
  refine y1 (d := 14) (x := 13) (n := 12) (y := 30) l.length (fun j e s => ∃ ts p, ts.length = j ∧ e 6 = .sl (ts.map (.int .i64)) j p ∧ Tip st j p s ∧ allT k sc l = comb ts (allT k sc (l.drop j))) hlen (by simp) (by simp) ⟨[], .full, rfl, by simp, .none (Akin.refl _ _), comb_nil k sc l⟩ rfl (fun j e e' s k h he => ?_) ?_ ?_
  · obtain ⟨ts, p, h1, h2, h3, h4⟩ := h
    exact ⟨ts, p, h1, (he 6 (by decide) (by decide) (by decide)).trans h2, h3.bump k, h4⟩
  · rintro j e s hj hf hx ⟨ts, p, htl, e6, hI, hall⟩
    have e11 : e 11 = .sl ca l.length .no := by rw [hf 11 rfl]; simp
    have e0 : e 0 = .ptr o 0 := by rw [hf 0 rfl]; simp
    obtain ⟨y, hy⟩ : ∃ y, l[j]? = some y := ⟨_, List.getElem?_eq_getElem hj⟩
    have hr := hrow j y hy
    have hl' := hle j y hy
    have hd := allT_drop k sc l j y hy
    have hc := hl y (List.mem_of_getElem? hy)
    have hyb := Ex.bare_cells y
    have q := hI.fresh hwf
    have q0 := q 0
    simp only [Nat.add_zero] at q0
    obtain ⟨yk, yo, yt, yn, yv, ya⟩ := y
    simp only [Ex.cells] at hr hc hyb
    generalize Ex.cellsL ya = cya at *
    generalize exprT k sc (Ex.mk yk yo yt yn yv ya) = R1 at *
    obtain ⟨t, f⟩ := R1
    simp -dsimp -implicitDefEqProofs [e11, e0, hx, hj, hr, hl', q0, q, zz]
    refine zo (hc _ (h.same hwf (fun p hp => by simp [hI.old p hp]))) (by simp_all [AV.bareL, AV.bare]) ?_
    simp -dsimp -implicitDefEqProofs [e0, tup]
    refine Br_iff (fun hb => ?_) (fun hb => ?_)
    · have hf0 : f ≠ 0 := by simpa using hb
      simp -dsimp -implicitDefEqProofs [hb]
      refine zg hwf (fun p hp => by simp [hI.old p hp]) ?_
      have : allT k sc l = ([], f) := by rw [hall, hd]; simp [hf0, comb]
      rw [← hR, this]
      simp [eraseA, eraseL, pmL]
    · have hf0 : f = 0 := by simpa using hb
      subst hf0
      simp -dsimp -implicitDefEqProofs [e6]
      have hall' : allT k sc l = comb (ts ++ [t]) (allT k sc (l.drop (j + 1))) := by rw [hall, hd]; simp [comb_comb]
      rw [if_pos ⟨htl, by unfold big; omega, by unfold big; omega⟩]
      cases hI with
      | none hI =>
        simp -dsimp -implicitDefEqProofs
        refine hold ⟨ts ++ [t], .tok (s.next + 17), by simp [htl], by simp, ?_, hall'⟩
        have hle := hI.le
        refine .some ?_ ?_ ?_ ?_ ?_ (by simp)
        · omega
        · simp
        · intro q hq
          have : q ≠ s.next + 17 := by omega
          simp [this, hI.objs]
        · simp
        · intro q hq hq'
          simp [hq, hI.objs]
          exact none_from hwf hq'
      | @some _ _ t' le lt old at_ no hn =>
        simp -dsimp -implicitDefEqProofs [at_]
        refine hold ⟨ts ++ [t], .tok t', by simp [htl], by simp, ?_, hall'⟩
        refine .some le ?_ ?_ ?_ ?_ (by simp)
        · simp; omega
        · intro q hq
          have : q ≠ t' := by omega
          simp [this, old q hq]
        · simp
        · intro q hq hq'
          simp [hq, no q hq hq']
  · rintro e s hf ⟨ts, p, htl, e6, hI, hall⟩
    have hall' : allT k sc l = (ts, 0) := by rw [hall]; simp [allT, comb]
    simp -dsimp -implicitDefEqProofs [e6]
    refine zg hwf (fun p hp => by simp [hI.old p hp]) ?_
    rw [← hR, hall']
    generalize l.length = L at *
    cases hI with
    | none hI =>
      have : ts = [] := List.length_eq_zero_iff.1 (by simpa using htl)
      subst this
      simp [eraseA, eraseL, pmL]
    | some le lt old at_ no hn =>
      have hne : ts ≠ [] := by rintro rfl; simp at htl; omega
      have hlt : ¬ _ < st.next := Nat.not_lt.2 le
      simp [eraseA, eraseL, eraseL_ints, pmL, hne, htl, hlt]
end
section
variable {w0 : World} {base : Nat}
mutual
def Ex.ar : Ex → Prop
 | .mk k _ _ _ _ a => (a.length ≤ 8 ∧ (k = 4 ∨ k = 7 → 1 ≤ a.length) ∧ (k = 5 → 2 ≤ a.length) ∧ (k = 6 → 3 ≤ a.length)) ∧ arL a
def arL : List Ex → Prop
 | [] => True
 | e :: l => e.ar ∧ arL l
end
theorem arL_mem : ∀ {l : List Ex}, arL l → ∀ x ∈ l, x.ar
 | [], _, x, hx => absurd hx (by simp)
 | e :: l, h, x, hx => by
  simp only [arL] at h
  rcases List.mem_cons.1 hx with rfl | hx
  ·exact h.1
  ·exact arL_mem h.2 x hx
def InR (k : Ke) (sc : Scope) : Prop := ∀ n t, sc.lookup n = some t → (t.kind = 0 → 0 ≤ t.at_ ∧ t.at_ < k.arrays.length) ∧ (t.kind = 1 → 0 ≤ t.at_ ∧ t.at_ < k.funcs.length)
theorem d46 {o mo : Nat} {k : Ke} {sc : Scope} {inF : Bool} {lp : Int} (hin : InR k sc) : ∀ (e : Ex), e.ar → ∀ st, Sees st o mo k sc inF lp →
   Det Tryz.prog w0 base 46 [.ptr o 0, .agg e.cells] st (tup (exprT k sc e)) st := by
  refine Ex.ind ?_
  intro kd op t nm v a ih har st h
  refine zh (zp Tryz.func46 r46) fun hwf hfit => z6 Tryz.func46 r46 rfl ?_
  clear hfit
  simp only [Ex.ar] at har
  obtain ⟨⟨h8, h47, h5, h6⟩, hal⟩ := har
  have hc : ∀ s, Sees s o mo k sc inF lp → Det Tryz.prog w0 base 75 [.ptr o 0, .sl (Ex.cellsL a) a.length .no] s _ s := fun s hs => d75 hs a h8 (fun x hx s hs => ih x hx (arL_mem hal x hx) s hs)
  have hlen := allT_len k sc a
  have hn0 := zj hwf
  have hn := zf hwf
  have hba := Ex.bare_cellsL a
  have g1 := hwf _ _ h.obj
  have g2 := hwf _ _ h.map
  simp only [exprT, Ex.cells]
  generalize allT k sc a = A at *
  obtain ⟨ts, f⟩ := A
  simp only at hc hlen
  generalize Ex.cellsL a = ca at *
  generalize hR : tup (if f = 0 then nodeT k sc kd op t nm ts else (0, f)) = R
  unfold b46
  simp -dsimp -implicitDefEqProofs [hn0, hn, zz]
  refine zo (hc _ (h.bump _)) (by simp [AV.bareL, AV.bare, hba]) ?_
  simp -dsimp -implicitDefEqProofs [hn0, hn, zz]
  refine Br_iff (fun hb => ?_) (fun hb => ?_)
  · have hf0 : f ≠ 0 := by simpa using hb
    simp -dsimp -implicitDefEqProofs [hn0, hn, zz, hb]
    refine zn hwf ?_
    rw [← hR, if_neg hf0]
    simp [eraseA, eraseL, tup]
  · have hf0 : f = 0 := by simpa using hb
    subst hf0
    have hlen := hlen rfl
    simp -dsimp -implicitDefEqProofs [hn0, hn, zz]
    by_cases k1 : kd = 1
    · subst k1
      simp -dsimp -implicitDefEqProofs [hn0, hn, zz]
      refine zn hwf ?_
      rw [← hR]
      simp [eraseA, eraseL, tup, nodeT]
    by_cases k3 : kd = 3
    · subst k3
      simp -dsimp -implicitDefEqProofs [hn0, hn, zz]
      refine zn hwf ?_
      rw [← hR]
      simp [eraseA, eraseL, tup, nodeT]
    have n1 : (kd == 1) = false := by simpa using k1
    have n3 : (kd == 3) = false := by simpa using k3
    by_cases k4 : kd = 4
    · subst k4
      obtain ⟨x, ts, rfl⟩ : ∃ x l, ts = x :: l := by
        cases ts with
        | nil => simp at hlen; have := h47 (.inl rfl); omega
        | cons x l => exact ⟨x, l, rfl⟩
      simp -dsimp -implicitDefEqProofs [hn0, hn, zz]
      refine zt (d23 _ _ _) ?_
      simp -dsimp -implicitDefEqProofs [hn0, hn, zz]
      refine zn hwf ?_
      rw [← hR]
      simp [eraseA, eraseL, tup, nodeT]
    have n4 : (kd == 4) = false := by simpa using k4
    by_cases k5 : kd = 5
    · subst k5
      obtain ⟨x, y, ts, rfl⟩ : ∃ x y l, ts = x :: y :: l := by
        have := h5 rfl
        match ts, hlen with
        | [], hlen => simp at hlen; omega
        | [_], hlen => simp at hlen; omega
        | x :: y :: l, _ => exact ⟨x, y, l, rfl⟩
      have q0 : (0 : Int) < (ts.length : Int) + 2 := by omega
      have q1 : (1 : Int) < (ts.length : Int) + 2 := by omega
      simp -dsimp -implicitDefEqProofs [hn0, hn, zz, q0, q1]
      refine zt (d24 _ _ _ _) ?_
      simp -dsimp -implicitDefEqProofs [hn0, hn, zz]
      refine zn hwf ?_
      rw [← hR]
      simp [eraseA, eraseL, tup, nodeT]
    have n5 : (kd == 5) = false := by simpa using k5
    by_cases k6 : kd = 6
    · subst k6
      obtain ⟨x, y, z, ts, rfl⟩ : ∃ x y z l, ts = x :: y :: z :: l := by
        have := h6 rfl
        match ts, hlen with
        | [], hlen => simp at hlen; omega
        | [_], hlen => simp at hlen; omega
        | [_, _], hlen => simp at hlen; omega
        | x :: y :: z :: l, _ => exact ⟨x, y, z, l, rfl⟩
      have q0 : (0 : Int) < (ts.length : Int) + 3 := by omega
      have q1 : (1 : Int) < (ts.length : Int) + 3 := by omega
      have q2 : (2 : Int) < (ts.length : Int) + 3 := by omega
      by_cases hx : x = 3
      · subst hx
        simp -dsimp -implicitDefEqProofs [hn0, hn, zz, q0, q1, q2]
        refine Br_iff (fun hb => ?_) (fun hb => ?_)
        · simp -dsimp -implicitDefEqProofs [hn0, hn, zz, q0, q1, q2, hb]
          refine zn hwf ?_
          rw [← hR]
          have : ¬ y = z := by simpa using hb
          simp [eraseA, eraseL, tup, nodeT, this]
        · simp -dsimp -implicitDefEqProofs [hn0, hn, zz, q0, q1, q2, hb]
          refine zn hwf ?_
          rw [← hR]
          have : y = z := by simpa using hb
          simp [eraseA, eraseL, tup, nodeT, this]
      · have hb : (x != 3) = true := by simpa using hx
        simp -dsimp -implicitDefEqProofs [hn0, hn, zz, q0, q1, q2, hb]
        refine zn hwf ?_
        rw [← hR]
        simp [eraseA, eraseL, tup, nodeT, hx]
    have n6 : (kd == 6) = false := by simpa using k6
    by_cases k2 : kd = 2
    · subst k2
      simp -dsimp -implicitDefEqProofs [hn0, hn, zz]
      refine zo (d76 (h.bump _) nm [2, 3]) (by simp [AV.bareL, AV.bare]) ?_
      rcases hf : findP sc nm [2, 3] with _ | ⟨vk, vt, va⟩
      · simp -dsimp -implicitDefEqProofs [hn0, hn, zz, foundAV]
        refine zn hwf ?_
        rw [← hR]
        simp [eraseA, eraseL, tup, nodeT, hf]
      · simp -dsimp -implicitDefEqProofs [hn0, hn, zz, foundAV, Thing.cells]
        refine zn hwf ?_
        rw [← hR]
        simp [eraseA, eraseL, tup, nodeT, hf]
    have n2 : (kd == 2) = false := by simpa using k2
    by_cases k7 : kd = 7
    · subst k7
      obtain ⟨x, ts, rfl⟩ : ∃ x l, ts = x :: l := by
        cases ts with
        | nil => simp at hlen; have := h47 (.inr rfl); omega
        | cons x l => exact ⟨x, l, rfl⟩
      simp -dsimp -implicitDefEqProofs [hn0, hn, zz]
      refine zo (d76 (h.bump _) nm [0]) (by simp [AV.bareL, AV.bare]) ?_
      rcases hf : findP sc nm [0] with _ | ⟨vk, vt, va⟩
      · simp -dsimp -implicitDefEqProofs [hn0, hn, zz, foundAV]
        refine zn hwf ?_
        rw [← hR]
        simp [eraseA, eraseL, tup, nodeT, hf]
      · simp -dsimp -implicitDefEqProofs [hn0, hn, zz, foundAV, Thing.cells]
        refine Br_iff (fun hb => ?_) (fun hb => ?_)
        · simp -dsimp -implicitDefEqProofs [hn0, hn, zz, hb]
          refine zn hwf ?_
          rw [← hR]
          have : ¬ x = 1 := by simpa using hb
          simp [eraseA, eraseL, tup, nodeT, hf, this]
        · simp -dsimp -implicitDefEqProofs [hn0, hn, zz, hb]
          refine zn hwf ?_
          rw [← hR]
          have : x = 1 := by simpa using hb
          simp [eraseA, eraseL, tup, nodeT, hf, this]
    have n7 : (kd == 7) = false := by simpa using k7
    by_cases k8 : kd = 8
    · subst k8
      simp -dsimp -implicitDefEqProofs [hn0, hn, zz]
      refine zo (d76 (h.bump _) nm [1]) (by simp [AV.bareL, AV.bare]) ?_
      rcases hf : findP sc nm [1] with _ | ⟨vk, vt, va⟩
      · simp -dsimp -implicitDefEqProofs [hn0, hn, zz, foundAV]
        refine zn hwf ?_
        rw [← hR]
        simp [eraseA, eraseL, tup, nodeT, hf]
      · obtain ⟨i, F, hi, hF⟩ : ∃ (i : Nat) (F : Fu), va = i ∧ k.funcs[i]? = some F := by
          unfold findP at hf
          rcases hs : sc.lookup nm with _ | t
          · simp [hs] at hf
          · simp only [hs] at hf
            split at hf
            · rename_i hm
              simp only [Option.some.injEq] at hf
              subst hf
              obtain ⟨h0, h1⟩ := (hin nm _ hs).2 (by simpa using hm)
              simp only at h0 h1
              exact ⟨va.toNat, k.funcs[va.toNat]'(by omega), by omega, by simp⟩
            · exact absurd hf (by simp)
        subst hi
        have hrow := @yg _ Fu.cells 10 Fu.cells_len k.funcs i F hF
        have hle := @ye _ Fu.cells 10 Fu.cells_len k.funcs i F hF
        have hobj := h.obj
        have hkc : k.cells ++ [AV.map mo, .bool inF, vi lp] = [.str k.name, vi k.group, vi k.sub, .sl (rowOf Ar.cells k.arrays) k.arrays.length .no, .sl (rowOf Pa.cells k.params) k.params.length .no, .sl (rowOf Fu.cells k.funcs) k.funcs.length .no, .sl (Sm.cellsL k.body) k.body.length .no, .map mo, .bool inF, vi lp] := rfl
        rw [hkc] at hobj
        generalize hcF : rowOf Fu.cells k.funcs = cF at *
        have hlt : i < k.funcs.length := (List.getElem?_eq_some_iff.1 hF).1
        have hlt' : (i : Int) < (k.funcs.length : Int) := by omega
        generalize hL : k.funcs.length = L at *
        simp -dsimp -implicitDefEqProofs [hn0, hn, zz, foundAV, Thing.cells, hobj, hlt, hlt', hrow, hle]
        refine zt (d77 _ _ F ts _) ?_
        simp -dsimp -implicitDefEqProofs [hn0, hn, zz, foundAV, Thing.cells, hobj, hlt, hlt', hrow, hle, tup]
        refine zn hwf ?_
        rw [← hR]
        simp [eraseA, eraseL, tup, nodeT, hf, hF]
    have n8 : (kd == 8) = false := by simpa using k8
    simp -dsimp -implicitDefEqProofs [hn0, hn, zz, n1, n2, n3, n4, n5, n6, n7, n8]
    refine zn hwf ?_
    rw [← hR]
    simp [eraseA, eraseL, tup, nodeT, k1, k2, k3, k4, k5, k6, k7, k8]
end
section
variable {w0 : World} {base : Nat}
def asT (k : Ke) (sc : Scope) (e : Ex) (t : Int) : Int := if (exprT k sc e).2 = 0 ∧ (exprT k sc e).1 ≠ t then 31 else (exprT k sc e).2
theorem d92 {st : St} {o mo : Nat} {k : Ke} {sc : Scope} {inF : Bool} {lp : Int} (hin : InR k sc) (h : Sees st o mo k sc inF lp) (e : Ex) (har : e.ar) (t : Int) :
   Det Tryz.prog w0 base 92 [.ptr o 0, .agg e.cells, vi t] st (vi (asT k sc e t)) st := by
  refine zh (zp Tryz.func92 r92) fun hwf hfit => z6 Tryz.func92 r92 rfl ?_
  clear hfit
  have hc : ∀ s, Sees s o mo k sc inF lp → Det Tryz.prog w0 base 46 [.ptr o 0, .agg e.cells] s _ s := fun s hs => d46 hin e har s hs
  have hn0 := zj hwf
  have hn := zf hwf
  have hb := Ex.bare_cells e
  have g1 := hwf _ _ h.obj
  unfold asT
  generalize exprT k sc e = R at *
  obtain ⟨u, f⟩ := R
  obtain ⟨yk, yo, yt, yn, yv, ya⟩ := e
  simp only [Ex.cells] at hc hb ⊢
  generalize Ex.cellsL ya = ca at *
  unfold b92
  simp -dsimp -implicitDefEqProofs [hn0, hn, zz]
  refine zo (hc _ (h.bump _)) (by simpa [AV.bareL, AV.bare] using hb) ?_
  by_cases hf : f = 0
  · subst hf
    simp -dsimp -implicitDefEqProofs [hn0, hn, zz, tup]
    refine Br_iff (fun hb => ?_) (fun hb => ?_)
    · have hne : ¬ u = t := by simpa using hb
      simp -dsimp -implicitDefEqProofs [hn0, hn, zz, hb]
      exact zn hwf (by simp [eraseA, hne])
    · have hne : u = t := by simpa using hb
      simp -dsimp -implicitDefEqProofs [hn0, hn, zz, hb]
      exact zn hwf (by simp [eraseA, hne])
  · have hb : (f == 0) = false := by simpa using hf
    simp -dsimp -implicitDefEqProofs [hn0, hn, zz, tup, hb]
    exact zn hwf (by simp [eraseA, hf])
def declP (sc : Scope) (n : Str) (t : Thing) : Scope × Bool := if (sc.lookup n).isSome then (sc, false) else (sc ++ [(n, t)], true)
theorem map_under (U : Nat → Prop) (sc : Scope) : (AObj.map sc.enc).under U := by
 have : ∀ (s : Scope), AV.underL U (s.enc.map (·.1)) ∧ AV.underL U (s.enc.map (·.2)) := by
  intro s
  induction s with
  | nil => simp [Scope.enc, AV.underL]
  | cons x s ih =>
   simp only [Scope.enc, List.map_cons] at ih ⊢
   simp only [AV.underL, AV.under, Thing.cells, true_and, and_true]
   exact ih
 exact this sc
theorem d90 {st : St} {o mo : Nat} {k : Ke} {sc : Scope} {inF : Bool} {lp : Int} (h : Sees st o mo k sc inF lp) (n : Str) (t : Thing) :
   Det Tryz.prog w0 base 90 [.ptr o 0, .str n, .agg t.cells] st (.bool (declP sc n t).2) (st.put mo (.map (declP sc n t).1.enc)) := by
  refine wq (zp Tryz.func90 r90) h.map fun hwf hfit => z6 Tryz.func90 r90 rfl ?_
  clear hfit
  have h1 := h.obj
  have h2 := h.map
  have g1 := hwf _ _ h1
  have g2 := hwf _ _ h2
  have hO := xy hwf h2
  have hn0 := zj hwf
  have hn := zf hwf
  obtain ⟨x, h4, h5, h6⟩ := find_enc n sc
  have hkc : k.cells ++ [AV.map mo, .bool inF, vi lp] = [.str k.name, vi k.group, vi k.sub, .sl (rowOf Ar.cells k.arrays) k.arrays.length .no, .sl (rowOf Pa.cells k.params) k.params.length .no, .sl (rowOf Fu.cells k.funcs) k.funcs.length .no, .sl (Sm.cellsL k.body) k.body.length .no, .map mo, .bool inF, vi lp] := rfl
  rw [hkc] at h1
  obtain ⟨tk, tt, ta⟩ := t
  obtain ⟨⟨uk, ut, ua⟩, hu⟩ : ∃ u, (sc.lookup n).getD Thing.zero = u := ⟨_, rfl⟩
  unfold declP
  simp only [Thing.cells, hu] at *
  unfold b90
  by_cases hs : (sc.lookup n).isSome = true
  · simp only [hs, if_true]
    have h5' : x.isSome = true := h5.trans hs
    simp -dsimp -implicitDefEqProofs [h1, h2, h4, h5', h6, hn0, hn, zz]
    exact vy hwf (z8 hO _) (map_under _ _) (by simp [eraseA])
  · have hs' : (sc.lookup n).isSome = false := Bool.eq_false_iff.2 hs
    have h5' : x.isSome = false := h5.trans hs'
    have hx : x = none := by simpa using h5'
    subst hx
    simp only [hs', if_false, Bool.false_eq_true]
    simp -dsimp -implicitDefEqProofs [h1, h2, h4, h5', h6, hn0, hn, zz]
    have : (sc ++ [(n, (⟨tk, tt, ta⟩ : Thing))]).enc = sc.enc ++ [(AV.str n, AV.agg [vi tk, vi tt, vi ta])] := by simp [Scope.enc, Thing.cells]
    rw [this]
    exact vy hwf (x8 (z8 hO _) _) (this ▸ map_under _ _) (by simp [eraseA])
end
section
variable {w0 : World} {base : Nat}
theorem Sees.row {st : St} {o mo : Nat} {k : Ke} {sc : Scope} {inF : Bool} {lp : Int} (h : Sees st o mo k sc inF lp) : st.objs o = some (.cells 107 [.str k.name, vi k.group, vi k.sub, .sl (rowOf Ar.cells k.arrays) k.arrays.length .no, .sl (rowOf Pa.cells k.params) k.params.length .no, .sl (rowOf Fu.cells k.funcs) k.funcs.length .no, .sl (Sm.cellsL k.body) k.body.length .no, .map mo, .bool inF, vi lp]) := h.obj
theorem findP_arr {k : Ke} {sc : Scope} (hin : InR k sc) {nm : Str} {vk vt va : Int} (hf : findP sc nm [0] = some ⟨vk, vt, va⟩) : ∃ (i : Nat) (F : Ar), va = i ∧ k.arrays[i]? = some F := by
 unfold findP at hf
 rcases hs : sc.lookup nm with _ | t
 ·simp [hs] at hf
 ·simp only [hs] at hf
  split at hf
  ·rename_i hm
   simp only [Option.some.injEq] at hf
   subst hf
   obtain ⟨h0, h1⟩ := (hin nm _ hs).1 (by simpa using hm)
   simp only at h0 h1
   exact ⟨va.toNat, k.arrays[va.toNat]'(by omega), by omega, by simp⟩
  ·exact absurd hf (by simp)
theorem d170 (st : St) (s : Sm) : Det Tryz.prog w0 base 170 [.agg s.cells] st (vi 31) st := by
 refine zh (zp Tryz.func170 r170) fun hwf hfit => z6 Tryz.func170 r170 rfl ?_
 have hn0 := zj hwf
 have hn := zf hwf
 obtain ⟨kd, op, ty, bd, nm, ⟨xk, xo, xt, xn, xv, xa⟩, ⟨yk, yo, yt, yn, yv, ya⟩, body, els⟩ := s
 simp only [Sm.cells, Ex.cells, List.cons_append, List.nil_append]
 unfold b170
 simp -dsimp -implicitDefEqProofs [hn0, hn, zz]
 exact zn hwf (by simp [eraseA])
theorem d166 {st : St} {o mo : Nat} {k : Ke} {sc : Scope} {inF : Bool} {lp : Int} (h : Sees st o mo k sc inF lp) (s : Sm) :
   Det Tryz.prog w0 base 166 [.ptr o 0, .agg s.cells] st (vi (if lp = 0 then 31 else 0)) st := by
  refine zh (zp Tryz.func166 r166) fun hwf hfit => z6 Tryz.func166 r166 rfl ?_
  clear hfit
  have h1 := h.row
  have g1 := hwf _ _ h1
  have hn0 := zj hwf
  have hn := zf hwf
  obtain ⟨kd, op, ty, bd, nm, ⟨xk, xo, xt, xn, xv, xa⟩, ⟨yk, yo, yt, yn, yv, ya⟩, body, els⟩ := s
  simp only [Sm.cells, Ex.cells, List.cons_append, List.nil_append]
  unfold b166
  by_cases hl : lp = 0
  · subst hl
    simp -dsimp -implicitDefEqProofs [hn0, hn, zz, h1]
    exact zn hwf (by simp [eraseA])
  · have hb : (lp == 0) = false := by simpa using hl
    simp -dsimp -implicitDefEqProofs [hn0, hn, zz, h1, hb]
    exact zn hwf (by simp [eraseA, hl])
def setT (k : Ke) (sc : Scope) (nm : Str) (x : Ex) : Int := match findP sc nm [3] with
 | none => 30
 | some v => asT k sc x v.typ
theorem d163 {st : St} {o mo : Nat} {k : Ke} {sc : Scope} {inF : Bool} {lp : Int} (hin : InR k sc) (h : Sees st o mo k sc inF lp) (s : Sm) (har : s.x.ar) :
   Det Tryz.prog w0 base 163 [.ptr o 0, .agg s.cells] st (vi (setT k sc s.name s.x)) st := by
  refine zh (zp Tryz.func163 r163) fun hwf hfit => z6 Tryz.func163 r163 rfl ?_
  clear hfit
  have h1 := h.row
  have g1 := hwf _ _ h1
  have hn0 := zj hwf
  have hn := zf hwf
  obtain ⟨kd, op, ty, bd, nm, x, y, body, els⟩ := s
  have hc : ∀ s t, Sees s o mo k sc inF lp → Det Tryz.prog w0 base 92 [.ptr o 0, .agg x.cells, vi t] s (vi (asT k sc x t)) s := fun s t hs => d92 hin hs x har t
  have bx := Ex.bare_cells x
  unfold setT
  simp only [Sm.x, Sm.name]
  obtain ⟨xk, xo, xt, xn, xv, xa⟩ := x
  obtain ⟨yk, yo, yt, yn, yv, ya⟩ := y
  simp only [Sm.cells, Ex.cells, List.cons_append, List.nil_append] at *
  generalize asT k sc (Ex.mk xk xo xt xn xv xa) = R1 at *
  unfold b163
  simp -dsimp -implicitDefEqProofs [hn0, hn, zz]
  refine zo (d76 (h.bump _) nm [3]) (by simp [AV.bareL, AV.bare]) ?_
  rcases hf : findP sc nm [3] with _ | ⟨vk, vt, va⟩
  · simp -dsimp -implicitDefEqProofs [hn0, hn, zz, foundAV]
    exact zn hwf (by simp [eraseA])
  · simp -dsimp -implicitDefEqProofs [hn0, hn, zz, foundAV, Thing.cells]
    refine zo (hc _ vt (h.bump _)) (by simpa [AV.bareL, AV.bare] using bx) ?_
    simp -dsimp -implicitDefEqProofs [hn0, hn, zz]
    exact zn hwf (by simp [eraseA])
def Ar.zero : Ar := ⟨[], 0, 0, 0⟩
def targetT (k : Ke) (sc : Scope) (nm : Str) (x y : Ex) : Ar × Int := match findP sc nm [0] with
 | none => (Ar.zero, 30)
 | some t => match k.arrays[t.at_.toNat]? with
  | none => (Ar.zero, 30)
  | some a => (a, if asT k sc x 1 = 0 then asT k sc y a.typ else asT k sc x 1)
theorem d204 {st : St} {o mo : Nat} {k : Ke} {sc : Scope} {inF : Bool} {lp : Int} (hin : InR k sc) (h : Sees st o mo k sc inF lp) (s : Sm) (har : s.x.ar) (har' : s.y.ar) :
   Det Tryz.prog w0 base 204 [.ptr o 0, .agg s.cells] st (.tuple [.agg (targetT k sc s.name s.x s.y).1.cells, vi (targetT k sc s.name s.x s.y).2]) st := by
  refine zh (zp Tryz.func204 r204) fun hwf hfit => z6 Tryz.func204 r204 rfl ?_
  clear hfit
  have h1 := h.row
  have g1 := hwf _ _ h1
  have hn0 := zj hwf
  have hn := zf hwf
  obtain ⟨kd, op, ty, bd, nm, x, y, body, els⟩ := s
  have hc : ∀ s t, Sees s o mo k sc inF lp → Det Tryz.prog w0 base 92 [.ptr o 0, .agg x.cells, vi t] s (vi (asT k sc x t)) s := fun s t hs => d92 hin hs x har t
  have hd : ∀ s t, Sees s o mo k sc inF lp → Det Tryz.prog w0 base 92 [.ptr o 0, .agg y.cells, vi t] s (vi (asT k sc y t)) s := fun s t hs => d92 hin hs y har' t
  have bx := Ex.bare_cells x
  have bY := Ex.bare_cells y
  unfold targetT
  simp only [Sm.x, Sm.name, Sm.y]
  obtain ⟨xk, xo, xt, xn, xv, xa⟩ := x
  obtain ⟨yk, yo, yt, yn, yv, ya⟩ := y
  simp only [Sm.cells, Ex.cells, List.cons_append, List.nil_append] at *
  generalize asT k sc (Ex.mk xk xo xt xn xv xa) = R1 at *
  generalize asT k sc (Ex.mk yk yo yt yn yv ya) = R2 at *
  unfold b204
  simp -dsimp -implicitDefEqProofs [hn0, hn, zz, zx, zy, zu, zw, g1]
  refine zo (d76 (h.same hwf (fun p hp => by simp [hp, zx, zy])) nm [0]) (by simp [AV.bareL, AV.bare]) ?_
  rcases hf : findP sc nm [0] with _ | ⟨vk, vt, va⟩
  · simp -dsimp -implicitDefEqProofs [hn0, hn, zz, zx, zy, zu, zw, g1, foundAV]
    refine zg hwf (fun p hp => by simp [hp, zx, zy]) (by simp [eraseA, eraseL, Ar.zero, Ar.cells])
  · obtain ⟨i, F, hi, hF⟩ := findP_arr hin hf
    subst hi
    have hrow := @yg _ Ar.cells 4 Ar.cells_len k.arrays i F hF
    have hle := @ye _ Ar.cells 4 Ar.cells_len k.arrays i F hF
    generalize hcF : rowOf Ar.cells k.arrays = cF at *
    have hlt : i < k.arrays.length := (List.getElem?_eq_some_iff.1 hF).1
    have hlt' : (i : Int) < (k.arrays.length : Int) := by omega
    have hF' : k.arrays[(i : Int).toNat]? = some F := hF
    simp only [hF']
    generalize hL : k.arrays.length = L at *
    obtain ⟨an, asp, at_, al⟩ := F
    simp only [Ar.cells] at *
    simp -dsimp -implicitDefEqProofs [hn0, hn, zz, zx, zy, zu, zw, g1, foundAV, Thing.cells, h1, hlt, hlt', hrow, hle]
    refine zo (hc _ 1 (h.same hwf (fun p hp => by simp [hp, zx, zy]))) (by simpa [AV.bareL, AV.bare] using bx) ?_
    by_cases hx : R1 1 = 0
    · simp -dsimp -implicitDefEqProofs [hn0, hn, zz, zx, zy, zu, zw, g1, hx]
      refine zo (hd _ at_ (h.same hwf (fun p hp => by simp [hp, zx, zy]))) (by simpa [AV.bareL, AV.bare] using bY) ?_
      simp -dsimp -implicitDefEqProofs [hn0, hn, zz, zx, zy, zu, zw, g1]
      refine zg hwf (fun p hp => by simp [hp, zx, zy]) (by simp [eraseA, eraseL, hx])
    · have hb : (R1 1 == 0) = false := by simpa using hx
      simp -dsimp -implicitDefEqProofs [hn0, hn, zz, zx, zy, zu, zw, g1, hb]
      refine zg hwf (fun p hp => by simp [hp, zx, zy]) (by simp [eraseA, eraseL, hx])
end
end Go.Proofs.YthaekebedmoipaaGreatDoor.AM
