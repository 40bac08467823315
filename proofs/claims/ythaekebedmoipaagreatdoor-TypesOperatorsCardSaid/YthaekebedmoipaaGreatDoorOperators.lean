/- The card of TypesOperators: whatever the bytes, the law returns true, and its arguments read as before; no condition beside the card's own. -/
import Derived.Test.YthaekebedmoipaaGreatDoorJ13
set_option linter.unusedVariables false
set_option linter.unusedSimpArgs false
set_option maxRecDepth 100000
namespace Go.Proofs.YthaekebedmoipaaGreatDoor.Operators
open Go Go.ChangeShapes Go.WideShapes Go.ChangeAt Go.RowKit AM

theorem cells5 : Tryz.prog.cellsOf 5 = 1 := by kernel_rfl
theorem cells62 : Tryz.prog.cellsOf 62 = 3 := by kernel_rfl
theorem open_two {H : Type} {enc : TypeId × Value → H} {W : World} {base0 base : Nat} {sp : Nat → Bool} {held : Bool} {v : Value} {d : DataW H} {ps : List MemPlace} (hval : Value.okWide Tryz.prog W .any base0 62 v)
    (hd : DataW.Trod enc Tryz.prog W base sp held 62 v d ps) : ∃ a b c, v = .agg #[.int .u8 a, .int .u8 b, .int .u8 c] ∧ d = .agg [.lit (.int .u8 a), .lit (.int .u8 b), .lit (.int .u8 c)] ∧ ps = [] ∧ (Lit.int .u8 a).wf = true ∧ (Lit.int .u8 b).wf = true ∧ (Lit.int .u8 c).wf = true := by
  simp only [Value.okWide, Tryz.underlying62] at hval
  obtain ⟨cs, rfl, hsz, _⟩ := hval
  rw [cells62] at hsz
  obtain ⟨c0, c1, c2, rfl⟩ : ∃ c0 c1 c2, cs = #[c0, c1, c2] := by
    match cs, hsz with
    | ⟨[c0, c1, c2]⟩, _ => exact ⟨c0, c1, c2, rfl⟩
    | ⟨[]⟩, h => simp at h
    | ⟨[_]⟩, h => simp at h
    | ⟨[_, _]⟩, h => simp at h
    | ⟨_ :: _ :: _ :: _ :: _⟩, h => simp at h
  obtain ⟨fuel, hf⟩ := hd
  obtain ⟨xs, m, rfl, hx, _, hlen, hat⟩ := DataW.trod_array Tryz.underlying62 hf
  have h0 := hat 0 (by decide)
  have h1 := hat 1 (by decide)
  have h2 := hat 2 (by decide)
  obtain ⟨x0, x1, x2, rfl⟩ : ∃ x0 x1 x2, xs = [x0, x1, x2] := by
    match xs, hlen with
    | [x0, x1, x2], _ => exact ⟨x0, x1, x2, rfl⟩
    | [], h => simp at h
    | [_], h => simp at h
    | [_, _], h => simp at h
    | _ :: _ :: _ :: _ :: _, h => simp at h
  simp only [cells5, Value.cells] at h0 h1 h2
  obtain ⟨n0, g0, e0, w0⟩ := DataW.trod_int Tryz.underlying5 h0
  obtain ⟨n1, g1, e1, w1⟩ := DataW.trod_int Tryz.underlying5 h1
  obtain ⟨n2, g2, e2, w2⟩ := DataW.trod_int Tryz.underlying5 h2
  simp at g0 g1 g2
  subst g0 g1 g2
  simp only [Prod.mk.injEq] at hx
  refine ⟨n0, n1, n2, rfl, ?_, ?_, w0, w1, w2⟩
  · rw [hx.1]; simp [e0, e1, e2]
  · rw [hx.2]; simp [e0, e1, e2]
theorem shut_two {H : Type} {enc : TypeId × Value → H} {W W' : World} {v : Value} {d : DataW H} (hd : DataW.Trod enc Tryz.prog W 0 (fun _ => true) true 62 v d []) (hb : Below W.heap.size W W') (sp : Nat → Bool) :
    DataW.Trod enc Tryz.prog W' 0 sp true 62 v d [] :=
  WideElems.Trod_stays (by kernel_rfl) (by kernel_rfl) (of_decide_eq_true (by kernel_rfl)) hd (fun x hx => absurd hx (by simp)) (fun x hx => absurd hx (by simp))
theorem contract (H : Type) (enc : TypeId × Value → H) (W : World) (base : Nat) (args : Array Value) (ds gs : List (DataW H)) (before : List MemPlace)
    (hval : ∀ (j : Nat) t v, Tryz.f7.params[j]? = some t → args[j]? = some v → Value.okWide Tryz.prog W .any base t v)
    (hW : DataW.Whole enc Tryz.prog Tryz.f7.params.toList Rows.typesOperatorsSpec.vars false W args.toList ds gs before) (hL : laidMetH Tryz.prog Rows.typesOperatorsRow.laid W) :
    Calls Tryz.prog 7 args W fun e W' => ∃ v, e = .returned v ∧ Rows.typesOperatorsSpec.post enc Tryz.prog Tryz.f7 false true false false W args v W' := by
  have hW' := hW
  obtain ⟨p, q, hA0, hV, rfl, hfz, hnd⟩ := hW
  have hA : DataW.TrodAll enc Tryz.prog W 0 (fun _ => true) true Tryz.f7.params.toList args.toList ds p := hA0
  rw [Tryz.params7] at hA hval
  obtain ⟨v0, vs0, d0, ds0, p0, q0, hargs, rfl, rfl, h0, r0⟩ := trodAll_cons hA
  obtain ⟨v1, vs1, d1, ds1, p1, q1, rfl, rfl, rfl, h1, r1⟩ := trodAll_cons r0
  obtain ⟨rfl, rfl, rfl⟩ := trodAll_nil r1
  obtain rfl : args = #[v0, v1] := by cases args; simp_all
  obtain ⟨rfl, rfl⟩ := trodVars_none hV
  obtain ⟨g, rfl, rfl, rfl, hg⟩ := open_int Tryz.underlying5 (hval 0 5 v0 rfl rfl) h0
  have h2' := h1
  obtain ⟨a, b, c, rfl, rfl, rfl, ha, hb, hc⟩ := open_two (hval 1 62 v1 rfl rfl) h1
  clear hA0
  simp only [List.append_nil] at hW'
  have hT : Tabs W W.heap.size := tabs_of hL
  have hd := d7 hT St.nil g a b c (bounds_u8 hg).1 (bounds_u8 hg).2 (bounds_u8 ha).1 (bounds_u8 hb).1 (bounds_u8 hc).1
  have walk := law_of_det (us := [.int .u8 g, .agg #[.int .u8 a, .int .u8 b, .int .u8 c]]) hd ⟨_, _, rfl, rfl, _, _, rfl, ⟨_, rfl, ⟨_, _, rfl, rfl, rfl, ⟨_, _, rfl, rfl, rfl, ⟨_, _, rfl, rfl, rfl, rfl⟩⟩⟩⟩, rfl⟩
  refine walk.mono fun e W' ⟨he, hB⟩ => ?_
  subst he
  exact ⟨_, rfl, _, _, _, [], [], [], hW', trodAll_cons_mk (shut_bool Tryz.underlying4 true) trodAll_mk0, trodAll_cons_mk (shut_int Tryz.underlying5 hg) (trodAll_cons_mk (shut_two h2' hB _) trodAll_mk0), rfl, hB.frame _, fun h => by cases h⟩
def zeros : Array Value := #[.int .u8 0, .agg #[.int .u8 0, .int .u8 0, .int .u8 0]]
theorem reads (os : Os) {H : Type} (enc : TypeId × Value → H) : ∃ places, DataW.whole enc Tryz.prog ((laidWorld os).forCall (fun _ _ => 0) ⟨#[], zeros, []⟩).memory Tryz.f7.params.toList Rows.typesOperatorsSpec.vars false zeros.toList 8 = some ([.lit (.int .u8 0), .agg [.lit (.int .u8 0), .lit (.int .u8 0), .lit (.int .u8 0)]], [], places) :=
  ⟨[], by kernel_rfl⟩
theorem lifted (os : Os) (started : os.Started) (H : Type) (enc : TypeId × Value → H) (F : Stop.Interp) :
    ReturnsInHanded {} Tryz.checked os 7 .any ((OpenSpec.ofChange Rows.typesOperatorsSpec).preRow enc Tryz.prog Tryz.f7 Rows.typesOperatorsRow.domain false Rows.typesOperatorsRow.laid) (((OpenSpec.ofChange Rows.typesOperatorsSpec).at F).post enc Tryz.prog Tryz.f7 false true false false) := by
  obtain ⟨places, hx⟩ := reads os enc
  refine returnsInHanded_of_row (C := Tryz.checked) (s := OpenSpec.ofChange Rows.typesOperatorsSpec) own started (by kernel_rfl) Tryz.func7
    (witness_row_at (enc := enc) (C := Tryz.checked) false (laidWorld os) zeros rfl (by kernel_rfl) (by kernel_rfl) (by kernel_rfl)
      (OpenSpec.preRow_of_cond 8 hx (by kernel_rfl) (fun k hk => by cases hk) (by kernel_rfl) (laid_met os zeros))) ?_
  intro W base args ds gs before hval hW _ _ _ hL _ _
  exact contract H enc W base args ds gs before hval hW hL
theorem said : Rows.TypesOperatorsSaid :=
  OpenClaim.holds_of_cond 7 Tryz.f7 rfl rfl rfl rfl rfl rfl rfl ⟨rfl, rfl, rfl, rfl, rfl⟩ rfl rfl rfl rfl rfl (by kernel_rfl) Tryz.func7 (by kernel_rfl)
    (of_decide_eq_true (by kernel_rfl)) (by unfold Func.isWrapper; first | (rw [if_pos (by decide +kernel)]; kernel_rfl) | (rw [if_neg (by decide +kernel)]; exact ⟨rfl, rfl⟩))
    (fun os started H enc _ F => by rw [OpenClaim.pre_eq_preRow]; exact lifted os started H enc F)
theorem plain (f : FuncId) (fn : Func) (hf : Tryz.pinned.checked.prog.funcNamed "warpwright/warpwrightlaw03.TypesOperators" = some f) (hfn : Tryz.pinned.checked.prog.funcs[f]? = some fn) :
    true = Tryz.pinned.checked.prog.looks [] ∧ ∀ (j : Nat) t, fn.params[j]? = some t → Tryz.pinned.checked.prog.wantsStandIn t = false := by
  obtain rfl : f = 7 := Option.some.inj ((show Tryz.prog.funcNamed "warpwright/warpwrightlaw03.TypesOperators" = some 7 by kernel_rfl).symm.trans hf) |>.symm
  obtain rfl : fn = Tryz.f7 := (Option.some.inj (Tryz.func7.symm.trans hfn)).symm
  refine ⟨by kernel_rfl, fun j t ht => ?_⟩
  rw [Tryz.params7] at ht
  have : t = 5 ∨ t = 62 := by simpa using Array.mem_of_getElem? ht
  rcases this with rfl | rfl
  · exact (show Tryz.prog.wantsStandIn 5 = false by kernel_rfl)
  · exact (show Tryz.prog.wantsStandIn 62 = false by kernel_rfl)
theorem card : Rows.TypesOperatorsCardSaid :=
  Claim7.holds_tied_plain_at .later [] _ _ _ _ said (fun _ h => by cases h) (by kernel_rfl) (fun _ h => by cases h) typesOperators_row_tie rfl ⟨rfl, rfl⟩ (by kernel_rfl) rfl plain (by kernel_rfl)
#print axioms card
end Go.Proofs.YthaekebedmoipaaGreatDoor.Operators
