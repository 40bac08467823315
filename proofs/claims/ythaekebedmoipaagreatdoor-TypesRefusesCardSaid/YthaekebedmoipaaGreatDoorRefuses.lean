/- The card of TypesRefuses: whatever the numbers, the law returns true, and its arguments read as before; no condition beside the card's own. -/
import Derived.Test.YthaekebedmoipaaGreatDoorJ11
set_option linter.unusedVariables false
set_option linter.unusedSimpArgs false
set_option maxRecDepth 100000
namespace Go.Proofs.YthaekebedmoipaaGreatDoor.Refuses
open Go Go.ChangeShapes Go.WideShapes Go.ChangeAt Go.RowKit AM

theorem cells3 : Tryz.prog.cellsOf 3 = 1 := by kernel_rfl
theorem cells71 : Tryz.prog.cellsOf 71 = 2 := by kernel_rfl
theorem open_two {H : Type} {enc : TypeId × Value → H} {W : World} {base0 base : Nat} {sp : Nat → Bool} {held : Bool} {v : Value} {d : DataW H} {ps : List MemPlace} (hval : Value.okWide Tryz.prog W .any base0 71 v)
    (hd : DataW.Trod enc Tryz.prog W base sp held 71 v d ps) : ∃ a b, v = .agg #[.int .i64 a, .int .i64 b] ∧ d = .agg [.lit (.int .i64 a), .lit (.int .i64 b)] ∧ ps = [] ∧ (Lit.int .i64 a).wf = true ∧ (Lit.int .i64 b).wf = true := by
  simp only [Value.okWide, Tryz.underlying71] at hval
  obtain ⟨cs, rfl, hsz, _⟩ := hval
  rw [cells71] at hsz
  obtain ⟨c0, c1, rfl⟩ : ∃ c0 c1, cs = #[c0, c1] := by
    match cs, hsz with
    | ⟨[c0, c1]⟩, _ => exact ⟨c0, c1, rfl⟩
    | ⟨[]⟩, h => simp at h
    | ⟨[_]⟩, h => simp at h
    | ⟨_ :: _ :: _ :: _⟩, h => simp at h
  obtain ⟨fuel, hf⟩ := hd
  obtain ⟨xs, m, rfl, hx, _, hlen, hat⟩ := DataW.trod_array Tryz.underlying71 hf
  have h0 := hat 0 (by decide)
  have h1 := hat 1 (by decide)
  obtain ⟨x0, x1, rfl⟩ : ∃ x0 x1, xs = [x0, x1] := by
    match xs, hlen with
    | [x0, x1], _ => exact ⟨x0, x1, rfl⟩
    | [], h => simp at h
    | [_], h => simp at h
    | _ :: _ :: _ :: _, h => simp at h
  simp only [cells3, Value.cells] at h0 h1
  obtain ⟨n0, g0, e0, w0⟩ := DataW.trod_int Tryz.underlying3 h0
  obtain ⟨n1, g1, e1, w1⟩ := DataW.trod_int Tryz.underlying3 h1
  simp at g0 g1
  subst g0 g1
  simp only [Prod.mk.injEq] at hx
  refine ⟨n0, n1, rfl, ?_, ?_, w0, w1⟩
  · rw [hx.1]; simp [e0, e1]
  · rw [hx.2]; simp [e0, e1]
theorem shut_two {H : Type} {enc : TypeId × Value → H} {W W' : World} {v : Value} {d : DataW H} (hd : DataW.Trod enc Tryz.prog W 0 (fun _ => true) true 71 v d []) (hb : Below W.heap.size W W') (sp : Nat → Bool) :
    DataW.Trod enc Tryz.prog W' 0 sp true 71 v d [] :=
  WideElems.Trod_stays (by kernel_rfl) (by kernel_rfl) (of_decide_eq_true (by kernel_rfl)) hd (fun x hx => absurd hx (by simp)) (fun x hx => absurd hx (by simp))
theorem i64_of {n : Int} (h : (Lit.int .i64 n).wf = true) : i64ok n := bounds_i64 h
theorem contract (H : Type) (enc : TypeId × Value → H) (W : World) (base : Nat) (args : Array Value) (ds gs : List (DataW H)) (before : List MemPlace)
    (hval : ∀ (j : Nat) t v, Tryz.f10.params[j]? = some t → args[j]? = some v → Value.okWide Tryz.prog W .any base t v)
    (hW : DataW.Whole enc Tryz.prog Tryz.f10.params.toList Rows.typesRefusesSpec.vars false W args.toList ds gs before) (hL : laidMetH Tryz.prog Rows.typesRefusesRow.laid W) :
    Calls Tryz.prog 10 args W fun e W' => ∃ v, e = .returned v ∧ Rows.typesRefusesSpec.post enc Tryz.prog Tryz.f10 false true false false W args v W' := by
  have hW' := hW
  obtain ⟨p, q, hA0, hV, rfl, hfz, hnd⟩ := hW
  have hA : DataW.TrodAll enc Tryz.prog W 0 (fun _ => true) true Tryz.f10.params.toList args.toList ds p := hA0
  rw [Tryz.params10] at hA hval
  obtain ⟨v0, vs0, d0, ds0, p0, q0, hargs, rfl, rfl, h0, r0⟩ := trodAll_cons hA
  obtain ⟨v1, vs1, d1, ds1, p1, q1, rfl, rfl, rfl, h1, r1⟩ := trodAll_cons r0
  obtain ⟨v2, vs2, d2, ds2, p2, q2, rfl, rfl, rfl, h2, r2⟩ := trodAll_cons r1
  obtain ⟨rfl, rfl, rfl⟩ := trodAll_nil r2
  obtain rfl : args = #[v0, v1, v2] := by cases args; simp_all
  obtain ⟨rfl, rfl⟩ := trodVars_none hV
  obtain ⟨g, rfl, rfl, rfl, hg⟩ := open_int Tryz.underlying3 (hval 0 3 v0 rfl rfl) h0
  obtain ⟨s, rfl, rfl, rfl, hs⟩ := open_int Tryz.underlying3 (hval 1 3 v1 rfl rfl) h1
  have h2' := h2
  obtain ⟨a, b, rfl, rfl, rfl, ha, hb⟩ := open_two (hval 2 71 v2 rfl rfl) h2
  clear hA0
  simp only [List.append_nil] at hW'
  have hT : Tabs W W.heap.size := tabs_of hL
  have hd := d10 hT St.nil g s a b (i64_of hg) (i64_of hs) (i64_of ha) (i64_of hb)
  have walk := law_of_det (us := [.int .i64 g, .int .i64 s, .agg #[.int .i64 a, .int .i64 b]]) hd ⟨_, _, rfl, rfl, _, _, rfl, rfl, _, _, rfl, ⟨_, rfl, ⟨_, _, rfl, rfl, rfl, ⟨_, _, rfl, rfl, rfl, rfl⟩⟩⟩, rfl⟩
  refine walk.mono fun e W' ⟨he, hB⟩ => ?_
  subst he
  exact ⟨_, rfl, _, _, _, [], [], [], hW', trodAll_cons_mk (shut_bool Tryz.underlying4 true) trodAll_mk0, trodAll_cons_mk (shut_int Tryz.underlying3 hg) (trodAll_cons_mk (shut_int Tryz.underlying3 hs) (trodAll_cons_mk (shut_two h2' hB _) trodAll_mk0)), rfl, hB.frame _, fun h => by cases h⟩
def zeros : Array Value := #[.int .i64 0, .int .i64 0, .agg #[.int .i64 0, .int .i64 0]]
theorem reads (os : Os) {H : Type} (enc : TypeId × Value → H) : ∃ places, DataW.whole enc Tryz.prog ((laidWorld os).forCall (fun _ _ => 0) ⟨#[], zeros, []⟩).memory Tryz.f10.params.toList Rows.typesRefusesSpec.vars false zeros.toList 8 = some ([.lit (.int .i64 0), .lit (.int .i64 0), .agg [.lit (.int .i64 0), .lit (.int .i64 0)]], [], places) :=
  ⟨[], by kernel_rfl⟩
theorem lifted (os : Os) (started : os.Started) (H : Type) (enc : TypeId × Value → H) (F : Stop.Interp) :
    ReturnsInHanded {} Tryz.checked os 10 .any ((OpenSpec.ofChange Rows.typesRefusesSpec).preRow enc Tryz.prog Tryz.f10 Rows.typesRefusesRow.domain false Rows.typesRefusesRow.laid) (((OpenSpec.ofChange Rows.typesRefusesSpec).at F).post enc Tryz.prog Tryz.f10 false true false false) := by
  obtain ⟨places, hx⟩ := reads os enc
  refine returnsInHanded_of_row (C := Tryz.checked) (s := OpenSpec.ofChange Rows.typesRefusesSpec) own started (by kernel_rfl) Tryz.func10
    (witness_row_at (enc := enc) (C := Tryz.checked) false (laidWorld os) zeros rfl (by kernel_rfl) (by kernel_rfl) (by kernel_rfl)
      (OpenSpec.preRow_of_cond 8 hx (by kernel_rfl) (fun k hk => by cases hk) (by kernel_rfl) (laid_met os zeros))) ?_
  intro W base args ds gs before hval hW _ _ _ hL _ _
  exact contract H enc W base args ds gs before hval hW hL
theorem said : Rows.TypesRefusesSaid :=
  OpenClaim.holds_of_cond 10 Tryz.f10 rfl rfl rfl rfl rfl rfl rfl ⟨rfl, rfl, rfl, rfl, rfl⟩ rfl rfl rfl rfl rfl (by kernel_rfl) Tryz.func10 (by kernel_rfl)
    (of_decide_eq_true (by kernel_rfl)) (by unfold Func.isWrapper; first | (rw [if_pos (by decide +kernel)]; kernel_rfl) | (rw [if_neg (by decide +kernel)]; exact ⟨rfl, rfl⟩))
    (fun os started H enc _ F => by rw [OpenClaim.pre_eq_preRow]; exact lifted os started H enc F)
theorem plain (f : FuncId) (fn : Func) (hf : Tryz.pinned.checked.prog.funcNamed "warpwright/warpwrightlaw03.TypesRefuses" = some f) (hfn : Tryz.pinned.checked.prog.funcs[f]? = some fn) :
    true = Tryz.pinned.checked.prog.looks [] ∧ ∀ (j : Nat) t, fn.params[j]? = some t → Tryz.pinned.checked.prog.wantsStandIn t = false := by
  obtain rfl : f = 10 := Option.some.inj ((show Tryz.prog.funcNamed "warpwright/warpwrightlaw03.TypesRefuses" = some 10 by kernel_rfl).symm.trans hf) |>.symm
  obtain rfl : fn = Tryz.f10 := (Option.some.inj (Tryz.func10.symm.trans hfn)).symm
  refine ⟨by kernel_rfl, fun j t ht => ?_⟩
  rw [Tryz.params10] at ht
  have : t = 3 ∨ t = 71 := by simpa using Array.mem_of_getElem? ht
  rcases this with rfl | rfl
  · exact (show Tryz.prog.wantsStandIn 3 = false by kernel_rfl)
  · exact (show Tryz.prog.wantsStandIn 71 = false by kernel_rfl)
theorem card : Rows.TypesRefusesCardSaid :=
  Claim7.holds_tied_plain_at .later [] _ _ _ _ said (fun _ h => by cases h) (by kernel_rfl) (fun _ h => by cases h) typesRefuses_row_tie rfl ⟨rfl, rfl⟩ (by kernel_rfl) rfl plain (by kernel_rfl)
#print axioms card
end Go.Proofs.YthaekebedmoipaaGreatDoor.Refuses
