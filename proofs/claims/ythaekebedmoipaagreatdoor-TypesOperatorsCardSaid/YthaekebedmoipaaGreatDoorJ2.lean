/- Part 2 of the proof: A10 A11 A12 A13 A14 A15 A16 A17. -/
import Derived.Test.YthaekebedmoipaaGreatDoorJ1
/- The abstract logic, part 10: what a resolved form is worth. -/
set_option linter.unusedVariables false
set_option linter.unusedSimpArgs false
namespace Go.Proofs.YthaekebedmoipaaGreatDoor.AM
open Go Go.RowKit

section
variable {P : Program} {w0 : World} {base : Nat} {G : Gh} {st : St} {w : World} {env : Env} {a : Act}

theorem pe_sound (hI : Inv w0 base G st w) (hR : RepEnv G w env a) {o : Oper} {e : PE} {av : AV} (hr : resPE P o.op = some e) (he : e.eval env = some av) :
    Worth P w0 base G st st w (execOp a.eval o) av := by
  obtain ⟨dst, op, ty, pos, after, guard⟩ := o
  simp only at hr
  cases op with
  | move x =>
    obtain ⟨o, ho, rfl⟩ := Option.map_eq_some_iff.1 hr
    cases he
    exact worth_stay hI rfl (resO_sound hR ho)
  | assign x =>
    obtain ⟨o, ho, rfl⟩ := Option.map_eq_some_iff.1 hr
    cases he
    exact worth_stay hI rfl (resO_sound hR ho)
  | pick c x y =>
    simp only [resPE, Option.pure_def, Option.bind_eq_bind, Option.bind_eq_some_iff] at hr
    obtain ⟨c', hc, x', hx, y', hy, e⟩ := hr
    cases e
    simp only [PE.eval] at he
    split at he
    · rename_i t ht
      cases he
      have h1 := resO_sound hR hc
      rw [ht] at h1
      simp only [Rep] at h1
      refine worth_stay hI (v := if t then a.eval x else a.eval y) (by simp [execOp, h1, asBool]) ?_
      cases t
      · exact resO_sound hR hy
      · exact resO_sound hR hx
    · cases he
  | nilCheck x =>
    obtain ⟨o, ho, rfl⟩ := Option.map_eq_some_iff.1 hr
    have h1 := resO_sound hR ho
    simp only [PE.eval] at he
    split at he
    · rename_i o' f heq
      cases he
      rw [heq] at h1
      obtain ⟨h2, ad, h3, h4⟩ := h1
      refine worth_stay hI (v := a.eval x) ?_ ⟨h2, ad, h3, h4⟩
      simp only [execOp, h3]; rfl
    · rename_i cs f heq
      cases he
      rw [heq] at h1
      obtain ⟨vs, ad, h2, h3, h4⟩ := h1
      refine worth_stay hI (v := a.eval x) ?_ ⟨vs, ad, h2, h3, h4⟩
      simp only [execOp, h4]; rfl
    · rename_i f p q heq
      cases he
      rw [heq] at h1
      obtain ⟨p', q', h2, h3, h4⟩ := h1
      refine worth_stay hI (v := a.eval x) ?_ ⟨p', q', h2, h3, h4⟩
      simp only [execOp, h2]; rfl
    · cases he
  | binOp op t x y yt =>
    simp only [resPE, Option.pure_def, Option.bind_eq_bind, Option.bind_eq_some_iff] at hr
    obtain ⟨x', hx, y', hy, hr⟩ := hr
    have h1 := resO_sound hR hx
    have h2 := resO_sound hR hy
    split at hr
    · rename_i fs hu
      split at hr
      · rename_i ks hks
        split at hr
        · rename_i hc
          cases hr
          simp only [Bool.not_eq_true', Bool.not_eq_eq_eq_not, Bool.not_true] at hc
          obtain ⟨hop, hs1, hs2⟩ := hc
          simp only [PE.eval] at he
          split at he
          · rename_i xs ys e1 e2
            obtain ⟨b, hb, rfl⟩ := Option.map_eq_some_iff.1 he
            rw [e1] at h1
            rw [e2] at h2
            obtain ⟨us, e3, h3⟩ := h1
            obtain ⟨vs, e4, h4⟩ := h2
            refine worth_v hI (v := .bool (if decide (op = .neq) then !b else b)) ?_ rfl
            have := run_eqs (w := w) hu hks hs1 hs2 h3 h4 hb op hop x y
            rw [← e3, ← e4] at this
            exact this
          · cases he
        · cases hr
      · cases hr
    all_goals first
      | (cases hr
         obtain ⟨r, hr1, hr2⟩ := run_binA (d := _) he h1 h2 ‹_› (by trivial) x y
         exact worth_v hI hr1 hr2)
      | cases hr
  | unOp op t x =>
    simp only [resPE, Option.pure_def, Option.bind_eq_bind, Option.bind_eq_some_iff] at hr
    obtain ⟨x', hx, e⟩ := hr
    cases e
    obtain ⟨r, hr1, hr2⟩ := run_unA he (resO_sound hR hx)
    exact worth_v hI hr1 hr2
  | convert src dst x =>
    simp only [resPE, Option.pure_def, Option.bind_eq_bind, Option.bind_eq_some_iff] at hr
    obtain ⟨x', hx, hr⟩ := hr
    have h1 := resO_sound hR hx
    split at hr
    · rename_i d k hs hd
      cases hr
      simp only [PE.eval] at he
      unfold cvA at he
      split at he <;> rename_i heq1 heq2 <;> first
        | (cases heq1
           cases he
           rw [heq2] at h1
           simp only [Rep] at h1
           refine worth_v hI (v := .int k (k.wrap _)) ?_ rfl
           simp only [h1, convert, Sem.run_bind, run_underlying hs, run_underlying hd, Result.andThen_ok]
           rfl)
        | cases heq1
        | cases he
    · rename_i hs hd
      cases hr
      simp only [PE.eval] at he
      unfold cvA at he
      split at he <;> rename_i heq1 heq2 <;> first
        | (cases heq1
           cases he
           rw [heq2] at h1
           refine worth_v hI (v := a.eval x) ?_ h1
           obtain ⟨h1, _⟩ := h1
           simp only [h1, convert, Sem.run_bind, run_underlying hs, run_underlying hd, Result.andThen_ok]
           rfl)
        | cases heq1
        | cases he
    · rename_i e hs hd
      split at hr
      · rename_i he8
        cases hr
        have he8' : P.underlying e = some (.int .u8) := by
          first
            | exact he8
            | (split at he8
               · assumption
               · cases he8)
        simp only [PE.eval] at he
        unfold cvA at he
        split at he <;> rename_i heq1 heq2 <;> first
          | (cases heq1
             split at he
             · rename_i hlen
               obtain ⟨l, hl, rfl⟩ := Option.map_eq_some_iff.1 he
               rw [heq2] at h1
               obtain ⟨r, hr1, hr2⟩ := run_bytesStr hs he8' hd hlen hl h1
               exact worth_v hI hr1 hr2
             · cases he)
          | cases heq1
          | cases he
      · cases hr
    · cases hr
  | build t parts =>
    simp only [resPE, Option.pure_def, Option.bind_eq_bind, Option.bind_eq_some_iff] at hr
    obtain ⟨z, hz, hr⟩ := hr
    split at hr
    · rename_i z' 
      split at hr
      · rename_i fields hu
        simp only [Option.bind_eq_some_iff] at hr
        obtain ⟨rs, hrs, hr⟩ := hr
        split at hr
        · rename_i hall
          cases hr
          simp only [PE.eval] at he
          obtain ⟨cs, hcs, rfl⟩ := Option.map_eq_some_iff.1 he
          obtain ⟨r, hr1, hr2⟩ := run_buildA hR hz hu hrs hcs hall
          exact worth_v hI hr1 hr2
        · cases hr
      · cases hr
    · cases hr
  | buildSlice t len parts =>
    simp only [resPE, Option.pure_def, Option.bind_eq_bind] at hr
    split at hr
    · rename_i e hu
      simp only [Option.bind_eq_some_iff] at hr
      obtain ⟨n, hn, xs, hxs, hr⟩ := hr
      split at hr
      · cases hr
      · rename_i hc
        cases hr
        simp only [not_or] at hc
        obtain ⟨c1, c2, c3, c4⟩ := hc
        simp only [PE.eval] at he
        obtain ⟨cs, hcs, rfl⟩ := Option.map_eq_some_iff.1 he
        obtain ⟨r, w', G', q1, q2, q3, q4, q5⟩ := run_litsA (len := len) hI hR hu hn hxs hcs c1 c2 (by simpa using c3) (by simpa [Option.isSome_iff_ne_none] using c4)
        exact ⟨r, w', G', .inl (by simp only [execOp, Sem.run_bind, q1, Result.andThen_ok, Sem.run_pure]), q2, q3, q4, q5⟩
    · cases hr
  | field t x f =>
    simp only [resPE, Option.pure_def, Option.bind_eq_bind, Option.bind_eq_some_iff] at hr
    obtain ⟨x', hx, hr⟩ := hr
    split at hr
    · rename_i fields hu
      simp only [Option.bind_eq_some_iff] at hr
      obtain ⟨fd, hf, n, hn, hr⟩ := hr
      split at hr
      · rename_i hus
        cases hr
        simp only [PE.eval] at he
        split at he
        · rename_i cs heq
          have h1 := resO_sound hR hx
          rw [heq] at h1
          obtain ⟨vs, h2, h3⟩ := h1
          obtain ⟨r, hr1, hr2⟩ := run_part hus hn h3 he
          refine worth_v hI (v := r) ?_ hr2
          simp only [Instr.field, Sem.run_bind, run_underlying hu, Result.andThen_ok, hf, h2, asAgg, Sem.run_pure, hr1]
        · cases he
      · cases hr
    · cases hr
  | fieldAddr t x f =>
    simp only [resPE, Option.pure_def, Option.bind_eq_bind, Option.bind_eq_some_iff] at hr
    obtain ⟨x', hx, hr⟩ := hr
    split at hr
    · rename_i fields hu
      simp only [Option.bind_eq_some_iff] at hr
      obtain ⟨fd, hf, n, hn, hr⟩ := hr
      split at hr
      · cases hr
      · rename_i hn0
        cases hr
        have h1 := resO_sound hR hx
        have key : ∀ ad : Addr, a.eval x = .pointer (some ad) → (Instr.fieldAt t (a.eval x) f).run P w = .ok (.pointer (some (ad.add fd.offset))) w := by
          intro ad had
          simp [Instr.fieldAt, run_underlying hu, hf, had, Instr.sureAddr, fieldPlace, run_size hn, hn0]
        simp only [PE.eval] at he
        split at he
        · rename_i o' g heq
          cases he
          rw [heq] at h1
          obtain ⟨h2, ad, h3, h4⟩ := h1
          refine worth_v hI (key ad h3) ⟨h2, _, rfl, fun b hb => ?_⟩
          rw [h4 b hb, add_plain]
        · rename_i cs g heq
          cases he
          rw [heq] at h1
          obtain ⟨vs, ad, h2, h3, h4⟩ := h1
          exact worth_v hI (key _ h4) ⟨vs, ad, h2, h3, by rw [add_add]⟩
        · cases he
    · cases hr
  | indexAddr t x i =>
    simp only [resPE, Option.pure_def, Option.bind_eq_bind, Option.bind_eq_some_iff] at hr
    obtain ⟨x', hx, i', hi, hr⟩ := hr
    have h1 := resO_sound hR hx
    have h2 := resO_sound hR hi
    split at hr
    · rename_i e hu
      simp only [Option.bind_eq_some_iff] at hr
      obtain ⟨n, hn, hr⟩ := hr
      cases hr
      simp only [PE.eval] at he
      split at he
      · rename_i cs m p k j e1 e2
        split at he
        · rename_i hc
          cases he
          obtain ⟨r, hr1, hr2⟩ := run_idxA hu hn h1 h2 e2 hc.1 hc.2 (.inl ⟨cs, p, e1, rfl⟩)
          exact worth_v hI hr1 hr2
        · cases he
      · rename_i o m k j e1 e2
        split at he
        · rename_i hc
          cases he
          obtain ⟨r, hr1, hr2⟩ := run_idxA hu hn h1 h2 e2 hc.1 hc.2 (.inr ⟨o, e1, rfl⟩)
          exact worth_v hI hr1 hr2
        · cases he
      · cases he
    · rename_i len e hu
      simp only [Option.bind_eq_some_iff] at hr
      obtain ⟨n, hn, hr⟩ := hr
      cases hr
      have key : ∀ (ad : Addr) (k : IntKind) (j : Int), a.eval x = .pointer (some ad) → a.eval i = .int k j → 0 ≤ j → j < len → (Instr.indexAt t (a.eval x) (a.eval i)).run P w = .ok (.pointer (some (ad.add (j.toNat * n)))) w := by
        intro ad k j had hj h0 h1
        simp [Instr.indexAt, asIntOf, run_underlying hu, had, hj, Instr.sureAddr, run_size hn, h0, h1]
      simp only [PE.eval] at he
      split at he
      · rename_i o f k j e1 e2
        split at he
        · rename_i hc
          cases he
          rw [e1] at h1
          rw [e2] at h2
          obtain ⟨h3, ad, h4, h5⟩ := h1
          refine worth_v hI (key ad k j h4 h2 hc.1 hc.2) ⟨h3, _, rfl, fun b hb => ?_⟩
          rw [h5 b hb, add_plain]
        · cases he
      · rename_i cs f k j e1 e2
        split at he
        · rename_i hc
          cases he
          rw [e1] at h1
          rw [e2] at h2
          obtain ⟨vs, ad, h3, h4, h5⟩ := h1
          exact worth_v hI (key _ k j h5 h2 hc.1 hc.2) ⟨vs, ad, h3, h4, by rw [add_add]⟩
        · cases he
      · cases he
    · cases hr
  | index t x i =>
    simp only [resPE, Option.pure_def, Option.bind_eq_bind, Option.bind_eq_some_iff] at hr
    obtain ⟨x', hx, i', hi, hr⟩ := hr
    have h1 := resO_sound hR hx
    have h2 := resO_sound hR hi
    split at hr
    · rename_i hu
      cases hr
      simp only [PE.eval] at he
      split at he
      · rename_i s k j e1 e2
        split at he
        · rename_i h0
          obtain ⟨b, hb, rfl⟩ := Option.map_eq_some_iff.1 he
          rw [e1] at h1
          rw [e2] at h2
          obtain ⟨h1, _⟩ := h1
          simp only [Rep] at h2
          refine worth_v hI (v := .int .u8 b.toNat) ?_ rfl
          have hget : (⟨⟨s⟩⟩ : ByteArray)[j.toNat]? = some b := by
            obtain ⟨hlt, hv⟩ := List.getElem?_eq_some_iff.1 hb
            exact getElem?_eq_some_iff.2 ⟨hlt, hv⟩
          simp [Instr.index, asIntOf, run_underlying hu, h1, h2, h0, hget]
        · cases he
      · cases he
    · cases hr
  | extract x i =>
    simp only [resPE, Option.pure_def, Option.bind_eq_bind, Option.bind_eq_some_iff] at hr
    obtain ⟨x', hx, e⟩ := hr
    cases e
    simp only [PE.eval] at he
    split at he
    · rename_i vs heq
      have h1 := resO_sound hR hx
      rw [heq] at h1
      obtain ⟨us, h2, h3⟩ := h1
      obtain ⟨u, hu, hru⟩ := repL_get h3 i av he
      refine worth_v hI (v := u) ?_ hru
      simp [Instr.extract, h2, hu]
    · cases he
  | makeInterface t x =>
    simp only [resPE, Option.pure_def, Option.bind_eq_bind, Option.bind_eq_some_iff] at hr
    obtain ⟨x', hx, hr⟩ := hr
    split at hr
    · cases hr
    · cases hr
    · rename_i hni hnn
      cases hr
      cases he
      refine worth_v hI (v := .iface t (a.eval x)) ?_ ⟨_, rfl, resO_sound hR hx⟩
      cases hu : P.underlying t with
      | none => exact absurd hu hnn
      | some d =>
        simp only [Instr.makeInterface, Sem.run_bind, run_underlying hu, Result.andThen_ok]
        split
        · rename_i m; exact absurd hu (hni m)
        · rfl
  | makeFunc fn first cap =>
    simp only [resPE, Option.pure_def, Option.bind_eq_bind, Option.bind_eq_some_iff] at hr
    obtain ⟨f', hf, c', hc, e⟩ := hr
    cases e
    cases he
    refine worth_v hI (v := .func fn (first.map a.eval) (cap.map a.eval)) rfl ⟨first.toList.map a.eval, cap.toList.map a.eval, ?_, resOs_sound hR hf, resOs_sound hR hc⟩
    congr 1 <;> (apply Array.ext'; simp)
  | slice t x lo hi mx =>
    cases mx with
    | some m => cases hr
    | none =>
      simp only [resPE, Option.pure_def, Option.bind_eq_bind, Option.bind_eq_some_iff] at hr
      obtain ⟨x', hx, lo', hlo, hi', hhi, hr⟩ := hr
      have h1 := resO_sound hR hx
      split at hr
      · rename_i hu
        cases hr
        simp only [PE.eval] at he
        split at he
        · rename_i s heq
          split at he
          · rename_i l h hl hh
            split at he
            · rename_i hc
              cases he
              rw [heq] at h1
              obtain ⟨h2, h3⟩ := h1
              have hb := run_bounds (P := P) false (opt_map (bound_sound hR hlo hl)) (opt_map (bound_sound hR hhi hh)) hc.1 hc.2 (Nat.le_refl _) w
              refine worth_v hI (v := .string ⟨⟨(s.take h).drop l⟩⟩) ?_ ⟨rfl, by simp; omega⟩
              simp only [Option.map_none, Instr.sliceAt, Instr.slice, Sem.run_bind, run_underlying hu, Result.andThen_ok, h2, Option.isSome_none, Bool.false_eq_true, if_false, ba_size, hb, ba_extract, Sem.run_pure]
            · cases he
          · cases he
        · cases he
      · rename_i e hu
        simp only [Option.bind_eq_some_iff] at hr
        obtain ⟨n, hn, hr⟩ := hr
        cases hr
        simp only [PE.eval] at he
        split at he
        · rename_i cs m p heq
          split at he
          · rename_i l h hl hh
            split at he
            · rename_i hc
              cases he
              obtain ⟨r, hr1, hr2⟩ := run_slcL hu hn h1 (.inl ⟨cs, p, heq, hc.1, hc.2.1, hc.2.2, rfl⟩) (opt_map (bound_sound hR hlo hl)) (opt_map (bound_sound hR hhi hh))
              exact worth_v hI hr1 hr2
            · cases he
          · cases he
        · rename_i o m heq
          split at he
          · rename_i h hl hh
            split at he
            · rename_i hc
              cases he
              obtain ⟨r, hr1, hr2⟩ := run_slcL hu hn h1 (.inr ⟨o, heq, rfl, hc, rfl⟩) (opt_map (bound_sound hR hlo hl)) (opt_map (bound_sound hR hhi hh))
              exact worth_v hI hr1 hr2
            · cases he
          · cases he
        · cases he
      · cases hr
  | call c =>
    obtain ⟨callee, args, tys⟩ := c
    simp only [resPE] at hr
    split at hr
    · rename_i b
      have hargs : args = args.toList.toArray := by simp
      have htys : tys = tys.toList.toArray := by simp
      generalize args.toList = al at *
      generalize tys.toList = tl at *
      subst hargs; subst htys
      unfold resB at hr
      split at hr
      · split at hr
        · rename_i x t
          split at hr
          · rename_i x' hx hu
            cases hr
            have h1 := resO_sound hR hx
            simp only [PE.eval] at he
            split at he
            · rename_i s heq
              cases he
              rw [heq] at h1
              obtain ⟨h1, _⟩ := h1
              exact worth_stay hI (v := .int .i64 s.length) (by simp [execOp, resolve, invoke, builtin, Builtin.len_, run_underlying hu, h1, ba_size, goInt]) rfl
            · cases he
          · rename_i x' e hx hu
            cases hr
            have h1 := resO_sound hR hx
            simp only [PE.eval] at he
            split at he
            · rename_i cs n p heq
              cases he
              rw [heq] at h1
              obtain ⟨vs, ad, cap, _, _, h1, _⟩ := h1
              exact worth_stay hI (v := .int .i64 n) (by simp [execOp, resolve, invoke, builtin, Builtin.len_, run_underlying hu, h1, goInt]) rfl
            · rename_i o n heq
              cases he
              rw [heq] at h1
              obtain ⟨_, ad, cap, h1, _⟩ := h1
              exact worth_stay hI (v := .int .i64 n) (by simp [execOp, resolve, invoke, builtin, Builtin.len_, run_underlying hu, h1, goInt]) rfl
            · cases he
          · rename_i x' k e hx hu
            cases hr
            have h1 := resO_sound hR hx
            simp only [PE.eval] at he
            split at he
            · rename_i heq
              cases he
              rw [heq] at h1
              simp only [Rep] at h1
              exact worth_stay hI (v := .int .i64 0) (by simp [execOp, resolve, invoke, builtin, Builtin.len_, run_underlying hu, h1, goInt]) rfl
            · cases he
          · cases hr
        · cases hr
      · split at hr
        · rename_i x y
          split at hr
          · rename_i x' y' hx hy
            cases hr
            have h1 := resO_sound hR hx
            have h2 := resO_sound hR hy
            simp only [PE.eval] at he
            split at he
            · rename_i k p k' q e1 e2
              cases he
              rw [e1] at h1
              rw [e2] at h2
              simp only [Rep] at h1 h2
              exact worth_stay hI (v := .int k (if q > p then q else p)) (by simp [execOp, resolve, invoke, builtin, Builtin.max_, Builtin.max2, h1, h2]) rfl
            · cases he
          · cases hr
        · cases hr
      · split at hr
        · rename_i x y
          split at hr
          · rename_i x' y' hx hy
            cases hr
            have h1 := resO_sound hR hx
            have h2 := resO_sound hR hy
            simp only [PE.eval] at he
            split at he
            · rename_i k p k' q e1 e2
              cases he
              rw [e1] at h1
              rw [e2] at h2
              simp only [Rep] at h1 h2
              exact worth_stay hI (v := .int k (if q < p then q else p)) (by simp [execOp, resolve, invoke, builtin, Builtin.min_, Builtin.min2, h1, h2]) rfl
            · cases he
          · cases hr
        · cases hr
      · cases hr
    · cases hr
  | _ => cases hr
end

end Go.Proofs.YthaekebedmoipaaGreatDoor.AM

/- The abstract logic, part 11: operations on the abstract store. -/
set_option linter.unusedVariables false
set_option linter.unusedSimpArgs false
namespace Go.Proofs.YthaekebedmoipaaGreatDoor.AM
open Go Go.RowKit

inductive SOp where
  | pe (e : PE)
  | load (n : Nat) (agg : Bool) (x : Opd)
  | store (n : Nat) (x v : Opd)
  | alloc (T : TypeId) (z : AV) (k : Nat)
  | box (T : TypeId) (x : Opd) (k : Nat)
  | append (str : Bool) (e : TypeId) (size bytes : Nat) (s x : Opd) (k : Nat)
  | lookup (kk : BK) (zero : AV) (ok : Bool) (m key : Opd)
  | mapUpd (kk : BK) (m key v : Opd)
  | mkMap (k : Nat)
  | call (f : FuncId) (args : List Opd)
  | callV (x : Opd) (args : List Opd)
  | defer (x : Opd) (args : List Opd)

def dataOf : AObj → Option (List AV)
  | .cells _ cs => some cs
  | .row _ _ cs => some cs
  | _ => none
def withData : AObj → List AV → AObj
  | .cells T _, cs => .cells T cs
  | .row e n _, cs => .row e n cs
  | x, _ => x

def St.put (st : St) (o : Nat) (x : AObj) : St := { st with objs := upd st.objs o (some x) }

def loadA (n : Nat) (agg : Bool) (cs : List AV) (off : Nat) : Option AV :=
  if agg then (if off + n ≤ cs.length then some (.agg ((cs.drop off).take n)) else none) else cs[off]?

def St.data (st : St) (o : Nat) : Option (List AV) := (st.objs o).bind dataOf

def findA (kk : BK) (key : AV) : List (AV × AV) → Nat → Option (Option (Nat × AV))
  | [], _ => some none
  | (k, v) :: r, i => match leafEq kk key k with
    | some true => some (some (i, v))
    | some false => findA kk key r (i + 1)
    | none => none

def srcA (str : Bool) (size : Nat) : AV → Option (Nat × List AV)
  | .sl ds n _ => if str = false ∧ ds.length = n * size then some (n, ds) else none
  | .str bs => if str = true ∧ size = 1 then some (bs.length, bs.map fun b => .int .u8 b.toNat) else none
  | _ => none

def SOp.step (r : Nat) (env : Env) (st : St) : SOp → Option (AV × St)
  | .pe e => (e.eval env).map fun v => (v, st)
  | .load n agg x => match x.ev env with
    | .iptr cs off => (loadA n agg cs off).map fun v => (v, st)
    | .ptr o off => match st.data o with
      | some cs => (loadA n agg cs off).map fun v => (v, st)
      | none => none
    | _ => none
  | .store n x v => match x.ev env with
    | .ptr o off => match st.objs o with
      | some ob => match dataOf ob with
        | some cs => if (v.ev env).solid ∧ (v.ev env).cells.length = n ∧ off + n ≤ cs.length then some (.undef, st.put o (withData ob (setMany cs off (v.ev env).cells))) else none
        | none => none
      | none => none
    | _ => none
  | .alloc T z k => some (.ptr (r + k) 0, st.put (r + k) (.cells T z.cells))
  | .box T x k => if (x.ev env).solid then some (.ptr (r + k) 0, st.put (r + k) (.cells T (x.ev env).cells)) else none
  | .append str e size bytes s x k => match s.ev env, srcA str size (x.ev env) with
    | .sl cs len p, some (n, ds) =>
      if n = 0 then some (.sl cs len p, st) else
      if cs.length = len * size ∧ (len + n) * bytes ≤ big ∧ len + n ≤ big then
        match p with
        | .full => some (.sl (cs ++ ds) (len + n) (.tok (r + k)), st.put (r + k) (.tip e size (len + n)))
        | .tok t => match st.objs t with
          | some (.tip e' s' l') => if e' = e ∧ s' = size ∧ l' = len then some (.sl (cs ++ ds) (len + n) (.tok t), st.put t (.tip e size (len + n))) else none
          | _ => none
        | .no => none
      else none
    | _, _ => none
  | .lookup kk zero ok m key => match m.ev env with
    | .nilmap => if (key.ev env).solid then some (if ok then .tuple [zero, .bool false] else zero, st) else none
    | .map o => match st.objs o with
      | some (.map es) => match findA kk (key.ev env) es 0 with
        | some (some (_, v)) => some (if ok then .tuple [v, .bool true] else v, st)
        | some none => if (leafEq kk (key.ev env) (key.ev env)).isSome then some (if ok then .tuple [zero, .bool false] else zero, st) else none
        | none => none
      | _ => none
    | _ => none
  | .mapUpd kk m key v => match m.ev env with
    | .map o => match st.objs o with
      | some (.map es) => match findA kk (key.ev env) es 0 with
        | some (some (i, _)) => some (.undef, st.put o (.map (es.set i (key.ev env, v.ev env))))
        | some none => if (leafEq kk (key.ev env) (key.ev env)).isSome then some (.undef, st.put o (.map (es ++ [(key.ev env, v.ev env)]))) else none
        | none => none
      | _ => none
    | _ => none
  | .mkMap k => some (.map (r + k), st.put (r + k) (.map []))
  | .call _ _ | .callV _ _ | .defer _ _ => none

section
variable {P : Program} {w0 : World} {base : Nat} {G : Gh} {st st' : St} {w : World} {env : Env} {a : Act}

/-! ### cells of an object -/
theorem data_row {o : Nat} {x : AObj} {cs : List AV} (h : ObjRep base G w o x) (hd : dataOf x = some cs) :
    ∃ b vs T, G.blk o = some b ∧ G.own b = some o ∧ base ≤ b ∧ G.lim b = 0 ∧ w.heap[b]? = some (.cells vs T (0, 0)) ∧ RepC G w cs (vs.toList.take cs.length) ∧
      ∀ (w' : World) (vs' : Array Value) (cs' : List AV), w'.heap[b]? = some (.cells vs' T (0, 0)) → vs'.size = vs.size → RepC G w' cs' (vs'.toList.take cs'.length) → cs'.length = cs.length → ObjRep base G w' o (withData x cs') := by
  cases x with
  | cells T cs0 =>
    cases hd
    obtain ⟨b, vs, h1, h2, h3, h4, h5, h6, h7⟩ := h
    exact ⟨b, vs, T, h1, h2, h3, h4, h5, h6, fun w' vs' cs' g1 g2 g3 g4 => ⟨b, vs', h1, h2, h3, h4, g1, g3, g2.trans (h7.trans g4.symm)⟩⟩
  | row e n cs0 =>
    cases hd
    obtain ⟨b, vs, h1, h2, h3, h4, h5, h6, h7, h8, h9⟩ := h
    exact ⟨b, vs, e, h1, h2, h3, h4, h5, h6, fun w' vs' cs' g1 g2 g3 _ => ⟨b, vs', h1, h2, h3, h4, g1, g3, g2.trans h7, h8, h9⟩⟩
  | tip e s n => cases hd
  | map es => cases hd

theorem run_loadVar {t n : Nat} {agg : Bool} (hu : (P.underlying t).isSome = true) (hn : sizeT P t = some n) (ha : aggT P t = agg) {cs : List AV} {vs : List Value} (hr : RepC G w cs vs) {ad : Addr} (hc : ∀ j u, vs[j]? = some u → w.cell? (ad.add j) = some u) {off : Nat} {av : AV}
    (h : loadA n agg cs off = some av) : ∃ r, (loadVar t (ad.add off)).run P w = .ok r w ∧ Rep G w av r := by
  subst ha
  unfold loadA at h
  simp only [loadVar, Sem.run_bind, run_isAgg hu, Result.andThen_ok]
  split at h
  · rename_i ha
    split at h
    · rename_i hle
      cases h
      have hlen := repC_length hr
      refine ⟨.agg ⟨(vs.drop off).take n⟩, ?_, _, rfl, repC_take _ (repC_drop _ hr)⟩
      have := run_loadCells_list (P := P) w (ad.add off) ((vs.drop off).take n) (fun j v hj => by
        rw [add_add]
        rw [List.getElem?_take] at hj
        split at hj
        · rw [List.getElem?_drop] at hj; exact hc _ _ hj
        · cases hj)
      rw [show ((vs.drop off).take n).length = n from by simp; omega] at this
      simp only [ha, if_true, Sem.run_bind, run_size hn, Result.andThen_ok, this, Sem.run_pure]
    · cases h
  · rename_i ha
    obtain ⟨u, hu', _, hru⟩ := repC_get hr off av h
    refine ⟨u, ?_, hru⟩
    have ha' : aggT P t = false := by simpa using ha
    simp [ha', hc off u hu']

theorem held_cells {ad : Addr} {vs : List Value} (h : Held G w (some ad) vs) : ∀ j u, vs[j]? = some u → w.cell? (ad.add j) = some u := by
  rcases h with rfl | ⟨ad', e, hc⟩
  · intro j u hj; simp at hj
  · cases e; exact fun j u hj => (hc j u hj).1

theorem load_sound (hI : Inv w0 base G st w) {t n : Nat} {agg : Bool} {x : AV} {v : Value} (hx : Rep G w x v) (hu : (P.underlying t).isSome = true) (hn : sizeT P t = some n) (ha : aggT P t = agg) {av : AV}
    (h : (∃ cs off, x = .iptr cs off ∧ loadA n agg cs off = some av) ∨ (∃ o off cs, x = .ptr o off ∧ st.data o = some cs ∧ loadA n agg cs off = some av)) :
    ∃ r, (Instr.loadAt t v).run P w = .ok r w ∧ Rep G w av r := by
  rcases h with ⟨cs, off, rfl, h⟩ | ⟨o, off, cs, rfl, hd, h⟩
  · obtain ⟨vs, ad, h1, h2, rfl⟩ := hx
    obtain ⟨r, hr1, hr2⟩ := run_loadVar hu hn ha h1 (held_cells h2) h
    exact ⟨r, by simp [Instr.loadAt, Instr.sureAddr, hr1], hr2⟩
  · obtain ⟨h1, ad, rfl, h2⟩ := hx
    obtain ⟨ob, ho, hd⟩ := Option.bind_eq_some_iff.1 hd
    obtain ⟨b, vs, T, g1, g2, g3, g4, g5, g6, -⟩ := data_row (hI.objs o ob ho).2 hd
    have := h2 b g1
    subst this
    have hc : ∀ j u, (vs.toList.take cs.length)[j]? = some u → w.cell? ((⟨b, 0, none⟩ : Addr).add j) = some u := by
      intro j u hj
      rw [add_plain, cell_of_row w b _ vs T (0, 0) g5]
      rw [List.getElem?_take] at hj
      split at hj
      · simpa using hj
      · cases hj
    obtain ⟨r, hr1, hr2⟩ := run_loadVar hu hn ha g6 hc h
    rw [add_plain, Nat.zero_add] at hr1
    exact ⟨r, by simp [Instr.loadAt, Instr.sureAddr, hr1], hr2⟩

theorem store_sound (hI : Inv w0 base G st w) {t n : Nat} {x y : AV} {v u : Value} (hx : Rep G w x v) (hy : Rep G w y u) (hn : sizeT P t = some n) {o off : Nat} {ob : AObj} {cs : List AV} (hxo : x = .ptr o off) (ho : st.objs o = some ob) (hd : dataOf ob = some cs)
    (hs : y.solid = true) (hl : y.cells.length = n) (hle : off + n ≤ cs.length) :
    ∃ w', (Instr.storeAt t v u).run P w = .ok () w' ∧ Ext base G w G w' ∧ Inv w0 base G (st.put o (withData ob (setMany cs off y.cells))) w' := by
  subst hxo
  obtain ⟨h1, ad, rfl, h2⟩ := hx
  obtain ⟨hu, hob⟩ := hI.objs o ob ho
  obtain ⟨b, vs, T, g1, g2, g3, g4, g5, g6, g7⟩ := data_row hob hd
  have := h2 b g1
  subst this
  have hyc := solid_cells hs hy
  have hcl := repC_length hyc
  have hsz : u.cells.size = n := by rw [Array.length_toList] at hcl; omega
  have hvl : (vs.toList.take cs.length).length = cs.length := repC_length g6
  have hvs : cs.length ≤ vs.size := by simp at hvl; omega
  have hst := run_storeCells_at P b off T u.cells.toList 0 vs w g5 (by simp; omega) (repC_one hyc)
  simp only [Nat.add_zero] at hst
  have hW := wrote_setRow (cs := (vs.toList.take off ++ u.cells.toList ++ vs.toList.drop (off + u.cells.toList.length)).toArray) g5
  obtain ⟨he, hinv⟩ := inv_write hI hu g1 g2 g3 g4 hW
  refine ⟨_, ?_, he, hinv _ (g7 _ _ _ hW.at_ ?_ ?_ (by simp only [setMany, List.length_append, List.length_take, List.length_drop]; omega))⟩
  · simp only [Instr.storeAt, Instr.sureAddr, Sem.run_bind, Sem.run_pure, Result.andThen_ok, storeVar, run_size hn]
    rw [if_neg (by simp [hsz])]
    exact hst
  · simp only [List.size_toArray, List.length_append, List.length_take, List.length_drop, Array.length_toList]; omega
  · have e1 : (setMany cs off y.cells).length = cs.length := by
      simp only [setMany, List.length_append, List.length_take, List.length_drop]; omega
    rw [e1]
    have e2 : ((vs.toList.take off ++ u.cells.toList ++ vs.toList.drop (off + u.cells.toList.length)).toArray.toList.take cs.length) =
        (vs.toList.take cs.length).take off ++ u.cells.toList ++ (vs.toList.take cs.length).drop (off + u.cells.toList.length) := by
      have hul : u.cells.toList.length = n := by simp [hsz]
      have hxl : (vs.toList.take off ++ u.cells.toList).length = off + n := by simp [hsz]; omega
      rw [List.toList_toArray, List.take_append, List.take_of_length_le (by omega), hxl, hul, List.take_take, Nat.min_eq_left (by omega), List.drop_take]
    rw [e2]
    exact repC_setMany (repC_mono he _ _ g6) (repC_mono he _ _ hyc)
end

end Go.Proofs.YthaekebedmoipaaGreatDoor.AM

/- The abstract logic, part 12: new variables, appends, maps. -/
set_option linter.unusedVariables false
set_option linter.unusedSimpArgs false
namespace Go.Proofs.YthaekebedmoipaaGreatDoor.AM
open Go Go.RowKit

section
variable {P : Program} {w0 : World} {base : Nat} {G : Gh} {st st' : St} {w : World} {env : Env} {a : Act}

theorem new_sound (hI : Inv w0 base G st w) {t k : Nat} {x : AV} {v : Value} (hx : Rep G w x v) (hs : x.solid = true) (hk : ¬ G.used k) (hkn : k < st.next) :
    ∃ r w' G', (do pure (.pointer (some (← newVar t v))) : Sem Value).run P w = .ok r w' ∧ Ext base G w G' w' ∧ (∀ o, G'.used o ↔ (o = k ∨ G.used o)) ∧ Inv w0 base G' (st.put k (.cells t x.cells)) w' ∧ Rep G' w' (.ptr k 0) r := by
  have hbel : Below w.heap.size w (w.alloc (.cells v.cells t)) := (Below.refl _ w).alloc (Nat.le_refl _) _
  have hh := heap_alloc_new w (.cells v.cells t)
  have hlim := (hI.fresh w.heap.size (Nat.le_refl _)).1
  have he := ext_addObj hI hbel (k := k) (b := w.heap.size) (c := 0) hk
  have hxc := solid_cells hs hx
  have hinv := inv_addObj hI hbel (k := k) (b := w.heap.size) (c := 0) hk hkn (Nat.le_refl _) (by simp) (.cells t x.cells)
    ⟨w.heap.size, v.cells, upd_same _ _ _, upd_same _ _ _, hI.size, hlim, hh, by
      rw [List.take_of_length_le (by rw [repC_length hxc]; exact Nat.le_refl _)]
      exact repC_mono he _ _ hxc, by have := repC_length hxc; simpa using this⟩
  refine ⟨_, _, _, by simp [newVar, newRow]; rfl, he, fun o => Iff.rfl, hinv, .inl rfl, _, rfl, fun b hb => ?_⟩
  have : w.heap.size = b := Option.some.inj ((upd_same G.blk k (some w.heap.size)).symm.trans hb)
  subst this; rfl

theorem repC_bytes : ∀ bs : List UInt8, RepC G w (bs.map fun b => .int .u8 b.toNat) (byteCells ⟨⟨bs⟩⟩)
  | [] => rfl
  | b :: bs => ⟨_, _, rfl, rfl, rfl, repC_bytes bs⟩

/-- What is appended. -/
theorem src_sound {size tx : Nat} {x : AV} {v : Value} (hx : Rep G w x v) {n : Nat} {ds : List AV} {str : Bool} (h : srcA str size x = some (n, ds)) (h1 : str = false → ∃ e', P.underlying tx = some (.slice e')) (h2 : str = true → P.underlying tx = some .string) :
    ∃ news, Src P size tx v n news w ∧ RepC G w ds news := by
  cases x with
  | sl ds' n' p =>
    simp only [srcA] at h
    split at h
    · rename_i hl
      obtain ⟨hstr, hl⟩ := hl
      obtain ⟨e', htx⟩ := h1 hstr
      cases h
      obtain ⟨vs, ad, cap, h1, h2, rfl, h4, h5, h6, h7, h8, h9⟩ := hx
      refine ⟨vs, ?_, h1⟩
      have hvl := (repC_length h1).trans hl
      cases ad with
      | none =>
        have hn : n = 0 := by
          rcases Nat.eq_zero_or_pos n with h0 | h0
          · exact h0
          · exact absurd rfl (h9 h0)
        subst hn
        have : vs = [] := List.eq_nil_of_length_eq_zero (by simpa using hvl)
        subst this
        exact Src.ofNil w htx cap
      | some ad => exact Src.ofSlice w htx ad n cap vs hvl (held_cells h2) (repC_one h1)
    · cases h
  | str bs =>
    simp only [srcA] at h
    split at h
    · rename_i hs1
      obtain ⟨hstr, hs1⟩ := hs1
      have htx := h2 hstr
      cases h
      subst hs1
      obtain ⟨rfl, hle⟩ := hx
      exact ⟨byteCells ⟨⟨bs⟩⟩, Src.ofString w htx _, repC_bytes bs⟩
    · cases h
  | _ => simp [srcA] at h

theorem append_sound (hI : Inv w0 base G st w) {t tx ty e size bytes k : Nat} (hE : Elem P t e size bytes) {s x : AV} {v u : Value} (hs : Rep G w s v) (hx : Rep G w x u) {cs ds : List AV} {len n : Nat} {p : Perm} (hse : s = .sl cs len p)
    {str : Bool} (hsrc : srcA str size x = some (n, ds)) (ht1 : str = false → ∃ e', P.underlying tx = some (.slice e')) (ht2 : str = true → P.underlying tx = some .string) (hk : ¬ G.used k) (hkn : k < st.next) {av : AV}
    (h : (n = 0 ∧ av = s ∧ st' = st) ∨ (n ≠ 0 ∧ cs.length = len * size ∧ (len + n) * bytes ≤ big ∧ len + n ≤ big ∧
      ((p = .full ∧ av = .sl (cs ++ ds) (len + n) (.tok k) ∧ st' = st.put k (.tip e size (len + n))) ∨
       (∃ t, p = .tok t ∧ st.objs t = some (.tip e size len) ∧ av = .sl (cs ++ ds) (len + n) (.tok t) ∧ st' = st.put t (.tip e size (len + n)))))) :
    ∃ r w' G', (Builtin.append_ #[t, tx] ty #[v, u]).run P w = .ok r w' ∧ Ext base G w G' w' ∧ (∀ o, G'.used o → (o = k ∨ G.used o)) ∧ Inv w0 base G' st' w' ∧ Rep G' w' av r := by
  subst hse
  obtain ⟨news, hS, hd⟩ := src_sound hx hsrc ht1 ht2
  rcases h with ⟨rfl, rfl, rfl⟩ | ⟨hn, hl, hb1, hb2, h⟩
  · have := src_zero hS
    subst this
    obtain ⟨vs, ad, cap, h1, h2, h3, h4, h5⟩ := id hs
    refine ⟨v, w, G, ?_, Ext.refl _ _ _, fun _ h => .inr h, hI, hs⟩
    rw [h3]
    exact run_append_none hE h4 hS
  · rcases h with ⟨rfl, rfl, rfl⟩ | ⟨t', rfl, ht', rfl, rfl⟩
    · obtain ⟨vs, ad, cap, h1, h2, rfl, h4, h5, h6, h7, h8, h9⟩ := hs
      obtain ⟨hcap, _⟩ := h7 rfl
      subst hcap
      obtain ⟨r, w', G', q1, q2, q3, q4, q5⟩ := append_grows (ty := ty) (cap := cap) hE hI hk hkn h1 h2 hl hS hd (by omega) hb1 hb2
      exact ⟨r, w', G', q1, q2, fun o ho => (q3 o).1 ho, q4, q5⟩
    · obtain ⟨r, w', G', q1, q2, q3, q4, q5⟩ := append_room (ty := ty) hE hI ht' hs hl hS hd (by omega) hb1 hb2
      exact ⟨r, w', G', q1, q2, fun o ho => .inr ((q3 o).1 ho), q4, q5⟩

/-! ### maps -/
theorem leafEq_now {k : BK} {x y : AV} {u v : Value} {b : Bool} (h : leafEq k x y = some b) (hx : Rep G w x u) (hy : Rep G w y v) {d : TypeDesc} (hd : k.desc d) : Instr.sameNow d u v = some b := by
  unfold leafEq at h
  split at h
  · simp only [Rep] at hx hy
    subst hx; subst hy
    obtain ⟨k, rfl⟩ := hd
    split at h
    · rename_i e; subst e; cases h; simp [Instr.sameNow]
    · cases h
  · obtain ⟨rfl, _⟩ := hx
    obtain ⟨rfl, _⟩ := hy
    cases hd; cases h
    simp [Instr.sameNow, beq_toListBytes, ba_toList]
  · simp only [Rep] at hx hy
    subst hx; subst hy
    cases hd; cases h
    simp [Instr.sameNow]
  · cases h

theorem findA_sound {kk : BK} {d : TypeDesc} (hd : kk.desc d) {key : AV} {kv : Value} (hk : Rep G w key kv) : ∀ (es : List (AV × AV)) (ms : List MapEntry) (i : Nat) (r : Option (Nat × AV)), RepE G w es ms → findA kk key es i = some r →
    (r = none ∧ Instr.findNow d kv ms i = some none) ∨ ∃ j av e, r = some (i + j, av) ∧ es[j]?.map (·.2) = some av ∧ ms[j]? = some e ∧ Instr.findNow d kv ms i = some (some (i + j, e.val)) ∧ Rep G w av e.val ∧ Instr.sameNow d kv e.key = some true
  | [], ms, i, r, h, hf => by
    obtain ⟨h1, h2⟩ := h
    have : ms = [] := by cases ms with
      | nil => rfl
      | cons m ms => simp [RepL] at h1
    subst this
    simp [findA] at hf
    subst hf
    exact .inl ⟨rfl, rfl⟩
  | (k, v) :: es, ms, i, r, h, hf => by
    obtain ⟨h1, h2⟩ := h
    cases ms with
    | nil => obtain ⟨u, us, e, _⟩ := h1; cases e
    | cons m ms =>
      obtain ⟨u, us, e, h3, h4⟩ := h1
      obtain ⟨u', us', e', h5, h6⟩ := h2
      cases e; cases e'
      simp only [findA] at hf
      split at hf
      · rename_i hl
        cases hf
        have hn := leafEq_now hl hk h3 hd
        exact .inr ⟨0, v, m, rfl, rfl, rfl, by simp [Instr.findNow, hn], h5, hn⟩
      · rename_i hl
        have hn := leafEq_now hl hk h3 hd
        rcases findA_sound hd hk es ms (i + 1) r ⟨h4, h6⟩ hf with ⟨rfl, hq⟩ | ⟨j, av, e, rfl, q1, q2, q3, q4, q5⟩
        · exact .inl ⟨rfl, by simp [Instr.findNow, hn, hq]⟩
        · exact .inr ⟨j + 1, av, e, by rw [Nat.add_assoc, Nat.add_comm 1], by simpa using q1, by simpa using q2, by simp only [Instr.findNow, hn, q3]; rw [Nat.add_assoc, Nat.add_comm 1], q4, q5⟩
      · cases hf

theorem run_checkKey {t : TypeId} {d : TypeDesc} {kk : BK} (ht : P.underlying t = some d) (hd : kk.desc d) (v : Value) (b : Bool) (n : Nat) (w : World) : (Instr.checkKey b (n + 1) t v).run P w = .ok () w := by
  cases kk <;> simp only [BK.desc] at hd
  · obtain ⟨k, rfl⟩ := hd; simp [Instr.checkKey, run_underlying ht]
  · subst hd; simp [Instr.checkKey, run_underlying ht]
  · subst hd; simp [Instr.checkKey, run_underlying ht]

theorem run_findKey {t : TypeId} {d : TypeDesc} (ht : P.underlying t = some d) {k : Value} {es : List MapEntry} {r : Option (Nat × Value)} (h : Instr.findNow d k es 0 = some r) (w : World) : (Instr.findKey t k es).run P w = .ok r w := by
  simp [Instr.findKey, run_underlying ht, h]

theorem run_getObj {b : Nat} {ms : Array MapEntry} {clock : Nat} (h : w.heap[b]? = some (.map ms clock)) : (getObj b).run P w = .ok (.map ms clock) w := by
  simp [getObj, Sem.run, h]

theorem lookup_sound (hI : Inv w0 base G st w) {t kt et : TypeId} {d : TypeDesc} {kk : BK} {zero : AV} {ok : Bool} (ht : P.underlying t = some (.map kt et)) (hkt : P.underlying kt = some d) (hd : kk.desc d) (hz : zeroT P et = some zero) {m key : AV} {mv kv : Value} (hm : Rep G w m mv) (hk : Rep G w key kv) {av : AV}
    (h : (m = .nilmap ∧ av = (if ok then .tuple [zero, .bool false] else zero)) ∨
      (∃ o es, m = .map o ∧ st.objs o = some (.map es) ∧ ((∃ i v, findA kk key es 0 = some (some (i, v)) ∧ av = (if ok then .tuple [v, .bool true] else v)) ∨ (findA kk key es 0 = some none ∧ av = (if ok then .tuple [zero, .bool false] else zero))))) :
    ∃ r, (Instr.lookup t mv kv ok).run P w = .ok r w ∧ Rep G w av r := by
  obtain ⟨i, zv, hi, hzv, hc⟩ := zeroT_sound hz
  have hrz := ofConst_sound hc G w
  have hz' := run_zero (P := P) hi hzv w
  have hck := fun b => run_checkKey (P := P) hkt hd kv b 9999 w
  rcases h with ⟨rfl, rfl⟩ | ⟨o, es, rfl, ho, h⟩
  · simp only [Rep] at hm
    subst hm
    have hf := run_findKey (P := P) hkt (k := kv) (es := []) (r := none) rfl w
    refine ⟨if ok then .tuple #[zv, .bool false] else zv, ?_, ?_⟩
    · simp only [Instr.lookup, Sem.run_bind, run_underlying ht, Result.andThen_ok, Sem.run_pure]
      rw [hck]
      simp only [Result.andThen_ok, hf, Sem.run_bind, hz', Sem.run_pure]
    · cases ok
      · simpa using hrz
      · exact ⟨[zv, .bool false], rfl, zv, _, rfl, hrz, _, _, rfl, rfl, rfl⟩
  · obtain ⟨hu, ad, rfl, hb⟩ := hm
    obtain ⟨b, ms, clock, g1, g2, g3, g4, g5, g6⟩ := (hI.objs o _ ho).2
    have := hb b g1
    subst this
    have hget := run_getObj (P := P) g5
    rcases h with ⟨i, v, hf, rfl⟩ | ⟨hf, rfl⟩
    · rcases findA_sound hd hk es ms.toList 0 _ g6 hf with ⟨h1, _⟩ | ⟨j, v', e, h1, _, _, h4, h5, _⟩
      · cases h1
      · cases h1
        have hfk := run_findKey (P := P) hkt h4 w
        refine ⟨if ok then .tuple #[e.val, .bool true] else e.val, ?_, ?_⟩
        · simp only [Instr.lookup, Sem.run_bind, run_underlying ht, Result.andThen_ok, Sem.run_pure, hget]
          rw [hck]
          simp only [Result.andThen_ok, hfk, Sem.run_pure]
          try rfl
        · cases ok
          · simpa using h5
          · exact ⟨[e.val, .bool true], rfl, _, _, rfl, h5, _, _, rfl, rfl, rfl⟩
    · rcases findA_sound hd hk es ms.toList 0 _ g6 hf with ⟨_, h4⟩ | ⟨j, v', e, h1, _⟩
      · have hfk := run_findKey (P := P) hkt h4 w
        refine ⟨if ok then .tuple #[zv, .bool false] else zv, ?_, ?_⟩
        · simp only [Instr.lookup, Sem.run_bind, run_underlying ht, Result.andThen_ok, Sem.run_pure, hget]
          rw [hck]
          simp only [Result.andThen_ok, hfk, Sem.run_bind, hz', Sem.run_pure]
          try rfl
        · cases ok
          · simpa using hrz
          · exact ⟨[zv, .bool false], rfl, zv, _, rfl, hrz, _, _, rfl, rfl, rfl⟩
      · cases h1
end

end Go.Proofs.YthaekebedmoipaaGreatDoor.AM

/- The abstract logic, part 13: maps that are written and made. -/
set_option linter.unusedVariables false
set_option linter.unusedSimpArgs false
namespace Go.Proofs.YthaekebedmoipaaGreatDoor.AM
open Go Go.RowKit

section
variable {P : Program} {w0 : World} {base : Nat} {G : Gh} {st st' : St} {w : World} {env : Env} {a : Act}

theorem repL_set {c : AV} {u : Value} (hc : Rep G w c u) : ∀ {cs : List AV} {vs : List Value} (i : Nat), RepL G w cs vs → RepL G w (cs.set i c) (vs.set i u)
  | [], _, i, h => by cases h; rfl
  | x :: cs, _, 0, ⟨v, vs, e, h1, h2⟩ => by subst e; exact ⟨u, vs, rfl, hc, h2⟩
  | x :: cs, _, i + 1, ⟨v, vs, e, h1, h2⟩ => by subst e; exact ⟨v, _, rfl, h1, repL_set hc i h2⟩

theorem sameBits_of_now {d : TypeDesc} {u v : Value} (h : Instr.sameNow d u v = some true) (n : Nat) : Instr.sameBits n v u = true := by
  unfold Instr.sameNow at h
  split at h
  · split at h
    · rename_i e; subst e
      have := Option.some.inj h
      simp only [beq_iff_eq] at this
      subst this
      cases n <;> simp [Instr.sameBits]
    · cases h
  · rename_i x y
    have h1 := Option.some.inj h
    rw [beq_toListBytes] at h1
    have h2 : (y == x) = true := by
      rw [beq_toListBytes, beq_iff_eq.1 h1]
      exact beq_self_eq_true _
    cases n <;> simpa [Instr.sameBits] using h2
  · have := Option.some.inj h
    simp only [beq_iff_eq] at this
    subst this
    cases n <;> simp [Instr.sameBits]
  · cases h

theorem wrote_setObj {w : World} {b : Nat} {o old : Obj} (h : w.heap[b]? = some old) : Wrote w { w with heap := w.heap.setIfInBounds b o } b o := by
  have hlt : b < w.heap.size := (Array.getElem?_eq_some_iff.1 h).1
  refine ⟨rfl, rfl, rfl, by simp, by simp [hlt], fun k hk => ?_⟩
  simp [Array.getElem?_setIfInBounds, Ne.symm hk]

theorem run_setMap {b : Nat} {ms : Array MapEntry} {clock : Nat} (h : w.heap[b]? = some (.map ms clock)) (o : Obj) : (setObj b o).run P w = .ok () { w with heap := w.heap.setIfInBounds b o } := by
  simp [setObj, Sem.run, h]

theorem modify_key (ms : List MapEntry) (i : Nat) (k v : Value) : (ms.modify i fun e => { e with key := k, val := v }).map (·.key) = (ms.map (·.key)).set i k := by
  induction ms generalizing i with
  | nil => cases i <;> rfl
  | cons m ms ih =>
    cases i with
    | zero => rfl
    | succ i => simp [List.modify_succ_cons, ih]
theorem modify_val (ms : List MapEntry) (i : Nat) (k v : Value) : (ms.modify i fun e => { e with key := k, val := v }).map (·.val) = (ms.map (·.val)).set i v := by
  induction ms generalizing i with
  | nil => cases i <;> rfl
  | cons m ms ih =>
    cases i with
    | zero => rfl
    | succ i => simp [List.modify_succ_cons, ih]

theorem mapUpd_sound (hI : Inv w0 base G st w) {t kt et : TypeId} {d : TypeDesc} {kk : BK} (ht : P.underlying t = some (.map kt et)) (hkt : P.underlying kt = some d) (hd : kk.desc d) {m key v : AV} {mv kv vv : Value} (hm : Rep G w m mv) (hk : Rep G w key kv) (hv : Rep G w v vv)
    {o : Nat} {es es' : List (AV × AV)} (hmo : m = .map o) (ho : st.objs o = some (.map es))
    (h : (∃ i x, findA kk key es 0 = some (some (i, x)) ∧ es' = es.set i (key, v)) ∨ (findA kk key es 0 = some none ∧ es' = es ++ [(key, v)])) :
    ∃ w', (Instr.mapUpdate t mv kv vv).run P w = .ok () w' ∧ Ext base G w G w' ∧ Inv w0 base G (st.put o (.map es')) w' := by
  subst hmo
  obtain ⟨hu, ad, rfl, hb⟩ := hm
  obtain ⟨hu', b, ms, clock, g1, g2, g3, g4, g5, g6⟩ := hI.objs o _ ho
  have := hb b g1
  subst this
  have hget := run_getObj (P := P) g5
  have hck := run_checkKey (P := P) hkt hd kv false 9999 w
  rcases h with ⟨i, x, hf, rfl⟩ | ⟨hf, rfl⟩
  · rcases findA_sound hd hk es ms.toList 0 _ g6 hf with ⟨h1, _⟩ | ⟨j, v', e, h1, h2, h3, h4, h5, h6⟩
    · cases h1
    · simp only [Option.some.injEq, Prod.mk.injEq] at h1
      obtain ⟨rfl, rfl⟩ := h1
      rw [Nat.zero_add] at *
      have hfk := run_findKey (P := P) hkt h4 w
      have hW := wrote_setObj (o := .map (ms.modify j fun e => { e with key := kv, val := vv }) clock) g5
      obtain ⟨he, hinv⟩ := inv_write hI hu' g1 g2 g3 g4 hW
      refine ⟨_, ?_, he, hinv _ ⟨ad, _, _, g1, g2, g3, g4, hW.at_, ?_⟩⟩
      · simp only [Instr.mapUpdate, Sem.run_bind, run_underlying ht, Result.andThen_ok, Sem.run_pure, hget]
        rw [hck]
        have hkey : (ms[j]?.map (·.key)).getD kv = e.key := by
          have : ms[j]? = some e := by simpa using h3
          rw [this]; rfl
        simp only [Result.andThen_ok, hfk, Sem.run_bind, hkey, Instr.keyThatStays, sameBits_of_now h6, if_true, Sem.run_pure, run_setMap g5]
      · obtain ⟨q1, q2⟩ := g6
        refine ⟨?_, ?_⟩
        · rw [Array.toList_modify, modify_key, List.map_set]
          exact repL_set (rep_mono he _ _ hk) j (repL_mono he _ _ q1)
        · rw [Array.toList_modify, modify_val, List.map_set]
          exact repL_set (rep_mono he _ _ hv) j (repL_mono he _ _ q2)
  · rcases findA_sound hd hk es ms.toList 0 _ g6 hf with ⟨_, h4⟩ | ⟨j, v', e, h1, _⟩
    · have hfk := run_findKey (P := P) hkt h4 w
      have hW := wrote_setObj (o := .map (ms.push { key := kv, val := vv, born := clock }) (clock + 1)) g5
      obtain ⟨he, hinv⟩ := inv_write hI hu' g1 g2 g3 g4 hW
      refine ⟨_, ?_, he, hinv _ ⟨ad, _, _, g1, g2, g3, g4, hW.at_, ?_⟩⟩
      · simp only [Instr.mapUpdate, Sem.run_bind, run_underlying ht, Result.andThen_ok, Sem.run_pure, hget]
        rw [hck]
        simp only [Result.andThen_ok, hfk, run_setMap g5]
      · obtain ⟨q1, q2⟩ := g6
        refine ⟨?_, ?_⟩
        · simp only [List.map_append, List.map_cons, List.map_nil, Array.toList_push]
          exact repL_append (repL_mono he _ _ q1) ⟨_, _, rfl, rep_mono he _ _ hk, rfl⟩
        · simp only [List.map_append, List.map_cons, List.map_nil, Array.toList_push]
          exact repL_append (repL_mono he _ _ q2) ⟨_, _, rfl, rep_mono he _ _ hv, rfl⟩
    · cases h1

theorem mkMap_sound (hI : Inv w0 base G st w) {k : Nat} {t : TypeId} {r : Option Value} (hr : ∀ v, r = some v → (∃ kd n, v = .int kd n) ∧ ∃ a b, P.underlying t = some (.map a b)) (hk : ¬ G.used k) (hkn : k < st.next) :
    ∃ v w' G', (Instr.makeMap t r).run P w = .ok v w' ∧ Ext base G w G' w' ∧ (∀ o, G'.used o ↔ (o = k ∨ G.used o)) ∧ Inv w0 base G' (st.put k (.map [])) w' ∧ Rep G' w' (.map k) v := by
  have hbel : Below w.heap.size w (w.alloc (.map #[] 0)) := (Below.refl _ w).alloc (Nat.le_refl _) _
  have hh := heap_alloc_new w (.map #[] 0)
  have hlim := (hI.fresh w.heap.size (Nat.le_refl _)).1
  have he := ext_addObj hI hbel (k := k) (b := w.heap.size) (c := 0) hk
  have hinv := inv_addObj hI hbel (k := k) (b := w.heap.size) (c := 0) hk hkn (Nat.le_refl _) (by simp) (.map [])
    ⟨w.heap.size, #[], 0, upd_same _ _ _, upd_same _ _ _, hI.size, hlim, hh, rfl, rfl⟩
  have hrun : (Instr.makeMap t r).run P w = .ok (.map (some w.heap.size)) (w.alloc (.map #[] 0)) := by
    cases r with
    | none => simp [Instr.makeMap]
    | some v =>
      obtain ⟨⟨kd, n, rfl⟩, x, y, hu⟩ := hr v rfl
      simp [Instr.makeMap, run_underlying hu, asInt, asIntOf]
  refine ⟨_, _, _, hrun, he, fun o => Iff.rfl, hinv, .inl rfl, _, rfl, fun b hb => ?_⟩
  exact Option.some.inj ((upd_same G.blk k (some w.heap.size)).symm.trans hb)
end

end Go.Proofs.YthaekebedmoipaaGreatDoor.AM

/- The abstract logic, part 14: operations are resolved; what a resolved operation does. -/
set_option linter.unusedVariables false
set_option linter.unusedSimpArgs false
namespace Go.Proofs.YthaekebedmoipaaGreatDoor.AM
open Go Go.RowKit

structure SOper where
  dst : Option Nat
  guard : Option (Nat × Bool)
  op : SOp

def SOp.new : SOp → Option Nat
  | .alloc _ _ k | .box _ _ k | .append _ _ _ _ _ _ k | .mkMap k => some k
  | _ => none

def keyKind (P : Program) (t : TypeId) : Option BK := match P.underlying t with
  | some (.int _) => some .int
  | some .string => some .str
  | some .bool => some .bool
  | _ => none

def isIntConst : Option Operand → Bool
  | none => true
  | some (.const (.int _ _)) => true
  | _ => false

def elemOk (P : Program) (e size bytes : Nat) : Bool := match P.info? e with
  | some i => (match i.zero with | some z => z.cells.size == size | none => false) && i.size == size && i.bytes == bytes && decide (0 < size)
  | none => false

def bytesT (P : Program) (t : TypeId) : Nat := ((P.info? t).map (·.bytes)).getD 0

def resCall (P : Program) (k : Nat) (c : Call) : Option SOp :=
  match c.callee with
  | .value (.func f) => (resOs c.args.toList).map (.call f)
  | .value x => match resO x, resOs c.args.toList with
    | some x, some l => some (.callV x l)
    | _, _ => none
  | .builtin .append => match c.args.toList, c.argTypes.toList with
    | [s, x], [t, tx] => match resO s, resO x, P.underlying t, P.underlying tx with
      | some s, some x, some (.slice e), some (.slice _) => match sizeT P e with
        | some n => if elemOk P e n (bytesT P e) then some (.append false e n (bytesT P e) s x k) else none
        | none => none
      | some s, some x, some (.slice e), some .string => match sizeT P e with
        | some n => if elemOk P e n (bytesT P e) then some (.append true e n (bytesT P e) s x k) else none
        | none => none
      | _, _, _, _ => none
    | _, _ => none
  | _ => none

def resMap (P : Program) (t : TypeId) : Option (BK × TypeId) := match P.underlying t with
  | some (.map kt et) => (keyKind P kt).map fun kk => (kk, et)
  | _ => none

def resOp (P : Program) (k : Nat) (op : Op) : Option SOp :=
  match resPE P op with
  | some e => some (.pe e)
  | none => match op with
    | .load t x => match resO x, sizeT P t with
      | some x, some n => if (P.underlying t).isSome then some (.load n (aggT P t) x) else none
      | _, _ => none
    | .store t x v => match resO x, resO v, sizeT P t with
      | some x, some v, some n => some (.store n x v)
      | _, _, _ => none
    | .alloc t => match zeroT P t with
      | some z => if z.solid then some (.alloc t z k) else none
      | none => none
    | .box T x => (resO x).map fun x => .box T x k
    | .lookup t m key ok => match resMap P t, resO m, resO key with
      | some (kk, et), some m, some key => (zeroT P et).map fun z => .lookup kk z ok m key
      | _, _, _ => none
    | .mapUpdate t m key v | .insert t m key v => match resMap P t, resO m, resO key, resO v with
      | some (kk, _), some m, some key, some v => some (.mapUpd kk m key v)
      | _, _, _, _ => none
    | .makeMap t r => if isIntConst r ∧ (resMap P t).isSome then some (.mkMap k) else none
    | .call c => resCall P k c
    | .defer c => match c.callee with
      | .value x => match resO x, resOs c.args.toList with
        | some x, some l => some (.defer x l)
        | _, _ => none
      | _ => none
    | _ => none

section
variable {P : Program} {w0 : World} {base : Nat} {G : Gh} {st st' : St} {w : World} {env : Env} {a : Act}

theorem keyKind_desc {t : TypeId} {kk : BK} (h : keyKind P t = some kk) : ∃ d, P.underlying t = some d ∧ kk.desc d := by
  unfold keyKind at h
  split at h <;> first
    | (cases h; exact ⟨_, ‹_›, _, rfl⟩)
    | (cases h; exact ⟨_, ‹_›, rfl⟩)
    | cases h

theorem resMap_spec {t : TypeId} {kk : BK} {et : TypeId} (h : resMap P t = some (kk, et)) : ∃ kt d, P.underlying t = some (.map kt et) ∧ P.underlying kt = some d ∧ kk.desc d := by
  unfold resMap at h
  split at h
  · rename_i kt et' hu
    obtain ⟨kk', hk, e⟩ := Option.map_eq_some_iff.1 h
    cases e
    obtain ⟨d, hd, hdd⟩ := keyKind_desc hk
    exact ⟨kt, d, hu, hd, hdd⟩
  · cases h

theorem elemOk_spec {t e size bytes : Nat} (hu : P.underlying t = some (.slice e)) (h : elemOk P e size bytes = true) : Elem P t e size bytes := by
  unfold elemOk at h
  split at h
  · rename_i i hi
    simp only [Bool.and_eq_true, beq_iff_eq, decide_eq_true_eq] at h
    obtain ⟨⟨⟨h1, h2⟩, h3⟩, h4⟩ := h
    split at h1
    · rename_i z hz
      exact ⟨hu, ⟨i, z, hi, hz, h2, h3, by simpa using h1⟩, h4⟩
    · cases h1
  · cases h

/-- What an operation that makes new ids comes to. -/
def WorthN (P : Program) (w0 : World) (base : Nat) (G : Gh) (st' : St) (w : World) (s : Sem Next) (av : AV) (new : Nat → Prop) : Prop :=
  ∃ v w' G', (s.run P w = .ok (.value v) w' ∨ (s.run P w = .ok .skip w' ∧ v = undef)) ∧ Ext base G w G' w' ∧ (∀ o, G'.used o → new o ∨ G.used o) ∧ Inv w0 base G' st' w' ∧ Rep G' w' av v

theorem worthN_v {s : Sem Value} {av : AV} {new : Nat → Prop} {v : Value} {w' : World} {G' : Gh} (h : s.run P w = .ok v w') (he : Ext base G w G' w') (hn : ∀ o, G'.used o → new o ∨ G.used o) (hI : Inv w0 base G' st' w') (hr : Rep G' w' av v) :
    WorthN P w0 base G st' w (do pure (.value (← s))) av new :=
  ⟨v, w', G', .inl (by simp only [Sem.run_bind, h, Result.andThen_ok, Sem.run_pure]), he, hn, hI, hr⟩

theorem worthN_u {s : Sem Unit} {new : Nat → Prop} {w' : World} {G' : Gh} (h : s.run P w = .ok () w') (he : Ext base G w G' w') (hn : ∀ o, G'.used o → new o ∨ G.used o) (hI : Inv w0 base G' st' w') :
    WorthN P w0 base G st' w (do s; pure .skip) .undef new :=
  ⟨undef, w', G', .inr ⟨by simp only [Sem.run_bind, h, Result.andThen_ok, Sem.run_pure], rfl⟩, he, hn, hI, trivial⟩

theorem step_sound (hI : Inv w0 base G st w) (hR : RepEnv G w env a) {o : Oper} {k r : Nat} {s : SOp} {av : AV} (hr : resOp P k o.op = some s) (he : s.step r env st = some (av, st'))
    (hnew : ∀ k, s.new = some k → ¬ G.used (r + k) ∧ r + k < st.next) :
    WorthN P w0 base G st' w (execOp a.eval o) av (fun x => ∃ k, s.new = some k ∧ x = r + k) := by
  obtain ⟨dst, op, ty, pos, after, guard⟩ := o
  simp only at hr
  unfold resOp at hr
  split at hr
  · rename_i e hpe
    cases hr
    obtain ⟨v, hv, e⟩ := Option.map_eq_some_iff.1 he
    cases e
    obtain ⟨v', w', G', q1, q2, q3, q4, q5⟩ := pe_sound (o := ⟨dst, op, ty, pos, after, guard⟩) hI hR hpe hv
    exact ⟨v', w', G', q1, q2, fun o ho => .inr (q3 o ho), q4, q5⟩
  · split at hr
    · -- load
      rename_i t x hpe
      split at hr
      · rename_i x' n hx hn
        split at hr
        · rename_i hu
          cases hr
          have h1 := resO_sound hR hx
          have key : ((∃ cs off, x'.ev env = .iptr cs off ∧ loadA n (aggT P t) cs off = some av) ∨ (∃ o off cs, x'.ev env = .ptr o off ∧ st.data o = some cs ∧ loadA n (aggT P t) cs off = some av)) ∧ st' = st := by
            simp only [SOp.step] at he
            split at he
            · rename_i cs off heq
              obtain ⟨v, hv, e⟩ := Option.map_eq_some_iff.1 he
              cases e
              exact ⟨.inl ⟨cs, off, heq, hv⟩, rfl⟩
            · rename_i o off heq
              split at he
              · rename_i cs hcs
                obtain ⟨v, hv, e⟩ := Option.map_eq_some_iff.1 he
                cases e
                exact ⟨.inr ⟨o, off, cs, heq, hcs, hv⟩, rfl⟩
              · cases he
            · cases he
          obtain ⟨key, rfl⟩ := key
          obtain ⟨v, hr1, hr2⟩ := load_sound hI h1 hu hn rfl key
          exact worthN_v hr1 (Ext.refl _ _ _) (fun o ho => .inr ho) hI hr2
        · cases hr
      · cases hr
    · -- store
      rename_i t x v hpe
      split at hr
      · rename_i x' v' n hx hv hn
        cases hr
        have h1 := resO_sound hR hx
        have h2 := resO_sound hR hv
        simp only [SOp.step] at he
        split at he
        · rename_i o off heq
          split at he
          · rename_i ob ho
            split at he
            · rename_i cs hd
              split at he
              · rename_i hc
                cases he
                obtain ⟨w', q1, q2, q3⟩ := store_sound (P := P) hI h1 h2 hn heq ho hd hc.1 hc.2.1 hc.2.2
                exact worthN_u q1 q2 (fun o ho => .inr ho) q3
              · cases he
            · cases he
          · cases he
        · cases he
      · cases hr
    · -- alloc
      rename_i t hpe
      split at hr
      · rename_i z hz
        split at hr
        · rename_i hs
          cases hr
          cases he
          obtain ⟨i, zv, hi, hzv, hc⟩ := zeroT_sound hz
          obtain ⟨hk, hkn⟩ := hnew k rfl
          obtain ⟨v, w', G', q1, q2, q3, q4, q5⟩ := new_sound (P := P) hI (t := t) (ofConst_sound hc G w) hs hk hkn
          refine worthN_v (s := Instr.alloc t true (.tuple #[])) ?_ q2 (fun o ho => ?_) q4 q5
          · simp only [Instr.alloc, Sem.run_bind, run_zero hi hzv, Result.andThen_ok]
            simpa using q1
          · rcases (q3 o).1 ho with e | e
            · exact .inl ⟨k, rfl, e⟩
            · exact .inr e
        · cases hr
      · cases hr
    · -- box
      rename_i t x hpe
      obtain ⟨x', hx, rfl⟩ := Option.map_eq_some_iff.1 hr
      simp only [SOp.step] at he
      split at he
      · rename_i hs
        cases he
        obtain ⟨hk, hkn⟩ := hnew k rfl
        obtain ⟨v, w', G', q1, q2, q3, q4, q5⟩ := new_sound (P := P) hI (t := t) (resO_sound hR hx) hs hk hkn
        refine worthN_v (s := Instr.box t (a.eval x)) q1 q2 (fun o ho => ?_) q4 q5
        rcases (q3 o).1 ho with e | e
        · exact .inl ⟨k, rfl, e⟩
        · exact .inr e
      · cases he
    · -- lookup
      rename_i t m key ok hpe
      split at hr
      · rename_i kk et m' key' hmap hm hkey
        obtain ⟨z, hz, rfl⟩ := Option.map_eq_some_iff.1 hr
        obtain ⟨kt, d, hu, hkt, hd⟩ := resMap_spec hmap
        have h1 := resO_sound hR hm
        have h2 := resO_sound hR hkey
        have hst : st' = st ∧ ((m'.ev env = .nilmap ∧ av = (if ok then .tuple [z, .bool false] else z)) ∨
          (∃ o es, m'.ev env = .map o ∧ st.objs o = some (.map es) ∧ ((∃ i v, findA kk (key'.ev env) es 0 = some (some (i, v)) ∧ av = (if ok then .tuple [v, .bool true] else v)) ∨ (findA kk (key'.ev env) es 0 = some none ∧ av = (if ok then .tuple [z, .bool false] else z))))) := by
          simp only [SOp.step] at he
          split at he
          · rename_i heq
            split at he
            · cases he; exact ⟨rfl, .inl ⟨heq, rfl⟩⟩
            · cases he
          · rename_i o heq
            split at he
            · rename_i es ho
              split at he
              · rename_i i v hf
                cases he; exact ⟨rfl, .inr ⟨o, es, heq, ho, .inl ⟨i, v, hf, rfl⟩⟩⟩
              · rename_i hf
                split at he
                · cases he; exact ⟨rfl, .inr ⟨o, es, heq, ho, .inr ⟨hf, rfl⟩⟩⟩
                · cases he
              · cases he
            · cases he
          · cases he
        obtain ⟨rfl, hst⟩ := hst
        obtain ⟨v, q1, q2⟩ := lookup_sound hI hu hkt hd hz h1 h2 hst
        exact worthN_v q1 (Ext.refl _ _ _) (fun o ho => .inr ho) hI q2
      · cases hr
    · -- mapUpdate
      rename_i t m key v hpe
      split at hr
      · rename_i kk et m' key' v' hmap hm hkey hv
        cases hr
        obtain ⟨kt, d, hu, hkt, hd⟩ := resMap_spec hmap
        have h1 := resO_sound hR hm
        have h2 := resO_sound hR hkey
        have h3 := resO_sound hR hv
        simp only [SOp.step] at he
        split at he
        · rename_i o heq
          split at he
          · rename_i es ho
            split at he
            · rename_i i x hf
              cases he
              obtain ⟨w', q1, q2, q3⟩ := mapUpd_sound (P := P) hI hu hkt hd h1 h2 h3 heq ho (.inl ⟨i, x, hf, rfl⟩)
              exact worthN_u q1 q2 (fun o ho => .inr ho) q3
            · rename_i hf
              split at he
              · cases he
                obtain ⟨w', q1, q2, q3⟩ := mapUpd_sound (P := P) hI hu hkt hd h1 h2 h3 heq ho (.inr ⟨hf, rfl⟩)
                exact worthN_u q1 q2 (fun o ho => .inr ho) q3
              · cases he
            · cases he
          · cases he
        · cases he
      · cases hr
    · -- insert
      rename_i t m key v hpe
      split at hr
      · rename_i kk et m' key' v' hmap hm hkey hv
        cases hr
        obtain ⟨kt, d, hu, hkt, hd⟩ := resMap_spec hmap
        have h1 := resO_sound hR hm
        have h2 := resO_sound hR hkey
        have h3 := resO_sound hR hv
        simp only [SOp.step] at he
        split at he
        · rename_i o heq
          split at he
          · rename_i es ho
            split at he
            · rename_i i x hf
              cases he
              obtain ⟨w', q1, q2, q3⟩ := mapUpd_sound (P := P) hI hu hkt hd h1 h2 h3 heq ho (.inl ⟨i, x, hf, rfl⟩)
              exact worthN_u q1 q2 (fun o ho => .inr ho) q3
            · rename_i hf
              split at he
              · cases he
                obtain ⟨w', q1, q2, q3⟩ := mapUpd_sound (P := P) hI hu hkt hd h1 h2 h3 heq ho (.inr ⟨hf, rfl⟩)
                exact worthN_u q1 q2 (fun o ho => .inr ho) q3
              · cases he
            · cases he
          · cases he
        · cases he
      · cases hr
    · -- makeMap
      rename_i t rs hpe
      split at hr
      · rename_i hc
        cases hr
        cases he
        obtain ⟨hk, hkn⟩ := hnew k rfl
        obtain ⟨v, w', G', q1, q2, q3, q4, q5⟩ := mkMap_sound (P := P) hI (t := t) (r := rs.map a.eval) (fun v hv => by
          obtain ⟨hc1, hc2⟩ := hc
          cases rs with
          | none => cases hv
          | some x =>
            cases x with
            | const c =>
              cases c <;> simp [isIntConst] at hc1
              cases hv
              refine ⟨⟨_, _, rfl⟩, ?_⟩
              obtain ⟨⟨kk, et⟩, hm⟩ := Option.isSome_iff_exists.1 hc2
              obtain ⟨kt, d, hu, _⟩ := resMap_spec hm
              exact ⟨kt, et, hu⟩
            | _ => simp [isIntConst] at hc1) hk hkn
        refine worthN_v (s := Instr.makeMap t (rs.map a.eval)) q1 q2 (fun o ho => ?_) q4 q5
        rcases (q3 o).1 ho with e | e
        · exact .inl ⟨k, rfl, e⟩
        · exact .inr e
      · cases hr
    · -- call
      rename_i c hpe
      obtain ⟨callee, args, tys⟩ := c
      have hargs : args = args.toList.toArray := by simp
      have htys : tys = tys.toList.toArray := by simp
      unfold resCall at hr
      simp only at hr
      generalize args.toList = al at *
      generalize tys.toList = tl at *
      subst hargs; subst htys
      have happ : ∀ (sx x : Operand) (t tx e n : Nat) (str : Bool) (s' x' : Opd), callee = .builtin .append → al = [sx, x] → tl = [t, tx] → resO sx = some s' → resO x = some x' → P.underlying t = some (.slice e) → elemOk P e n (bytesT P e) = true →
          (str = false → ∃ e', P.underlying tx = some (.slice e')) → (str = true → P.underlying tx = some .string) → s = .append str e n (bytesT P e) s' x' k →
          WorthN P w0 base G st' w (execOp a.eval ⟨dst, .call ⟨callee, al.toArray, tl.toArray⟩, ty, pos, after, guard⟩) av (fun x => ∃ k, s.new = some k ∧ x = r + k) := by
        intro sx x t tx e n str s' x' e1 e2 e3 hs hx hu hel ht1 ht2 e4
        subst e1; subst e2; subst e3; subst e4
        have h1 := resO_sound hR hs
        have h2 := resO_sound hR hx
        obtain ⟨hk, hkn⟩ := hnew k rfl
        simp only [SOp.step] at he
        split at he
        · rename_i cs len p m ds heq hsrc
          have key : (m = 0 ∧ av = s'.ev env ∧ st' = st) ∨ (m ≠ 0 ∧ cs.length = len * n ∧ (len + m) * bytesT P e ≤ big ∧ len + m ≤ big ∧
              ((p = .full ∧ av = .sl (cs ++ ds) (len + m) (.tok (r + k)) ∧ st' = st.put (r + k) (.tip e n (len + m))) ∨
               (∃ t, p = .tok t ∧ st.objs t = some (.tip e n len) ∧ av = .sl (cs ++ ds) (len + m) (.tok t) ∧ st' = st.put t (.tip e n (len + m))))) := by
            split at he
            · rename_i h0
              cases he
              exact .inl ⟨h0, heq.symm, rfl⟩
            · rename_i h0
              split at he
              · rename_i hc
                refine .inr ⟨h0, hc.1, hc.2.1, hc.2.2, ?_⟩
                split at he
                · cases he; exact .inl ⟨rfl, rfl, rfl⟩
                · rename_i t0
                  split at he
                  · rename_i e0 s0 l0 ho
                    split at he
                    · rename_i hc2
                      obtain ⟨rfl, rfl, rfl⟩ := hc2
                      cases he
                      exact .inr ⟨t0, rfl, ho, rfl, rfl⟩
                    · cases he
                  · cases he
                · cases he
              · cases he
          obtain ⟨v, w', G', q1, q2, q3, q4, q5⟩ := append_sound (ty := ty) hI (elemOk_spec hu hel) h1 h2 heq hsrc ht1 ht2 hk hkn key
          refine ⟨v, w', G', .inl ?_, q2, fun o ho => ?_, q4, q5⟩
          · simp only [execOp, resolve, invoke, builtin, Sem.run_bind, Sem.run_pure, Result.andThen_ok, List.map_toArray, List.map_cons, List.map_nil]
            rw [q1]
            rfl
          · rcases q3 o ho with e | e
            · exact .inl ⟨k, rfl, e⟩
            · exact .inr e
        · cases he
      split at hr
      · obtain ⟨l, hl, rfl⟩ := Option.map_eq_some_iff.1 hr; cases he
      · split at hr
        · cases hr; cases he
        · cases hr
      · split at hr
        · split at hr
          · rename_i sx x t tx s' x' e e' hs hx hu hux
            split at hr
            · rename_i n hn
              split at hr
              · rename_i hel
                cases hr
                exact happ _ _ _ _ _ _ _ _ _ rfl rfl rfl hs hx hu hel (fun _ => ⟨e', hux⟩) (fun h => by cases h) rfl
              · cases hr
            · cases hr
          · rename_i sx x t tx s' x' e hs hx hu hux
            split at hr
            · rename_i n hn
              split at hr
              · rename_i hel
                cases hr
                exact happ _ _ _ _ _ _ _ _ _ rfl rfl rfl hs hx hu hel (fun h => by cases h) (fun _ => hux) rfl
              · cases hr
            · cases hr
          · cases hr
        · cases hr
      · cases hr
    · -- defer
      rename_i c hpe
      split at hr
      · split at hr
        · cases hr; cases he
        · cases hr
      · cases hr
    · cases hr
end

end Go.Proofs.YthaekebedmoipaaGreatDoor.AM

/- The abstract logic, part 15: calls, steps of a region, one after the other. -/
set_option linter.unusedVariables false
set_option linter.unusedSimpArgs false
namespace Go.Proofs.YthaekebedmoipaaGreatDoor.AM
open Go Go.RowKit

def St.add (st : St) (X : Nat → Option AObj) : St := { st with objs := fun o => match st.objs o with | some x => some x | none => X o }

theorem add_some {st : St} {X : Nat → Option AObj} {o : Nat} {x : AObj} (h : st.objs o = some x) : (st.add X).objs o = some x := by simp [St.add, h]
theorem add_put (st : St) (X : Nat → Option AObj) (o : Nat) (x : AObj) : (st.put o x).add X = (st.add X).put o x := by
  unfold St.add St.put
  congr 1
  funext o'
  by_cases e : o' = o
  · subst e; simp [upd_same]
  · simp [upd_other _ _ _ _ e]
theorem add_data {st : St} {X : Nat → Option AObj} {o : Nat} {cs : List AV} (h : st.data o = some cs) : (st.add X).data o = some cs := by
  obtain ⟨x, hx, hd⟩ := Option.bind_eq_some_iff.1 h
  exact Option.bind_eq_some_iff.2 ⟨x, add_some hx, hd⟩

/-- More objects do no harm. -/
theorem step_frame {s : SOp} {r : Nat} {env : Env} {st st' : St} {v : AV} (X : Nat → Option AObj) (h : s.step r env st = some (v, st')) : s.step r env (st.add X) = some (v, st'.add X) := by
  cases s with
  | pe e =>
    obtain ⟨v', hv, e'⟩ := Option.map_eq_some_iff.1 h
    cases e'
    simp [SOp.step, hv]
  | load n agg x =>
    simp only [SOp.step] at h ⊢
    split at h
    · obtain ⟨v', hv, e'⟩ := Option.map_eq_some_iff.1 h
      cases e'
      simp [hv]
    · split at h
      · rename_i cs hcs
        obtain ⟨v', hv, e'⟩ := Option.map_eq_some_iff.1 h
        cases e'
        simp [add_data hcs, hv]
      · cases h
    · cases h
  | store n x y =>
    simp only [SOp.step] at h ⊢
    split at h
    · split at h
      · rename_i ob ho
        split at h
        · rename_i cs hd
          split at h
          · rename_i hc
            cases h
            simp only [add_some ho, hd]
            rw [if_pos hc, add_put]
          · cases h
        · cases h
      · cases h
    · cases h
  | alloc T z k => cases h; simp [SOp.step, add_put]
  | box T x k =>
    simp only [SOp.step] at h ⊢
    split at h
    · rename_i hc; cases h; rw [if_pos hc, add_put]
    · cases h
  | append str e size bytes a b k =>
    simp only [SOp.step] at h ⊢
    split at h
    · split at h
      · rename_i h0; cases h; rw [if_pos h0]
      · rename_i h0
        rw [if_neg h0]
        split at h
        · rename_i hc
          rw [if_pos hc]
          split at h
          · cases h; rw [add_put]
          · split at h
            · rename_i ho
              split at h
              · rename_i hc2
                cases h
                simp only [add_some ho]
                rw [if_pos hc2, add_put]
              · cases h
            · cases h
          · cases h
        · cases h
    · cases h
  | lookup kk z ok m key =>
    simp only [SOp.step] at h ⊢
    split at h
    · split at h
      · rename_i hc; cases h; rw [if_pos hc]
      · cases h
    · split at h
      · rename_i ho
        simp only [add_some ho]
        split at h
        · cases h; simp [*]
        · split at h
          · rename_i hc; cases h; simp [*]
          · cases h
        · cases h
      · cases h
    · cases h
  | mapUpd kk m key v =>
    simp only [SOp.step] at h ⊢
    split at h
    · split at h
      · rename_i ho
        simp only [add_some ho]
        split at h
        · cases h; simp [*, add_put]
        · split at h
          · rename_i hc; cases h; simp [*, add_put]
          · cases h
        · cases h
      · cases h
    · cases h
  | mkMap k => cases h; simp [SOp.step, add_put]
  | call f l => cases h
  | callV x l => cases h
  | defer x l => cases h

/-- What a step leaves of the counter, and of ids that are not its own. -/
theorem step_keep {s : SOp} {r : Nat} {env : Env} {st st' : St} {v : AV} (h : s.step r env st = some (v, st')) : st'.next = st.next ∧ ∀ o, o < r → st.objs o = none → st'.objs o = none := by
  have hput : ∀ (x : Nat) (ob : AObj), (st.objs x ≠ none ∨ r ≤ x) → (st.put x ob).next = st.next ∧ ∀ o, o < r → st.objs o = none → (st.put x ob).objs o = none := by
    intro x ob hx
    refine ⟨rfl, fun o ho hn => ?_⟩
    have : o ≠ x := by rintro rfl; rcases hx with hx | hx
                       · exact hx hn
                       · omega
    simp [St.put, upd_other _ _ _ _ this, hn]
  cases s with
  | pe e => obtain ⟨v', hv, e'⟩ := Option.map_eq_some_iff.1 h; cases e'; exact ⟨rfl, fun _ _ h => h⟩
  | load n agg x =>
    simp only [SOp.step] at h
    split at h
    · obtain ⟨v', hv, e'⟩ := Option.map_eq_some_iff.1 h; cases e'; exact ⟨rfl, fun _ _ h => h⟩
    · split at h
      · obtain ⟨v', hv, e'⟩ := Option.map_eq_some_iff.1 h; cases e'; exact ⟨rfl, fun _ _ h => h⟩
      · cases h
    · cases h
  | store n x y =>
    simp only [SOp.step] at h
    split at h
    · split at h
      · rename_i ob ho
        split at h
        · split at h
          · cases h; exact hput _ _ (.inl (by simp [ho]))
          · cases h
        · cases h
      · cases h
    · cases h
  | alloc T z k => cases h; exact hput _ _ (.inr (by omega))
  | box T x k =>
    simp only [SOp.step] at h
    split at h
    · cases h; exact hput _ _ (.inr (by omega))
    · cases h
  | append str e size bytes a b k =>
    simp only [SOp.step] at h
    split at h
    · split at h
      · cases h; exact ⟨rfl, fun _ _ h => h⟩
      · split at h
        · split at h
          · cases h; exact hput _ _ (.inr (by omega))
          · split at h
            · rename_i ho
              split at h
              · cases h; exact hput _ _ (.inl (by simp [ho]))
              · cases h
            · cases h
          · cases h
        · cases h
    · cases h
  | lookup kk z ok m key =>
    simp only [SOp.step] at h
    split at h
    · split at h
      · cases h; exact ⟨rfl, fun _ _ h => h⟩
      · cases h
    · split at h
      · split at h
        · cases h; exact ⟨rfl, fun _ _ h => h⟩
        · split at h
          · cases h; exact ⟨rfl, fun _ _ h => h⟩
          · cases h
        · cases h
      · cases h
    · cases h
  | mapUpd kk m key v =>
    simp only [SOp.step] at h
    split at h
    · split at h
      · rename_i ho
        split at h
        · cases h; exact hput _ _ (.inl (by simp [ho]))
        · split at h
          · cases h; exact hput _ _ (.inl (by simp [ho]))
          · cases h
        · cases h
      · cases h
    · cases h
  | mkMap k => cases h; exact hput _ _ (.inr (by omega))
  | call f l => cases h
  | callV x l => cases h
  | defer x l => cases h

/-! ### calls -/
def Enters (P : Program) (f : FuncId) : Prop := ∃ fn, P.funcs[f]? = some fn ∧ fn.body.isNone = false ∧ (fn.name == "runtime.NumGoroutine") = false

structure Det (P : Program) (w0 : World) (base : Nat) (f : FuncId) (args : List AV) (st : St) (r : AV) (st' : St) : Prop where
  enters : Enters P f
  next : st.next ≤ st'.next
  keep : ∀ o, o < st.next → st.objs o = none → st'.objs o = none
  calls : ∀ (X : Nat → Option AObj) (G : Gh) (w : World) (vs : List Value), (∀ o, X o ≠ none → st.objs o = none) → Inv w0 base G (st.add X) w → RepL G w args vs →
    Calls P f ⟨vs⟩ w fun e w' => ∃ v G', e = .returned v ∧ Ext base G w G' w' ∧ (∀ o, o < st.next → G'.used o → G.used o) ∧ Inv w0 base G' (st'.add X) w' ∧ Rep G' w' r v

/-! ### frames of the abstract machine -/
abbrev ADef := Fn × List AV × List AV
def RepD (G : Gh) (w : World) (d : ADef) (c : Deferred) : Prop := ∃ cap args, c = { target := .fn d.1 ⟨cap⟩, args := ⟨args⟩ } ∧ RepL G w d.2.1 cap ∧ RepL G w d.2.2 args
def RepDs (G : Gh) (w : World) : List ADef → List Deferred → Prop
  | [], cs => cs = []
  | d :: ds, cs => ∃ c cs', cs = c :: cs' ∧ RepD G w d c ∧ RepDs G w ds cs'
structure RepFr (G : Gh) (w : World) (N : Nat) (env : Env) (ds : List ADef) (a : Act) : Prop where
  size : a.tmps.size = N
  env : RepEnv G w env a
  defers : RepDs G w ds a.defers

theorem repDs_mono {base : Nat} {G G' : Gh} {w w' : World} (h : Ext base G w G' w') : ∀ {ds : List ADef} {cs : List Deferred}, RepDs G w ds cs → RepDs G' w' ds cs
  | [], _, h' => h'
  | d :: ds, _, ⟨c, cs, e, ⟨cap, args, e', h1, h2⟩, h3⟩ => ⟨c, cs, e, ⟨cap, args, e', repL_mono h _ _ h1, repL_mono h _ _ h2⟩, repDs_mono h h3⟩
theorem repFr_mono {base : Nat} {G G' : Gh} {w w' : World} (h : Ext base G w G' w') {N : Nat} {env : Env} {ds : List ADef} {a : Act} (hf : RepFr G w N env ds a) : RepFr G' w' N env ds a :=
  ⟨hf.size, fun i => rep_mono h _ _ (hf.env i), repDs_mono h hf.defers⟩

def Env.put (env : Env) : Option Nat → AV → Env
  | none, _ => env
  | some d, v => env.set d v

theorem repFr_put {G : Gh} {w : World} {N : Nat} {env : Env} {ds : List ADef} {a : Act} (hf : RepFr G w N env ds a) {dst : Option Nat} (hd : ∀ d, dst = some d → d < N) {av : AV} {v : Value} (hv : Rep G w av v) : RepFr G w N (env.put dst av) ds (a.put dst v) := by
  cases dst with
  | none => exact hf
  | some d =>
    have hlt := hd d rfl
    refine ⟨by simp [Act.put, hf.size], fun i => ?_, hf.defers⟩
    by_cases e : i = d
    · subst e
      have h1 : (env.put (some i) av) i = av := if_pos rfl
      have h2 : (a.put (some i) v).tmps.getD i undef = v := by simp [Act.put, Array.getD_eq_getD_getElem?, hf.size, hlt]
      rw [h1, h2]; exact hv
    · have h1 : (env.put (some d) av) i = env i := if_neg e
      have h2 : (a.put (some d) v).tmps.getD i undef = a.tmps.getD i undef := by simp [Act.put, Array.getD_eq_getD_getElem?, Array.getElem?_setIfInBounds_ne (Ne.symm e)]
      rw [h1, h2]; exact hf.env i

/-! ### steps -/
def Wanted (s : SOper) (env : Env) : Prop := s.guard = none ∨ ∃ d b, s.guard = some (d, b) ∧ env d = .bool b

/-- A guard that is not met: another truth value, or the value of what was itself skipped. -/
def noB : AV → Bool → Bool
  | .bool b', b => b' != b
  | .tuple [], _ => true
  | _, _ => false

inductive Step (P : Program) (w0 : World) (base r : Nat) (s : SOper) (env : Env) (ds : List ADef) (st : St) : Env → List ADef → St → Prop
  | skip (d : Nat) (b : Bool) (h1 : s.guard = some (d, b)) (h2 : noB (env d) b = true) : Step P w0 base r s env ds st (env.put s.dst (.tuple [])) ds st
  | run (v : AV) (st' : St) (h1 : Wanted s env) (h2 : s.op.step r env st = some (v, st')) : Step P w0 base r s env ds st (env.put s.dst v) ds st'
  | call (f : FuncId) (args : List Opd) (v : AV) (st' : St) (h1 : Wanted s env) (h2 : s.op = .call f args) (h3 : Det P w0 base f (args.map (·.ev env)) st v st') : Step P w0 base r s env ds st (env.put s.dst v) ds st'
  | callV (x : Opd) (args : List Opd) (f : FuncId) (first cap : List AV) (v : AV) (st' : St) (h1 : Wanted s env) (h2 : s.op = .callV x args) (h3 : x.ev env = .func (.func f) first cap)
      (h4 : Det P w0 base f (first ++ args.map (·.ev env) ++ cap) st v st') : Step P w0 base r s env ds st (env.put s.dst v) ds st'
  | defer (x : Opd) (args : List Opd) (fn : Fn) (first cap : List AV) (h1 : Wanted s env) (h2 : s.op = .defer x args) (h3 : x.ev env = .func fn first cap) :
      Step P w0 base r s env ds st (env.put s.dst .undef) ((fn, cap, first ++ args.map (·.ev env)) :: ds) st

/-- Operation i of a region, resolved. -/
structure Resolves (P : Program) (N : Nat) (ops : Array Oper) (i k : Nat) (s : SOper) : Prop where
  ex : ∃ o, ops[i]? = some o ∧ resOp P k o.op = some s.op ∧ s.dst = o.dst ∧ (∀ d, o.dst = some d → d < N) ∧
    (o.guard = none ∧ s.guard = none ∨ ∃ j b oj d, o.guard = some (j, b) ∧ ops[j]? = some oj ∧ oj.dst = some d ∧ s.guard = some (d, b))

section
variable {P : Program} {w0 : World} {base : Nat} {G : Gh} {st st' : St} {w : World} {env env' : Env} {ds ds' : List ADef} {a : Act} {N : Nat} {ops : Array Oper} {i k r : Nat} {s : SOper} {Q : Exit → Act → World → Prop} {K : Act → World → Prop}

theorem yielded_bool (hf : RepFr G w N env ds a) {j d : Nat} {oj : Oper} {b : Bool} (h1 : ops[j]? = some oj) (h2 : oj.dst = some d) (h3 : env d = .bool b) : yielded ops a.tmps j = some b := by
  have := hf.env d
  rw [h3] at this
  simp only [Rep] at this
  have hv : a.tmps[d]? = some (.bool b) := by
    rw [Array.getD_eq_getD_getElem?] at this
    cases h : a.tmps[d]? with
    | none => rw [h] at this; cases this
    | some v => rw [h] at this; simp at this; rw [this]
  simp [yielded, h1, h2, hv]

theorem yielded_no (hf : RepFr G w N env ds a) {j d : Nat} {oj : Oper} {b : Bool} (h1 : ops[j]? = some oj) (h2 : oj.dst = some d) (h3 : noB (env d) b = true) : yielded ops a.tmps j ≠ some b := by
  cases hv : env d with
  | bool b' =>
    rw [yielded_bool hf h1 h2 hv]
    rw [hv] at h3
    simp [noB] at h3
    simp [h3]
  | tuple l =>
    cases l with
    | nil =>
      have := hf.env d
      rw [hv] at this
      obtain ⟨vs, hvs, rfl⟩ := this
      have hv2 : a.tmps[d]? = none ∨ a.tmps[d]? = some (.tuple #[]) := by
        rw [Array.getD_eq_getD_getElem?] at hvs
        cases h : a.tmps[d]? with
        | none => exact .inl rfl
        | some v => rw [h] at hvs; simp at hvs; exact .inr (by rw [hvs])
      rcases hv2 with hv2 | hv2 <;> simp [yielded, h1, h2, hv2]
    | cons x l => rw [hv] at h3; cases h3
  | _ => rw [hv] at h3; cases h3

theorem resolves_new {P : Program} {k : Nat} {op : Op} {s : SOp} (h : resOp P k op = some s) {k' : Nat} (hk : s.new = some k') : k' = k := by
  unfold resOp at h
  split at h
  · cases h; cases hk
  · split at h
    · split at h
      · split at h
        · cases h; cases hk
        · cases h
      · cases h
    · split at h
      · cases h; cases hk
      · cases h
    · split at h
      · split at h
        · cases h; cases hk; rfl
        · cases h
      · cases h
    · obtain ⟨x, _, rfl⟩ := Option.map_eq_some_iff.1 h; cases hk; rfl
    · split at h
      · obtain ⟨x, _, rfl⟩ := Option.map_eq_some_iff.1 h; cases hk
      · cases h
    · split at h
      · cases h; cases hk
      · cases h
    · split at h
      · cases h; cases hk
      · cases h
    · split at h
      · cases h; cases hk; rfl
      · cases h
    · unfold resCall at h
      split at h
      · obtain ⟨x, _, rfl⟩ := Option.map_eq_some_iff.1 h; cases hk
      · split at h
        · cases h; cases hk
        · cases h
      · split at h
        · split at h
          · split at h
            · split at h
              · cases h; cases hk; rfl
              · cases h
            · cases h
          · split at h
            · split at h
              · cases h; cases hk; rfl
              · cases h
            · cases h
          · cases h
        · cases h
      · cases h
    · split at h
      · split at h
        · cases h; cases hk
        · cases h
      · cases h
    · cases h
end

end Go.Proofs.YthaekebedmoipaaGreatDoor.AM

/- The abstract logic, part 16: a step is what the machine does; regions in the order of the text; code. -/
set_option linter.unusedVariables false
set_option linter.unusedSimpArgs false
namespace Go.Proofs.YthaekebedmoipaaGreatDoor.AM
open Go Go.RowKit

section
variable {P : Program} {w0 : World} {base : Nat} {G : Gh} {st st' : St} {w : World} {env env' : Env} {ds ds' : List ADef} {a : Act} {N : Nat} {ops : Array Oper} {i k r : Nat} {s : SOper} {Q : Exit → Act → World → Prop} {K : Act → World → Prop}

theorem run_callValue {c : Call} {x : Operand} {ty : TypeId} {f : FuncId} {first cap : List Value} (hc : c.callee = .value x) (hx : a.eval x = .func (.func f) ⟨first⟩ ⟨cap⟩) (hE : Enters P f) :
    (do let d ← resolve a.eval c ty; invoke d.target d.args : Sem Next).run P w = .ok (.enter f ⟨first ++ c.args.toList.map a.eval ++ cap⟩) w := by
  obtain ⟨fn, h1, h2, h3⟩ := hE
  have e : (⟨first⟩ ++ c.args.map a.eval : Array Value) ++ ⟨cap⟩ = ⟨first ++ c.args.toList.map a.eval ++ cap⟩ := by
    apply Array.ext'
    simp
  simp only [resolve, hc, hx, Deferred.ofValue, Sem.run_bind, Sem.run_pure, Result.andThen_ok, invoke, callFunc, run_program, h1, h3, h2, if_false, Bool.false_eq_true]
  rw [e]

theorem upon_call {o : Oper} {f : FuncId} {vs : List Value} (hrun : (execOp a.eval o).run P w = .ok (.enter f ⟨vs⟩) w) {R : Ending → World → Prop} (hc : Calls P f ⟨vs⟩ w R) (hK : ∀ e w', R e w' → ∃ v, e = .returned v ∧ K (a.put o.dst v) w') : o.wp P a w K Q := by
  unfold Oper.wp
  rw [hrun]
  refine hc.mono fun e w' he => ?_
  obtain ⟨v, rfl, hk⟩ := hK e w' he
  exact hk

theorem resCall_call {c : Call} {f : FuncId} {args : List Opd} (h : resCall P k c = some (.call f args)) : c.callee = .value (.func f) ∧ resOs c.args.toList = some args := by
  unfold resCall at h
  split at h
  · rename_i f' hc
    obtain ⟨l, hl, e⟩ := Option.map_eq_some_iff.1 h
    cases e
    exact ⟨hc, hl⟩
  · split at h <;> cases h
  · split at h
    · split at h <;> (try split at h) <;> (try split at h) <;> cases h
    · cases h
  · cases h
theorem resCall_callV {c : Call} {x : Opd} {args : List Opd} (h : resCall P k c = some (.callV x args)) : ∃ y, c.callee = .value y ∧ resO y = some x ∧ resOs c.args.toList = some args := by
  unfold resCall at h
  split at h
  · obtain ⟨l, hl, e⟩ := Option.map_eq_some_iff.1 h
    cases e
  · rename_i y _ hc
    split at h
    · rename_i x' l hx hl
      cases h
      exact ⟨y, hc, hx, hl⟩
    · cases h
  · split at h
    · split at h <;> (try split at h) <;> (try split at h) <;> cases h
    · cases h
  · cases h

theorem resOp_call {op : Op} {f : FuncId} {args : List Opd} (h : resOp P k op = some (.call f args)) : ∃ c, op = .call c ∧ c.callee = .value (.func f) ∧ resOs c.args.toList = some args := by
  unfold resOp at h
  split at h
  · cases h
  · split at h
    all_goals first
      | (rename_i c hpe; obtain ⟨h1, h2⟩ := resCall_call h; exact ⟨c, rfl, h1, h2⟩)
      | (exfalso
         revert h
         repeat' split
         all_goals first
           | (intro h; cases h; done)
           | (intro h; obtain ⟨_, _, e⟩ := Option.map_eq_some_iff.1 h; cases e))
theorem resOp_callV {op : Op} {x : Opd} {args : List Opd} (h : resOp P k op = some (.callV x args)) : ∃ c y, op = .call c ∧ c.callee = .value y ∧ resO y = some x ∧ resOs c.args.toList = some args := by
  unfold resOp at h
  split at h
  · cases h
  · split at h
    all_goals first
      | (rename_i c hpe; obtain ⟨y, h1, h2, h3⟩ := resCall_callV h; exact ⟨c, y, rfl, h1, h2, h3⟩)
      | (exfalso
         revert h
         repeat' split
         all_goals first
           | (intro h; cases h; done)
           | (intro h; obtain ⟨_, _, e⟩ := Option.map_eq_some_iff.1 h; cases e))
theorem resCall_defer {c : Call} {x : Opd} {args : List Opd} (h : resCall P k c = some (.defer x args)) : False := by
  unfold resCall at h
  revert h
  repeat' split
  all_goals first
    | (intro h; cases h; done)
    | (intro h; obtain ⟨_, _, e⟩ := Option.map_eq_some_iff.1 h; cases e)
theorem resOp_defer {op : Op} {x : Opd} {args : List Opd} (h : resOp P k op = some (.defer x args)) : ∃ c y, op = .defer c ∧ c.callee = .value y ∧ resO y = some x ∧ resOs c.args.toList = some args := by
  unfold resOp at h
  split at h
  · cases h
  · split at h
    all_goals first
      | (rename_i c hpe
         split at h
         · rename_i y hc
           split at h
           · rename_i x' l hx hl
             cases h
             exact ⟨c, y, rfl, hc, hx, hl⟩
           · cases h
         · cases h)
      | exact (resCall_defer h).elim
      | (exfalso
         revert h
         repeat' split
         all_goals first
           | (intro h; cases h; done)
           | (intro h; obtain ⟨_, _, e⟩ := Option.map_eq_some_iff.1 h; cases e))

/-- A step of the abstract machine is what the machine does. -/
theorem wpOp_of_step (hres : Resolves P N ops i k s) (hs : Step P w0 base r s env ds st env' ds' st') (X : Nat → Option AObj) (hX : ∀ o, X o ≠ none → st.objs o = none) (hI : Inv w0 base G (st.add X) w) (hF : RepFr G w N env ds a)
    (hfresh : ¬ G.used (r + k) ∧ r + k < st.next)
    (hK : ∀ a' w' G', Ext base G w G' w' → (∀ o, o < st.next → G'.used o → G.used o ∨ o = r + k) → Inv w0 base G' (st'.add X) w' → RepFr G' w' N env' ds' a' → K a' w') : wpOp P ops Q i K a w := by
  obtain ⟨o, ho, hop, hdst, hdN, hg⟩ := hres.ex
  have hsd : ∀ d, s.dst = some d → d < N := fun d h => hdN d (hdst ▸ h)
  unfold wpOp
  simp only [ho]
  have hwant : Wanted s env → Region.wanted o (yielded ops a.tmps) = true := by
    intro hw
    rcases hg with ⟨g1, g2⟩ | ⟨j, b, oj, d, g1, g2, g3, g4⟩
    · simp [Region.wanted, g1]
    · rcases hw with hw | ⟨d', b', hw, hb⟩
      · rw [g4] at hw; cases hw
      · rw [g4] at hw; cases hw
        simp [Region.wanted, g1, yielded_bool hF g2 g3 hb]
  cases hs with
  | skip d b h1 h2 =>
    have hnw : Region.wanted o (yielded ops a.tmps) = false := by
      rcases hg with ⟨g1, g2⟩ | ⟨j, b0, oj, d', g1, g2, g3, g4⟩
      · rw [g2] at h1; cases h1
      · rw [g4] at h1; cases h1
        simp [Region.wanted, g1, yielded_no hF g2 g3 h2]
    rw [hnw]
    simp only [Bool.false_eq_true, if_false]
    refine hK _ _ G (Ext.refl _ _ _) (fun _ _ h => .inl h) hI ?_
    rw [hdst]
    exact repFr_put hF hdN ⟨[], rfl, rfl⟩
  | run v _ h1 h2 =>
    rw [if_pos (hwant h1)]
    left
    obtain ⟨u, w', G', q1, q2, q3, q4, q5⟩ := step_sound (st := st.add X) (st' := st'.add X) hI hF.env hop (step_frame X h2) (fun k' hk' => by rw [resolves_new hop hk']; exact hfresh)
    have hfr : RepFr G' w' N (env.put s.dst v) ds (a.put o.dst u) := by
      rw [hdst]
      exact repFr_put (repFr_mono q2 hF) hdN q5
    have hk := hK _ _ G' q2 (fun o' _ ho' => by
      rcases q3 o' ho' with ⟨k', hk', e⟩ | h
      · right; rw [e, resolves_new hop hk']
      · exact .inl h) q4 hfr
    unfold Oper.wp
    rcases q1 with q1 | ⟨q1, rfl⟩
    · rw [q1]; exact hk
    · rw [q1]; exact hk
  | call f args v _ h1 h2 h3 =>
    rw [if_pos (hwant h1)]
    left
    rw [h2] at hop
    obtain ⟨c, hopc, hc1, hc2⟩ := resOp_call hop
    have hx : a.eval (.func f) = .func (.func f) ⟨[]⟩ ⟨[]⟩ := rfl
    have hrun : (execOp a.eval o).run P w = .ok (.enter f ⟨c.args.toList.map a.eval⟩) w := by
      have := run_callValue (w := w) (ty := o.type) hc1 hx h3.enters
      simp only [List.nil_append, List.append_nil] at this
      simp only [execOp, hopc]
      exact this
    refine upon_call hrun (h3.calls X G w _ hX hI (resOs_sound hF.env hc2)) ?_
    rintro e w' ⟨u, G', rfl, q2, q3, q4, q5⟩
    refine ⟨u, rfl, hK _ _ G' q2 (fun o' h h' => .inl (q3 o' h h')) q4 ?_⟩
    rw [hdst]
    exact repFr_put (repFr_mono q2 hF) hdN q5
  | callV x args f first cap v _ h1 h2 h3 h4 =>
    rw [if_pos (hwant h1)]
    left
    rw [h2] at hop
    obtain ⟨c, y, hopc, hc1, hc2, hc3⟩ := resOp_callV hop
    have hx := resO_sound hF.env hc2
    rw [h3] at hx
    obtain ⟨fv, cv, hy, hf1, hf2⟩ := hx
    have hrun : (execOp a.eval o).run P w = .ok (.enter f ⟨fv ++ c.args.toList.map a.eval ++ cv⟩) w := by
      have := run_callValue (w := w) (ty := o.type) hc1 hy h4.enters
      simp only [execOp, hopc]
      exact this
    refine upon_call hrun (h4.calls X G w _ hX hI (repL_append (repL_append hf1 (resOs_sound hF.env hc3)) hf2)) ?_
    rintro e w' ⟨u, G', rfl, q2, q3, q4, q5⟩
    refine ⟨u, rfl, hK _ _ G' q2 (fun o' h h' => .inl (q3 o' h h')) q4 ?_⟩
    rw [hdst]
    exact repFr_put (repFr_mono q2 hF) hdN q5
  | defer x args fn first cap h1 h2 h3 =>
    rw [if_pos (hwant h1)]
    left
    rw [h2] at hop
    obtain ⟨c, y, hopc, hc1, hc2, hc3⟩ := resOp_defer hop
    have hx := resO_sound hF.env hc2
    rw [h3] at hx
    obtain ⟨fv, cv, hy, hf1, hf2⟩ := hx
    have hrun : (execOp a.eval o).run P w = .ok (.defer { target := .fn fn ⟨cv⟩, args := ⟨fv ++ c.args.toList.map a.eval⟩ }) w := by
      have e : (⟨fv⟩ ++ c.args.map a.eval : Array Value) = ⟨fv ++ c.args.toList.map a.eval⟩ := by
        apply Array.ext'
        simp
      simp only [execOp, hopc, resolve, hc1, hy, Deferred.ofValue, Sem.run_bind, Sem.run_pure, Result.andThen_ok]
      rw [e]
    unfold Oper.wp
    rw [hrun]
    show K _ _
    refine hK _ _ G (Ext.refl _ _ _) (fun _ _ h => .inl h) hI ?_
    rw [hdst]
    have hf' : RepFr G w N env ((fn, cap, first ++ args.map (·.ev env)) :: ds) { a with defers := { target := .fn fn ⟨cv⟩, args := ⟨fv ++ c.args.toList.map a.eval⟩ } :: a.defers } :=
      ⟨hF.size, hF.env, _, _, rfl, ⟨cv, _, rfl, hf2, repL_append hf1 (resOs_sound hF.env hc3)⟩, hF.defers⟩
    exact repFr_put hf' hdN trivial

/-- What a step leaves. -/
theorem step_next (hs : Step P w0 base r s env ds st env' ds' st') (hr : r ≤ st.next) : st.next ≤ st'.next ∧ ∀ o, o < r → st.objs o = none → st'.objs o = none := by
  cases hs with
  | skip => exact ⟨Nat.le_refl _, fun _ _ h => h⟩
  | run v _ h1 h2 => obtain ⟨q1, q2⟩ := step_keep h2; exact ⟨Nat.le_of_eq q1.symm, q2⟩
  | call f args v _ h1 h2 h3 => exact ⟨h3.next, fun o ho h => h3.keep o (by omega) h⟩
  | callV x args f first cap v _ h1 h2 h3 h4 => exact ⟨h4.next, fun o ho h => h4.keep o (by omega) h⟩
  | defer => exact ⟨Nat.le_refl _, fun _ _ h => h⟩
end

end Go.Proofs.YthaekebedmoipaaGreatDoor.AM

/- The abstract logic, part 17: steps of a region that may change places. -/
set_option linter.unusedVariables false
set_option linter.unusedSimpArgs false
namespace Go.Proofs.YthaekebedmoipaaGreatDoor.AM
open Go Go.RowKit

/-! ### which slots are read -/
def Opd.reads : Opd → List Nat
  | .tmp t => [t]
  | .lit _ => []
def oreads : Option Opd → List Nat
  | none => []
  | some x => x.reads
def PE.reads : PE → List Nat
  | .mov x | .un _ x | .nilck x | .conv _ x | .fld _ _ _ x | .fldA _ x | .ext x _ | .mkI _ x | .lenS x | .lenL x | .lenM x => x.reads
  | .pick c a b => c.reads ++ a.reads ++ b.reads
  | .bin _ _ x y | .eqs _ _ x y | .idxA _ x y | .idxArr _ _ x y | .idxS x y | .max2 x y | .min2 x y => x.reads ++ y.reads
  | .build _ ps => ps.flatMap fun p => p.2.2.reads
  | .lits _ xs => xs.flatMap Opd.reads
  | .mkF _ a b => a.flatMap Opd.reads ++ b.flatMap Opd.reads
  | .slcS x l h | .slcL _ x l h => x.reads ++ oreads l ++ oreads h
def SOp.reads : SOp → List Nat
  | .pe e => e.reads
  | .load _ _ x | .box _ x _ => x.reads
  | .store _ x v => x.reads ++ v.reads
  | .alloc _ _ _ | .mkMap _ => []
  | .append _ _ _ _ s x _ => s.reads ++ x.reads
  | .lookup _ _ _ m k => m.reads ++ k.reads
  | .mapUpd _ m k v => m.reads ++ k.reads ++ v.reads
  | .call _ l => l.flatMap Opd.reads
  | .callV x l | .defer x l => x.reads ++ l.flatMap Opd.reads
def SOper.reads (s : SOper) : List Nat := s.op.reads ++ (match s.guard with | some (d, _) => [d] | none => [])

section
variable {env env' : Env}

theorem ev_congr {x : Opd} (h : ∀ t ∈ x.reads, env t = env' t) : x.ev env = x.ev env' := by
  cases x with
  | tmp t => exact h t (by simp [Opd.reads])
  | lit a => rfl
theorem evs_congr {l : List Opd} (h : ∀ t ∈ l.flatMap Opd.reads, env t = env' t) : l.map (·.ev env) = l.map (·.ev env') :=
  List.map_congr_left fun x hx => ev_congr fun t ht => h t (List.mem_flatMap.2 ⟨x, hx, ht⟩)
theorem bound_congr {d : Nat} {x : Option Opd} (h : ∀ t ∈ oreads x, env t = env' t) : boundA env d x = boundA env' d x := by
  cases x with
  | none => rfl
  | some x => simp only [boundA, ev_congr h]
theorem fillA_congr : ∀ {ps : List (Nat × Nat × Opd)} {cs : List AV}, (∀ t ∈ ps.flatMap (fun p => p.2.2.reads), env t = env' t) → fillA env cs ps = fillA env' cs ps
  | [], _, _ => rfl
  | (off, n, x) :: ps, cs, h => by
    have hx : x.ev env = x.ev env' := ev_congr fun t ht => h t (by simp [ht])
    simp only [fillA, hx]
    split
    · exact fillA_congr fun t ht => h t (by simp only [List.flatMap_cons, List.mem_append]; exact .inr ht)
    · rfl
theorem litsA_congr {n : Nat} : ∀ {xs : List Opd}, (∀ t ∈ xs.flatMap Opd.reads, env t = env' t) → litsA env n xs = litsA env' n xs
  | [], _ => rfl
  | x :: xs, h => by
    have hx : x.ev env = x.ev env' := ev_congr fun t ht => h t (by simp [ht])
    simp only [litsA, hx]
    rw [litsA_congr fun t ht => h t (by simp only [List.flatMap_cons, List.mem_append]; exact .inr ht)]

theorem pe_congr {e : PE} (h : ∀ t ∈ e.reads, env t = env' t) : e.eval env = e.eval env' := by
  cases e with
  | build z ps => simp only [PE.eval, fillA_congr h]
  | lits n xs => simp only [PE.eval, litsA_congr h]
  | mkF fn x y => simp only [PE.eval, evs_congr (l := x) fun t ht => h t (List.mem_append_left _ ht), evs_congr (l := y) fun t ht => h t (List.mem_append_right _ ht)]
  | slcS x l hi =>
    simp only [PE.reads, List.mem_append] at h
    simp only [PE.eval, ev_congr (x := x) fun t ht => h t (.inl (.inl ht)), bound_congr (x := l) fun t ht => h t (.inl (.inr ht)), bound_congr (x := hi) fun t ht => h t (.inr ht)]
  | slcL n x l hi =>
    simp only [PE.reads, List.mem_append] at h
    simp only [PE.eval, ev_congr (x := x) fun t ht => h t (.inl (.inl ht)), bound_congr (x := l) fun t ht => h t (.inl (.inr ht)), bound_congr (x := hi) fun t ht => h t (.inr ht)]
  | pick c x y =>
    simp only [PE.reads, List.mem_append] at h
    simp only [PE.eval, ev_congr (x := c) fun t ht => h t (.inl (.inl ht)), ev_congr (x := x) fun t ht => h t (.inl (.inr ht)), ev_congr (x := y) fun t ht => h t (.inr ht)]
  | bin d op x y => simp only [PE.reads, List.mem_append] at h; simp only [PE.eval, ev_congr (x := x) fun t ht => h t (.inl ht), ev_congr (x := y) fun t ht => h t (.inr ht)]
  | eqs d op x y => simp only [PE.reads, List.mem_append] at h; simp only [PE.eval, ev_congr (x := x) fun t ht => h t (.inl ht), ev_congr (x := y) fun t ht => h t (.inr ht)]
  | idxA n x y => simp only [PE.reads, List.mem_append] at h; simp only [PE.eval, ev_congr (x := x) fun t ht => h t (.inl ht), ev_congr (x := y) fun t ht => h t (.inr ht)]
  | idxArr n m x y => simp only [PE.reads, List.mem_append] at h; simp only [PE.eval, ev_congr (x := x) fun t ht => h t (.inl ht), ev_congr (x := y) fun t ht => h t (.inr ht)]
  | idxS x y => simp only [PE.reads, List.mem_append] at h; simp only [PE.eval, ev_congr (x := x) fun t ht => h t (.inl ht), ev_congr (x := y) fun t ht => h t (.inr ht)]
  | max2 x y => simp only [PE.reads, List.mem_append] at h; simp only [PE.eval, ev_congr (x := x) fun t ht => h t (.inl ht), ev_congr (x := y) fun t ht => h t (.inr ht)]
  | min2 x y => simp only [PE.reads, List.mem_append] at h; simp only [PE.eval, ev_congr (x := x) fun t ht => h t (.inl ht), ev_congr (x := y) fun t ht => h t (.inr ht)]
  | mov x => simp only [PE.eval, ev_congr (x := x) h]
  | un op x => simp only [PE.eval, ev_congr (x := x) h]
  | nilck x => simp only [PE.eval, ev_congr (x := x) h]
  | conv c x => simp only [PE.eval, ev_congr (x := x) h]
  | fld o n g x => simp only [PE.eval, ev_congr (x := x) h]
  | fldA o x => simp only [PE.eval, ev_congr (x := x) h]
  | ext x i => simp only [PE.eval, ev_congr (x := x) h]
  | mkI t x => simp only [PE.eval, ev_congr (x := x) h]
  | lenS x => simp only [PE.eval, ev_congr (x := x) h]
  | lenL x => simp only [PE.eval, ev_congr (x := x) h]
  | lenM x => simp only [PE.eval, ev_congr (x := x) h]

theorem step_congr {s : SOp} {r : Nat} {st : St} (h : ∀ t ∈ s.reads, env t = env' t) : s.step r env st = s.step r env' st := by
  cases s with
  | pe e => simp only [SOp.step, pe_congr (e := e) h]
  | load n g x => simp only [SOp.step, ev_congr (x := x) h]
  | box T x k => simp only [SOp.step, ev_congr (x := x) h]
  | store n x v => simp only [SOp.reads, List.mem_append] at h; simp only [SOp.step, ev_congr (x := x) fun t ht => h t (.inl ht), ev_congr (x := v) fun t ht => h t (.inr ht)]
  | alloc T z k => rfl
  | mkMap k => rfl
  | append b e n m x v k => simp only [SOp.reads, List.mem_append] at h; simp only [SOp.step, ev_congr (x := x) fun t ht => h t (.inl ht), ev_congr (x := v) fun t ht => h t (.inr ht)]
  | lookup kk z ok x v => simp only [SOp.reads, List.mem_append] at h; simp only [SOp.step, ev_congr (x := x) fun t ht => h t (.inl ht), ev_congr (x := v) fun t ht => h t (.inr ht)]
  | mapUpd kk x y z =>
    simp only [SOp.reads, List.mem_append] at h
    simp only [SOp.step, ev_congr (x := x) fun t ht => h t (.inl (.inl ht)), ev_congr (x := y) fun t ht => h t (.inl (.inr ht)), ev_congr (x := z) fun t ht => h t (.inr ht)]
  | call f l => rfl
  | callV x l => rfl
  | defer x l => rfl
end

/-! ### kinds -/
inductive Kd where
  | pure | read | alloc | eff | other
  deriving DecidableEq

def SOp.kd : SOp → Kd
  | .pe _ => .pure
  | .load _ _ _ | .lookup _ _ _ _ _ => .read
  | .alloc _ _ _ | .box _ _ _ | .mkMap _ => .alloc
  | .store _ _ _ | .append _ _ _ _ _ _ _ | .mapUpd _ _ _ _ | .call _ _ | .callV _ _ => .eff
  | .defer _ _ => .other

/-- The object that a reader looks at. -/
def SOp.rd (env : Env) : SOp → Option Nat
  | .load _ _ x => match x.ev env with
    | .ptr o _ => some o
    | _ => none
  | .lookup _ _ _ m _ => match m.ev env with
    | .map o => some o
    | _ => none
  | _ => none

theorem rd_congr {env env' : Env} {s : SOp} (h : ∀ t ∈ s.reads, env t = env' t) : s.rd env = s.rd env' := by
  cases s with
  | load n g x => simp only [SOp.rd, ev_congr (x := x) h]
  | lookup kk z ok x v => simp only [SOp.reads, List.mem_append] at h; simp only [SOp.rd, ev_congr (x := x) fun t ht => h t (.inl ht)]
  | _ => rfl

theorem pure_step {s : SOp} (hk : s.kd = .pure) {r : Nat} {env : Env} {st st' : St} {v : AV} (h : s.step r env st = some (v, st')) : st' = st ∧ ∀ st2, s.step r env st2 = some (v, st2) := by
  cases s <;> simp [SOp.kd] at hk
  obtain ⟨v', hv, e⟩ := Option.map_eq_some_iff.1 h
  cases e
  exact ⟨rfl, fun st2 => by simp [SOp.step, hv]⟩

theorem read_step {s : SOp} (hk : s.kd = .read) {r : Nat} {env : Env} {st st' : St} {v : AV} (h : s.step r env st = some (v, st')) :
    st' = st ∧ ∀ st2 : St, (∀ o, s.rd env = some o → st.objs o = st2.objs o) → s.step r env st2 = some (v, st2) := by
  cases s <;> simp [SOp.kd] at hk
  · rename_i n g x
    simp only [SOp.step] at h
    split at h
    · rename_i cs off heq
      obtain ⟨v', hv, e⟩ := Option.map_eq_some_iff.1 h
      cases e
      exact ⟨rfl, fun st2 _ => by simp [SOp.step, heq, hv]⟩
    · rename_i o off heq
      split at h
      · rename_i cs hd
        obtain ⟨v', hv, e⟩ := Option.map_eq_some_iff.1 h
        cases e
        refine ⟨rfl, fun st2 h2 => ?_⟩
        have h3 := h2 o (by simp [SOp.rd, heq])
        have h4 : st2.data o = some cs := by unfold St.data at hd ⊢; rw [← h3]; exact hd
        simp [SOp.step, heq, h4, hv]
      · cases h
    · cases h
  · rename_i kk z ok m key
    simp only [SOp.step] at h
    split at h
    · rename_i heq
      split at h
      · rename_i hs; cases h; exact ⟨rfl, fun st2 _ => by simp [SOp.step, heq, hs]⟩
      · cases h
    · rename_i o heq
      split at h
      · rename_i es ho
        have key : ∀ st2 : St, (∀ o', SOp.rd env (.lookup kk z ok m key) = some o' → st.objs o' = st2.objs o') → st2.objs o = some (.map es) := fun st2 h2 => by rw [← h2 o (by simp [SOp.rd, heq]), ho]
        split at h
        · rename_i hf; cases h; exact ⟨rfl, fun st2 h2 => by simp [SOp.step, heq, key st2 h2, hf]⟩
        · rename_i hf
          split at h
          · rename_i hs; cases h; exact ⟨rfl, fun st2 h2 => by simp [SOp.step, heq, key st2 h2, hf, hs]⟩
          · cases h
        · cases h
      · cases h
    · cases h

theorem alloc_step {P : Program} {s : SOp} (hk : s.kd = .alloc) {r i : Nat} (hi : s.new = some i) {env : Env} {st st' : St} {v : AV} (h : s.step r env st = some (v, st')) :
    ∃ x, st' = st.put (r + i) x ∧ ∀ st2 : St, s.step r env st2 = some (v, st2.put (r + i) x) := by
  cases s <;> simp [SOp.kd] at hk
  · cases hi; cases h; exact ⟨_, rfl, fun st2 => rfl⟩
  · cases hi
    simp only [SOp.step] at h
    split at h
    · rename_i hs; cases h; exact ⟨_, rfl, fun st2 => by simp only [SOp.step]; rw [if_pos hs]⟩
    · cases h
  · cases hi; cases h; exact ⟨_, rfl, fun st2 => rfl⟩

/-- One object more. -/
def one (k : Nat) (x : AObj) : Nat → Option AObj := fun o => if o = k then some x else none
theorem add_one {st : St} {k : Nat} {x : AObj} (h : st.objs k = none) : st.add (one k x) = st.put k x := by
  unfold St.add St.put
  congr 1
  funext o
  by_cases e : o = k
  · subst e; simp [h, one, upd_same]
  · cases ho : st.objs o <;> simp [ho, one, e, upd_other]

theorem stadd_add {st : St} {X Y : Nat → Option AObj} : (st.add X).add Y = st.add (fun o => match X o with | some x => some x | none => Y o) := by
  unfold St.add
  congr 1
  funext o
  simp only
  cases st.objs o <;> rfl

/-- A call goes the same way beside other objects. -/
theorem det_add {P : Program} {w0 : World} {base : Nat} {f : FuncId} {args : List AV} {st st' : St} {r : AV} (h : Det P w0 base f args st r st') (X : Nat → Option AObj) (hX : ∀ o, X o ≠ none → st.objs o = none) :
    Det P w0 base f args (st.add X) r (st'.add X) where
  enters := h.enters
  next := h.next
  keep := fun o ho hn => by
    simp only [St.add] at hn ⊢
    split at hn
    · cases hn
    · rename_i hs
      rw [h.keep o ho hs]
      exact hn
  calls := fun Y G w vs hY hI hR => by
    rw [stadd_add] at hI
    refine (h.calls _ G w vs (fun o ho => ?_) hI hR).mono ?_
    · by_cases hx : X o = none
      · rw [hx] at ho
        have := hY o ho
        simp only [St.add] at this
        split at this
        · cases this
        · assumption
      · exact hX o hx
    · rintro e w' ⟨v, G', q1, q2, q3, q4, q5⟩
      exact ⟨v, G', q1, q2, q3, by rw [stadd_add]; exact q4, q5⟩

end Go.Proofs.YthaekebedmoipaaGreatDoor.AM
