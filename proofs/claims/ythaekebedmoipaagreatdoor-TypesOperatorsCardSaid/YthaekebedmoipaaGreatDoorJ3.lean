/- Part 3 of the proof: A18 A19 A20 A21 A22 A23 A23b. -/
import Derived.Test.YthaekebedmoipaaGreatDoorJ2
/- The abstract logic, part 18: a region that draws its order: one order tells of all. -/
set_option linter.unusedVariables false
set_option linter.unusedSimpArgs false
namespace Go.Proofs.YthaekebedmoipaaGreatDoor.AM
open Go Go.RowKit

/-- What else is asked of a step, so that it may change places. -/
structure Side (r : Nat) (ss : List SOper) (un : Nat → Nat → Bool) (rds : Nat → Option Nat) (i : Nat) (s : SOper) (env : Env) (st st' : St) : Prop where
  read : s.op.kd = .read → Wanted s env → s.op.rd env = rds i
  apart : s.op.kd = .read → ∀ q sq, ss[q]? = some sq → sq.op.kd = .alloc → un i q = true → rds i ≠ some (r + q)
  alloc : s.op.kd = .alloc → st.objs (r + i) = none
  effA : s.op.kd = .eff → ∀ q sq, ss[q]? = some sq → sq.op.kd = .alloc → un i q = true → st.objs (r + q) = st'.objs (r + q)
  effR : s.op.kd = .eff → ∀ q sq, ss[q]? = some sq → sq.op.kd = .read → un i q = true → ∀ o, rds q = some o → st.objs o = st'.objs o

/-- The slots of two steps do not meet. -/
def Apart (s t : SOper) : Prop := (∀ d, s.dst = some d → d ∉ t.reads ∧ t.dst ≠ some d) ∧ (∀ d, t.dst = some d → d ∉ s.reads)

/-- Which steps may change places: the first comes first in the order at hand. -/
def mayPass : Kd → Kd → Bool
  | .other, _ | _, .other => false
  | .eff, .eff | .alloc, .eff | .alloc, .read => false
  | _, _ => true

section
variable {P : Program} {w0 : World} {base r : Nat} {ss : List SOper} {un : Nat → Nat → Bool} {rds : Nat → Option Nat} {env env1 env2 : Env} {ds : List ADef} {st st1 st2 : St} {i j : Nat} {si sj : SOper}

theorem put_reads {env : Env} {d : Option Nat} {v : AV} {l : List Nat} (h : ∀ d', d = some d' → d' ∉ l) : ∀ t ∈ l, (env.put d v) t = env t := by
  intro t ht
  cases d with
  | none => rfl
  | some d' =>
    have : t ≠ d' := fun e => h d' rfl (e ▸ ht)
    exact if_neg this

theorem put_comm {env : Env} {d e : Option Nat} {v u : AV} (h : ∀ d', d = some d' → e ≠ some d') : (env.put d v).put e u = (env.put e u).put d v := by
  cases d with
  | none => rfl
  | some d =>
    cases e with
    | none => rfl
    | some e =>
      have hne : e ≠ d := fun x => h d rfl (x ▸ rfl)
      funext t
      simp only [Env.put, Env.set]
      by_cases h1 : t = e
      · subst h1; simp [hne]
      · simp [h1]

theorem wanted_congr {s : SOper} {env env' : Env} (h : ∀ t ∈ s.reads, env t = env' t) (hw : Wanted s env) : Wanted s env' := by
  rcases hw with hw | ⟨d, b, hw, hb⟩
  · exact .inl hw
  · exact .inr ⟨d, b, hw, by rw [← h d (by simp [SOper.reads, hw])]; exact hb⟩

/-- A step whose value and effect on the store are told. -/
inductive Does (P : Program) (w0 : World) (base r : Nat) (s : SOper) (env : Env) (st : St) : AV → St → Prop
  | skip (d : Nat) (b : Bool) (h1 : s.guard = some (d, b)) (h2 : noB (env d) b = true) : Does P w0 base r s env st (.tuple []) st
  | run (v : AV) (st' : St) (h1 : Wanted s env) (h2 : s.op.step r env st = some (v, st')) : Does P w0 base r s env st v st'
  | call (f : FuncId) (args : List Opd) (v : AV) (st' : St) (h1 : Wanted s env) (h2 : s.op = .call f args) (h3 : Det P w0 base f (args.map (·.ev env)) st v st') : Does P w0 base r s env st v st'
  | callV (x : Opd) (args : List Opd) (f : FuncId) (first cap : List AV) (v : AV) (st' : St) (h1 : Wanted s env) (h2 : s.op = .callV x args) (h3 : x.ev env = .func (.func f) first cap)
      (h4 : Det P w0 base f (first ++ args.map (·.ev env) ++ cap) st v st') : Does P w0 base r s env st v st'

theorem does_step {s : SOper} {v : AV} {st' : St} (h : Does P w0 base r s env st v st') : Step P w0 base r s env ds st (env.put s.dst v) ds st' := by
  cases h with
  | skip d b h1 h2 => exact .skip d b h1 h2
  | run _ _ h1 h2 => exact .run _ _ h1 h2
  | call f args _ _ h1 h2 h3 => exact .call f args _ _ h1 h2 h3
  | callV x args f first cap _ _ h1 h2 h3 h4 => exact .callV x args f first cap _ _ h1 h2 h3 h4

theorem does_congr {s : SOper} {v : AV} {st' : St} {env' : Env} (h : ∀ t ∈ s.reads, env t = env' t) (hd : Does P w0 base r s env st v st') : Does P w0 base r s env' st v st' := by
  have ho : ∀ t ∈ s.op.reads, env t = env' t := fun t ht => h t (List.mem_append_left _ ht)
  cases hd with
  | skip d b h1 h2 => exact .skip d b h1 (by rw [← h d (by simp [SOper.reads, h1])]; exact h2)
  | run _ _ h1 h2 => exact .run _ _ (wanted_congr h h1) (by rw [← step_congr ho]; exact h2)
  | call f args _ _ h1 h2 h3 =>
    rw [h2] at ho
    exact .call f args _ _ (wanted_congr h h1) h2 (by rw [← evs_congr ho]; exact h3)
  | callV x args f first cap _ _ h1 h2 h3 h4 =>
    rw [h2] at ho
    exact .callV x args f first cap _ _ (wanted_congr h h1) h2 (by rw [← ev_congr fun t ht => ho t (List.mem_append_left _ ht)]; exact h3) (by rw [← evs_congr fun t ht => ho t (List.mem_append_right _ ht)]; exact h4)

/-- Steps of the kind in another store. -/
theorem does_pure {s : SOper} {v : AV} {st' : St} (hk : s.op.kd = .pure) (h : Does P w0 base r s env st v st') : st' = st ∧ ∀ st2, Does P w0 base r s env st2 v st2 := by
  cases h with
  | skip d b h1 h2 => exact ⟨rfl, fun st2 => .skip d b h1 h2⟩
  | run _ _ h1 h2 => obtain ⟨e, h3⟩ := pure_step hk h2; exact ⟨e, fun st2 => .run _ _ h1 (h3 st2)⟩
  | call f args _ _ h1 h2 h3 => rw [h2] at hk; cases hk
  | callV x args f first cap _ _ h1 h2 h3 h4 => rw [h2] at hk; cases hk
theorem does_read {s : SOper} {v : AV} {st' : St} (hk : s.op.kd = .read) (h : Does P w0 base r s env st v st') : st' = st ∧ ∀ st2 : St, (Wanted s env → ∀ o, s.op.rd env = some o → st.objs o = st2.objs o) → Does P w0 base r s env st2 v st2 := by
  cases h with
  | skip d b h1 h2 => exact ⟨rfl, fun st2 _ => .skip d b h1 h2⟩
  | run _ _ h1 h2 => obtain ⟨e, h3⟩ := read_step hk h2; exact ⟨e, fun st2 h4 => .run _ _ h1 (h3 st2 (h4 h1))⟩
  | call f args _ _ h1 h2 h3 => rw [h2] at hk; cases hk
  | callV x args f first cap _ _ h1 h2 h3 h4 => rw [h2] at hk; cases hk
theorem does_alloc {s : SOper} {v : AV} {st' : St} (hk : s.op.kd = .alloc) (hi : s.op.new = some i) (h : Does P w0 base r s env st v st') :
    (st' = st ∧ ∀ st2, Does P w0 base r s env st2 v st2) ∨ ∃ x, st' = st.put (r + i) x ∧ ∀ st2 : St, Does P w0 base r s env st2 v (st2.put (r + i) x) := by
  cases h with
  | skip d b h1 h2 => exact .inl ⟨rfl, fun st2 => .skip d b h1 h2⟩
  | run _ _ h1 h2 => obtain ⟨x, e, h3⟩ := alloc_step (P := P) hk hi h2; exact .inr ⟨x, e, fun st2 => .run _ _ h1 (h3 st2)⟩
  | call f args _ _ h1 h2 h3 => rw [h2] at hk; cases hk
  | callV x args f first cap _ _ h1 h2 h3 h4 => rw [h2] at hk; cases hk
/-- Beside one more object. -/
theorem does_add {s : SOper} {v : AV} {st' : St} {k : Nat} {x : AObj} (h : Does P w0 base r s env st v st') (h1 : st.objs k = none) (h2 : st'.objs k = none) : Does P w0 base r s env (st.put k x) v (st'.put k x) := by
  rw [← add_one h1, ← add_one h2]
  have hX : ∀ o, one k x o ≠ none → st.objs o = none := by
    intro o ho
    by_cases e : o = k
    · subst e; exact h1
    · exact absurd (if_neg e) ho
  cases h with
  | skip d b g1 g2 => exact .skip d b g1 g2
  | run _ _ g1 g2 => exact .run _ _ g1 (step_frame _ g2)
  | call f args _ _ g1 g2 g3 => exact .call f args _ _ g1 g2 (det_add g3 _ hX)
  | callV y args f first cap _ _ g1 g2 g3 g4 => exact .callV y args f first cap _ _ g1 g2 g3 (det_add g4 _ hX)

theorem put_put_comm {st : St} {a b : Nat} {x y : AObj} (h : a ≠ b) : (st.put a x).put b y = (st.put b y).put a x := by
  unfold St.put
  congr 1
  funext o
  simp only [upd]
  by_cases h1 : o = b
  · subst h1; simp [Ne.symm h]
  · simp [h1]
theorem put_objs_ne {st : St} {a o : Nat} {x : AObj} (h : o ≠ a) : (st.put a x).objs o = st.objs o := upd_other _ _ _ _ h
theorem put_objs_same {st : St} {a : Nat} {x : AObj} : (st.put a x).objs a = some x := upd_same _ _ _

/-- Two neighbours change places. -/
theorem swap_does (hij : i ≠ j) (hsi : ss[i]? = some si) (hsj : ss[j]? = some sj) (hni : si.op.kd = .alloc → si.op.new = some i) (hnj : sj.op.kd = .alloc → sj.op.new = some j)
    (hap : Apart sj si) (hmay : mayPass sj.op.kd si.op.kd = true) (hu1 : un i j = true) (hu2 : un j i = true) {vj vi : AV}
    (h1 : Does P w0 base r sj env st vj st1) (s1 : Side r ss un rds j sj env st st1) (h2 : Does P w0 base r si (env.put sj.dst vj) st1 vi st2) (s2 : Side r ss un rds i si (env.put sj.dst vj) st1 st2) :
    ∃ st1', Does P w0 base r si env st vi st1' ∧ Side r ss un rds i si env st st1' ∧ Does P w0 base r sj (env.put si.dst vi) st1' vj st2 ∧ Side r ss un rds j sj (env.put si.dst vi) st1' st2 ∧
      (env.put sj.dst vj).put si.dst vi = (env.put si.dst vi).put sj.dst vj := by
  have c1 : ∀ t ∈ si.reads, (env.put sj.dst vj) t = env t := put_reads fun d hd => (hap.1 d hd).1
  have c2 : ∀ t ∈ sj.reads, env t = (env.put si.dst vi) t := fun t ht => (put_reads (v := vi) (env := env) (fun d hd => hap.2 d hd) t ht).symm
  have hcomm : (env.put sj.dst vj).put si.dst vi = (env.put si.dst vi).put sj.dst vj := put_comm fun d hd => (hap.1 d hd).2
  have h2' := does_congr c1 h2
  have wi : Wanted si env → Wanted si (env.put sj.dst vj) := wanted_congr fun t ht => (c1 t ht).symm
  have wj : Wanted sj (env.put si.dst vi) → Wanted sj env := wanted_congr fun t ht => (c2 t ht).symm
  have ri : si.op.rd (env.put sj.dst vj) = si.op.rd env := rd_congr fun t ht => c1 t (List.mem_append_left _ ht)
  have rj : sj.op.rd env = sj.op.rd (env.put si.dst vi) := rd_congr fun t ht => c2 t (List.mem_append_left _ ht)
  have readI : si.op.kd = .read → Wanted si env → si.op.rd env = rds i := fun hk hw => by rw [← ri]; exact s2.read hk (wi hw)
  have readJ : sj.op.kd = .read → Wanted sj (env.put si.dst vi) → sj.op.rd (env.put si.dst vi) = rds j := fun hk hw => by rw [← rj]; exact s1.read hk (wj hw)
  have hne : r + i ≠ r + j := by omega
  cases hkj : sj.op.kd with
  | other => rw [hkj] at hmay; cases hmay
  | pure =>
    obtain ⟨rfl, hj⟩ := does_pure hkj h1
    exact ⟨st2, h2', ⟨readI, s2.apart, s2.alloc, s2.effA, s2.effR⟩, does_congr c2 (hj st2), ⟨readJ, s1.apart, (fun h => by rw [hkj] at h; cases h), (fun h => by rw [hkj] at h; cases h), (fun h => by rw [hkj] at h; cases h)⟩, hcomm⟩
  | read =>
    obtain ⟨rfl, hj⟩ := does_read hkj h1
    refine ⟨st2, h2', ⟨readI, s2.apart, s2.alloc, s2.effA, s2.effR⟩, does_congr c2 (hj st2 fun hw o ho => ?_), ⟨readJ, s1.apart, (fun h => by rw [hkj] at h; cases h), (fun h => by rw [hkj] at h; cases h), (fun h => by rw [hkj] at h; cases h)⟩, hcomm⟩
    have ho' : rds j = some o := by rw [← s1.read hkj hw]; exact ho
    cases hki : si.op.kd with
    | other => rw [hki, hkj] at hmay; cases hmay
    | pure => obtain ⟨rfl, _⟩ := does_pure hki h2'; rfl
    | read => obtain ⟨rfl, _⟩ := does_read hki h2'; rfl
    | alloc =>
      rcases does_alloc hki (hni hki) h2' with ⟨rfl, _⟩ | ⟨x, rfl, _⟩
      · rfl
      · have := s1.apart hkj i si hsi hki hu2
        exact (put_objs_ne fun e => this (by rw [ho', e])).symm
    | eff => exact s2.effR hki j sj hsj hkj hu1 o ho'
  | alloc =>
    have hnone := s1.alloc hkj
    rcases does_alloc hkj (hnj hkj) h1 with ⟨rfl, hj⟩ | ⟨x, rfl, hj⟩
    · refine ⟨st2, h2', ⟨readI, s2.apart, s2.alloc, s2.effA, s2.effR⟩, does_congr c2 (hj st2), ⟨readJ, (fun h => by rw [hkj] at h; cases h), fun _ => ?_, (fun h => by rw [hkj] at h; cases h), (fun h => by rw [hkj] at h; cases h)⟩, hcomm⟩
      cases hki : si.op.kd with
      | other => rw [hki, hkj] at hmay; cases hmay
      | pure => obtain ⟨rfl, _⟩ := does_pure hki h2'; exact hnone
      | read => obtain ⟨rfl, _⟩ := does_read hki h2'; exact hnone
      | alloc =>
        rcases does_alloc hki (hni hki) h2' with ⟨rfl, _⟩ | ⟨y, rfl, _⟩
        · exact hnone
        · rw [put_objs_ne hne.symm]; exact hnone
      | eff => rw [hki, hkj] at hmay; cases hmay
    · cases hki : si.op.kd with
      | other => rw [hki, hkj] at hmay; cases hmay
      | pure =>
        obtain ⟨rfl, hi⟩ := does_pure hki h2'
        exact ⟨st, hi st, ⟨readI, (fun h => by rw [hki] at h; cases h), (fun h => by rw [hki] at h; cases h), (fun h => by rw [hki] at h; cases h), (fun h => by rw [hki] at h; cases h)⟩, does_congr c2 (hj st), ⟨readJ, (fun h => by rw [hkj] at h; cases h), fun _ => hnone, (fun h => by rw [hkj] at h; cases h), (fun h => by rw [hkj] at h; cases h)⟩, hcomm⟩
      | read =>
        obtain ⟨rfl, hi⟩ := does_read hki h2'
        refine ⟨st, hi st fun hw o ho => ?_, ⟨readI, s2.apart, (fun h => by rw [hki] at h; cases h), (fun h => by rw [hki] at h; cases h), (fun h => by rw [hki] at h; cases h)⟩, does_congr c2 (hj st), ⟨readJ, (fun h => by rw [hkj] at h; cases h), fun _ => hnone, (fun h => by rw [hkj] at h; cases h), (fun h => by rw [hkj] at h; cases h)⟩, hcomm⟩
        have ho' : rds i = some o := by rw [← readI hki hw]; exact ho
        have := s2.apart hki j sj hsj hkj hu1
        exact put_objs_ne fun e => this (by rw [ho', e])
      | alloc =>
        have hnone2 := s2.alloc hki
        rw [put_objs_ne hne] at hnone2
        rcases does_alloc hki (hni hki) h2' with ⟨rfl, hi⟩ | ⟨y, rfl, hi⟩
        · exact ⟨st, hi st, ⟨readI, s2.apart, fun _ => hnone2, (fun h => by rw [hki] at h; cases h), (fun h => by rw [hki] at h; cases h)⟩, does_congr c2 (hj st), ⟨readJ, s1.apart, fun _ => hnone, (fun h => by rw [hkj] at h; cases h), (fun h => by rw [hkj] at h; cases h)⟩, hcomm⟩
        · refine ⟨st.put (r + i) y, hi st, ⟨readI, s2.apart, fun _ => hnone2, (fun h => by rw [hki] at h; cases h), (fun h => by rw [hki] at h; cases h)⟩, ?_, ⟨readJ, s1.apart, fun _ => by rw [put_objs_ne hne.symm]; exact hnone, (fun h => by rw [hkj] at h; cases h), (fun h => by rw [hkj] at h; cases h)⟩, hcomm⟩
          rw [put_put_comm hne.symm]
          exact does_congr c2 (hj _)
      | eff => rw [hki, hkj] at hmay; cases hmay
  | eff =>
    cases hki : si.op.kd with
    | other => rw [hki, hkj] at hmay; cases hmay
    | eff => rw [hki, hkj] at hmay; cases hmay
    | pure =>
      obtain ⟨rfl, hi⟩ := does_pure hki h2'
      exact ⟨st, hi st, ⟨readI, (fun h => by rw [hki] at h; cases h), (fun h => by rw [hki] at h; cases h), (fun h => by rw [hki] at h; cases h), (fun h => by rw [hki] at h; cases h)⟩, does_congr c2 h1, ⟨readJ, (fun h => by rw [hkj] at h; cases h), (fun h => by rw [hkj] at h; cases h), s1.effA, s1.effR⟩, hcomm⟩
    | read =>
      obtain ⟨rfl, hi⟩ := does_read hki h2'
      refine ⟨st, hi st fun hw o ho => ?_, ⟨readI, s2.apart, (fun h => by rw [hki] at h; cases h), (fun h => by rw [hki] at h; cases h), (fun h => by rw [hki] at h; cases h)⟩, does_congr c2 h1, ⟨readJ, (fun h => by rw [hkj] at h; cases h), (fun h => by rw [hkj] at h; cases h), s1.effA, s1.effR⟩, hcomm⟩
      have ho' : rds i = some o := by rw [← readI hki hw]; exact ho
      exact (s1.effR hkj i si hsi hki hu2 o ho').symm
    | alloc =>
      have hnone1 := s2.alloc hki
      have hnone : st.objs (r + i) = none := (s1.effA hkj i si hsi hki hu2).trans hnone1
      rcases does_alloc hki (hni hki) h2' with ⟨rfl, hi⟩ | ⟨y, rfl, hi⟩
      · exact ⟨st, hi st, ⟨readI, s2.apart, fun _ => hnone, (fun h => by rw [hki] at h; cases h), (fun h => by rw [hki] at h; cases h)⟩, does_congr c2 h1, ⟨readJ, (fun h => by rw [hkj] at h; cases h), (fun h => by rw [hkj] at h; cases h), s1.effA, s1.effR⟩, hcomm⟩
      · refine ⟨st.put (r + i) y, hi st, ⟨readI, s2.apart, fun _ => hnone, (fun h => by rw [hki] at h; cases h), (fun h => by rw [hki] at h; cases h)⟩, does_congr c2 (does_add h1 hnone hnone1), ⟨readJ, (fun h => by rw [hkj] at h; cases h), (fun h => by rw [hkj] at h; cases h), ?_, ?_⟩, hcomm⟩
        · intro hk q sq hsq hkq huq
          by_cases e : r + q = r + i
          · rw [e, put_objs_same, put_objs_same]
          · rw [put_objs_ne e, put_objs_ne e]; exact s1.effA hk q sq hsq hkq huq
        · intro hk q sq hsq hkq huq o ho
          by_cases e : o = r + i
          · rw [e, put_objs_same, put_objs_same]
          · rw [put_objs_ne e, put_objs_ne e]; exact s1.effR hk q sq hsq hkq huq o ho
end

end Go.Proofs.YthaekebedmoipaaGreatDoor.AM

/- The abstract logic, part 19: a region that draws its order, whole; a region in the order of the text. -/
set_option linter.unusedVariables false
set_option linter.unusedSimpArgs false
namespace Go.Proofs.YthaekebedmoipaaGreatDoor.AM
open Go Go.RowKit

inductive RunD (P : Program) (w0 : World) (base r : Nat) (ss : List SOper) (un : Nat → Nat → Bool) (rds : Nat → Option Nat) : List Nat → Env → St → Env → St → Prop
  | nil (env : Env) (st : St) : RunD P w0 base r ss un rds [] env st env st
  | cons (i : Nat) (l : List Nat) (s : SOper) (v : AV) (env env' : Env) (st st1 st' : St) (h1 : ss[i]? = some s) (h2 : Does P w0 base r s env st v st1) (h3 : Side r ss un rds i s env st st1)
      (h4 : RunD P w0 base r ss un rds l (env.put s.dst v) st1 env' st') : RunD P w0 base r ss un rds (i :: l) env st env' st'

def Direct (ops : Array Oper) (p i : Nat) : Prop := ∃ o e, ops[i]? = some o ∧ e ∈ o.after ∧ Region.binds .any e = true ∧ e.on = p
inductive TC (ops : Array Oper) : Nat → Nat → Prop
  | one {p i : Nat} (h : Direct ops p i) : TC ops p i
  | more {p q i : Nat} (h : TC ops p q) (h' : Direct ops q i) : TC ops p i

structure PairOK (ss : List SOper) (un : Nat → Nat → Bool) (j i : Nat) : Prop where
  ne : i ≠ j
  un1 : un i j = true
  un2 : un j i = true
  ex : ∃ si sj, ss[i]? = some si ∧ ss[j]? = some sj ∧ Apart sj si ∧ mayPass sj.op.kd si.op.kd = true

section
variable {P : Program} {w0 : World} {base r : Nat} {ss : List SOper} {un : Nat → Nat → Bool} {rds : Nat → Option Nat} {ops : Array Oper} {N : Nat} {Q : Exit → Act → World → Prop}

theorem bring_front (hn : ∀ (i : Nat) (s : SOper), ss[i]? = some s → s.op.kd = .alloc → s.op.new = some i) {i : Nat} {l2 : List Nat} {env' : Env} {st' : St} : ∀ (l1 : List Nat) (env : Env) (st : St), (∀ j ∈ l1, PairOK ss un j i) →
    RunD P w0 base r ss un rds (l1 ++ i :: l2) env st env' st' → RunD P w0 base r ss un rds (i :: (l1 ++ l2)) env st env' st'
  | [], env, st, _, h => h
  | j :: l1, env, st, hp, h => by
    cases h with
    | cons _ _ sj vj _ _ _ st1 _ a1 a2 a3 a4 =>
      have ih := bring_front hn l1 _ _ (fun j' hj' => hp j' (by simp [hj'])) a4
      cases ih with
      | cons _ _ si vi _ _ _ st2 _ b1 b2 b3 b4 =>
        obtain ⟨hne, hu1, hu2, si', sj', e1, e2, hap, hmay⟩ := hp j (by simp)
        rw [b1] at e1; cases e1
        rw [a1] at e2; cases e2
        obtain ⟨st1', c1, c2, c3, c4, c5⟩ := swap_does hne b1 a1 (hn i si b1) (hn j sj a1) hap hmay hu1 hu2 a2 a3 b2 b3
        rw [c5] at b4
        exact .cons i _ si vi env env' st st1' st' b1 c1 c2 (.cons j _ sj vj _ env' st1' st2 st' a1 c3 c4 b4)

theorem tc_listed {listed : Array Bool} (hdown : ∀ x p, listed.getD x false = true → Direct ops p x → listed.getD p false = true) {i : Nat} (hi : ∀ p, Direct ops p i → listed.getD p false = true) : ∀ {j}, TC ops j i → listed.getD j false = true := by
  have key : ∀ j x, TC ops j x → (∀ p, Direct ops p x → listed.getD p false = true) → listed.getD j false = true := by
    intro j x h
    induction h with
    | one h => exact fun hx => hx _ h
    | more h h' ih => exact fun hx => ih fun p hp => hdown _ p (hx _ h') hp
  exact fun {j} h => key j i h hi

theorem wpAny_run (hres : ∀ (i : Nat) (s : SOper), ss[i]? = some s → Resolves P N ops i i s) (hn : ∀ (i : Nat) (s : SOper), ss[i]? = some s → s.op.kd = .alloc → s.op.new = some i) (hlen : ss.length = ops.size) {env' : Env} {st' : St} {ds : List ADef} (X : Nat → Option AObj) :
    ∀ (n : Nat) (l : List Nat) (listed : Array Bool) (env : Env) (st : St) (a : Act) (w : World) (G : Gh), l.length = n → RunD P w0 base r ss un rds l env st env' st' → listed.size = ops.size → (∀ i, i ∈ l ↔ i < ops.size ∧ listed.getD i true = false) → l.Nodup →
      l.Pairwise (fun j i => TC ops j i ∨ PairOK ss un j i) → (∀ l1 i l2, l = l1 ++ i :: l2 → ∀ p, Direct ops p i → listed.getD p false = true ∨ p ∈ l1) → (∀ x p, listed.getD x false = true → Direct ops p x → listed.getD p false = true) →
      r + ss.length ≤ st.next → (∀ o, X o ≠ none → o < r ∧ st.objs o = none) → (∀ i ∈ l, ¬ G.used (r + i)) → Inv w0 base G (st.add X) w → RepFr G w N env ds a →
      (∀ a' w' G', Ext base G w G' w' → (∀ o, o < r → G'.used o → G.used o) → Inv w0 base G' (st'.add X) w' → RepFr G' w' N env' ds a' → Q .normal a' w') → wpAny P .any ops Q n listed a w := by
  intro n
  induction n with
  | zero =>
    intro l listed env st a w G hl hrun hsz hmem hnd hpair hval hdown hr hX hfr hI hF hQ
    have : l = [] := List.eq_nil_of_length_eq_zero hl
    subst this
    cases hrun
    refine ⟨?_, hQ a w G (Ext.refl _ _ _) (fun _ _ h => h) hI hF⟩
    rw [List.eq_nil_iff_forall_not_mem]
    intro x hx
    rw [mem_ready] at hx
    obtain ⟨h0, o, ho, _⟩ := hx
    exact absurd ((hmem x).2 ⟨(Array.getElem?_eq_some_iff.1 ho).1, h0⟩) (by simp)
  | succ n ih =>
    intro l listed env st a w G hl hrun hsz hmem hnd hpair hval hdown hr hX hfr hI hF hQ
    refine ⟨fun hnil => ?_, fun i hi => ?_⟩
    · cases l with
      | nil => cases hl
      | cons x l =>
        exfalso
        have hx := (hmem x).1 (by simp)
        have : x ∈ Region.ready .any ops listed := by
          rw [mem_ready]
          refine ⟨hx.2, ops[x], by simp [hx.1], fun e he hb => ?_⟩
          rcases hval [] x l rfl e.on ⟨ops[x], e, by simp [hx.1], he, hb, rfl⟩ with h | h
          · exact h
          · cases h
        rw [hnil] at this
        cases this
    · rw [mem_ready] at hi
      obtain ⟨h0, o, ho, hpre⟩ := hi
      have hlt : i < ops.size := (Array.getElem?_eq_some_iff.1 ho).1
      have hil : i ∈ l := (hmem i).2 ⟨hlt, h0⟩
      obtain ⟨l1, l2, rfl⟩ := List.append_of_mem hil
      have hdir : ∀ p, Direct ops p i → listed.getD p false = true := by
        rintro p ⟨o', e, ho', he, hb, rfl⟩
        rw [ho] at ho'; cases ho'
        exact hpre e he hb
      have hunl : ∀ j ∈ l1, listed.getD j true = false := fun j hj => ((hmem j).1 (by simp [hj])).2
      have hpl1 : ∀ j ∈ l1, PairOK ss un j i := by
        intro j hj
        have := (List.pairwise_append.1 hpair).2.2 j hj i (by simp)
        rcases this with h | h
        · have h1 := tc_listed hdown hdir h
          have h2 := hunl j hj
          rw [Array.getD_eq_getD_getElem?] at h1 h2
          cases hq : listed[j]? <;> simp [hq] at h1 h2
          rw [h1] at h2; cases h2
        · exact h
      have hrun' := bring_front hn l1 env st hpl1 hrun
      cases hrun' with
      | cons _ _ s v _ _ _ st1 _ b1 b2 b3 b4 =>
        have hsn : i < ss.length := by omega
        have hni : i ∉ l1 ++ l2 := by
          have := hnd
          rw [List.nodup_append] at this
          obtain ⟨_, h2, h3⟩ := this
          rw [List.nodup_cons] at h2
          intro hm
          rcases List.mem_append.1 hm with hm | hm
          · exact h3 i hm i (by simp) rfl
          · exact h2.1 hm
        refine wpOp_of_step (hres i s b1) (does_step (ds := ds) b2) X (fun o ho => (hX o ho).2) hI hF ⟨hfr i hil, by omega⟩ ?_
        intro a' w' G' he hu hI' hF'
        obtain ⟨hnx, hkeep⟩ := step_next (does_step (ds := ds) b2) (by omega)
        refine ih (l1 ++ l2) (listed.setIfInBounds i true) _ st1 a' w' G' (by simp at hl ⊢; omega) b4 (by simp [hsz]) (fun x => ?_) ?_ ?_ ?_ ?_ (by omega) (fun o ho => ⟨(hX o ho).1, hkeep o (hX o ho).1 (hX o ho).2⟩) ?_ hI' hF' ?_
        · constructor
          · intro hx
            have hxi : i ≠ x := fun e => hni (e ▸ hx)
            have := (hmem x).1 (by rcases List.mem_append.1 hx with h | h <;> simp [h])
            exact ⟨this.1, by rw [getD_set_ne true hxi]; exact this.2⟩
          · rintro ⟨hx1, hx2⟩
            have hxi : i ≠ x := by
              rintro rfl
              simp [hsz, hlt] at hx2
            rw [getD_set_ne true hxi] at hx2
            have := (hmem x).2 ⟨hx1, hx2⟩
            rcases List.mem_append.1 this with h | h
            · simp [h]
            · rcases List.mem_cons.1 h with rfl | h
              · exact absurd rfl hxi
              · simp [h]
        · exact hnd.sublist (List.Sublist.append (List.Sublist.refl _) (List.sublist_cons_self _ _))
        · exact hpair.sublist (List.Sublist.append (List.Sublist.refl _) (List.sublist_cons_self _ _))
        · intro m1 x m2 hm p hp
          rcases List.append_eq_append_iff.1 hm with ⟨c, hc1, hc2⟩ | ⟨c, hc1, hc2⟩
          · -- x lies in l2 (or begins there)
            subst hc1
            rcases hval (l1 ++ i :: c) x m2 (by rw [hc2]; simp) p hp with h | h
            · exact .inl (getD_set_true h)
            · rcases List.mem_append.1 h with h | h
              · right; simp [h]
              · rcases List.mem_cons.1 h with rfl | h
                · left; simp [hsz, hlt]
                · right; simp [h]
          · cases c with
            | nil =>
              simp only [List.nil_append] at hc2
              simp only [List.append_nil] at hc1
              subst hc1
              rcases hval (l1 ++ [i]) x m2 (by rw [← hc2]; simp) p hp with h | h
              · exact .inl (getD_set_true h)
              · rcases List.mem_append.1 h with h | h
                · exact .inr h
                · simp at h; subst h; left; simp [hsz, hlt]
            | cons y c =>
              simp only [List.cons_append, List.cons.injEq] at hc2
              obtain ⟨rfl, rfl⟩ := hc2
              subst hc1
              rcases hval m1 x (c ++ i :: l2) (by simp) p hp with h | h
              · exact .inl (getD_set_true h)
              · exact .inr h
        · intro x p hx hp
          by_cases e : i = x
          · subst e; exact getD_set_true (hdir p hp)
          · rw [getD_set_ne false e] at hx
            exact getD_set_true (hdown x p hx hp)
        · intro j hj hu'
          have hji : i ≠ j := fun e => hni (e ▸ hj)
          have hjl : j ∈ l1 ++ i :: l2 := by rcases List.mem_append.1 hj with h | h <;> simp [h]
          have hjs : j < ops.size := ((hmem j).1 hjl).1
          rcases hu (r + j) (by omega) hu' with h | h
          · exact hfr j hjl h
          · omega
        · intro a2 w2 G2 he2 hu2 hI2 hF2
          refine hQ a2 w2 G2 (he.trans he2) (fun o ho hq => ?_) hI2 hF2
          rcases hu o (by omega) (hu2 o ho hq) with h | h
          · exact h
          · omega
end

end Go.Proofs.YthaekebedmoipaaGreatDoor.AM

/- The abstract logic, part 20: regions are resolved; a region in the order of the text; the looks at a region that draws its order. -/
set_option linter.unusedVariables false
set_option linter.unusedSimpArgs false
namespace Go.Proofs.YthaekebedmoipaaGreatDoor.AM
open Go Go.RowKit

def resGuard (N : Nat) (ops : Array Oper) (o : Oper) : Option (Option (Nat × Bool)) := match o.guard with
  | none => some none
  | some (j, b) => match ops[j]? with
    | some oj => match oj.dst with
      | some d => some (some (d, b))
      | none => none
    | none => none

def dstOk (N : Nat) : Option Nat → Bool
  | none => true
  | some d => decide (d < N)

def resList (P : Program) (N : Nat) (ops : Array Oper) : Nat → List Oper → Option (List SOper)
  | _, [] => some []
  | i, o :: rest => match resOp P i o.op, resGuard N ops o, dstOk N o.dst, resList P N ops (i + 1) rest with
    | some op, some g, true, some r => some (⟨o.dst, g, op⟩ :: r)
    | _, _, _, _ => none

/-- The order in which a region is stepped through, and what each step waits for. -/
def maskOf (ms : List Nat) (o : Oper) : Nat := o.after.toList.foldl (fun s e => if Region.binds .any e then s ||| 2 ^ e.on ||| ms.getD e.on 0 else s) 0
def masks : List Oper → List Nat → List Nat
  | [], acc => acc
  | o :: os, acc => masks os (acc ++ [maskOf acc o])
def depB (ms : List Nat) (j i : Nat) : Bool := (ms.getD i 0).testBit j
def unB (ms : List Nat) (i j : Nat) : Bool := !depB ms j i && !depB ms i j && i != j

def apartB (s t : SOper) : Bool :=
  (match s.dst with | some d => !t.reads.contains d && t.dst != some d | none => true) && (match t.dst with | some d => !s.reads.contains d | none => true)
def pairB (ms : List Nat) (ss : List SOper) (j i : Nat) : Bool :=
  depB ms j i || (unB ms i j && unB ms j i && i != j && (match ss[i]?, ss[j]? with | some si, some sj => apartB sj si && mayPass sj.op.kd si.op.kd | _, _ => false))
def pairsB (ms : List Nat) (ss : List SOper) : List Nat → Bool
  | [] => true
  | j :: l => l.all (pairB ms ss j) && pairsB ms ss l
def directB (ops : Array Oper) (i : Nat) : List Nat := match ops[i]? with
  | some o => (o.after.toList.filter (Region.binds .any)).map (·.on)
  | none => []
def validB (ops : Array Oper) : List Nat → List Nat → Bool
  | _, [] => true
  | seen, i :: l => (directB ops i).all (fun p => seen.contains p) && validB ops (i :: seen) l
def drawB (ops : Array Oper) (ss : List SOper) (ms ord : List Nat) : Bool :=
  ms == masks ops.toList [] && ord.all (fun i => decide (i < ops.size)) && (List.range ops.size).all (fun i => ord.contains i) && decide ord.Nodup && pairsB ms ss ord && validB ops [] ord &&
  decide (ss.length = ops.size)

def isAlloc (s : SOper) : Bool := match s.op.kd with | .alloc => true | _ => false
/-- What is ready, what makes new ids last. -/
def canon (ops : Array Oper) (ss : List SOper) : Nat → List Nat → List Nat → List Nat
  | 0, _, acc => acc.reverse
  | n + 1, left, acc =>
    let ready := left.filter fun i => (directB ops i).all fun p => acc.contains p
    match ready.find? (fun i => !((ss[i]?).any isAlloc)) with
    | some i => canon ops ss n (left.filter (· != i)) (i :: acc)
    | none => match ready with
      | i :: _ => canon ops ss n (left.filter (· != i)) (i :: acc)
      | [] => acc.reverse

section
variable {P : Program} {w0 : World} {base r : Nat} {ss : List SOper} {ops : Array Oper} {N : Nat} {Q : Exit → Act → World → Prop}

theorem resList_spec : ∀ (os : List Oper) (i : Nat) (ss : List SOper), resList P N ops i os = some ss → (∀ j, os[j]? = ops[i + j]?) →
    ss.length = os.length ∧ ∀ (j : Nat) (s : SOper), ss[j]? = some s → Resolves P N ops (i + j) (i + j) s
  | [], i, ss, h, _ => by simp [resList] at h; subst h; exact ⟨rfl, fun j s hj => by simp at hj⟩
  | o :: os, i, ss, h, hop => by
    simp only [resList] at h
    split at h
    · rename_i op g r h1 h2 h3 h4
      cases h
      obtain ⟨hl, hr⟩ := resList_spec os (i + 1) r h4 (fun j => by have := hop (j + 1); rw [show i + 1 + j = i + (j + 1) from by omega]; simpa using this)
      refine ⟨by simp [hl], fun j s hj => ?_⟩
      cases j with
      | succ j =>
        simp at hj
        have := hr j s hj
        rwa [show i + 1 + j = i + (j + 1) from by omega] at this
      | zero =>
        simp at hj
        subst hj
        have ho : ops[i]? = some o := by have := hop 0; simpa using this.symm
        refine ⟨o, by simpa using ho, by simpa using h1, rfl, fun d hd => ?_, ?_⟩
        · rw [hd] at h3; simpa [dstOk] using h3
        · unfold resGuard at h2
          split at h2
          · rename_i hg; cases h2; exact .inl ⟨hg, rfl⟩
          · rename_i k b hg
            split at h2
            · rename_i oj hoj
              split at h2
              · rename_i d hd; cases h2; exact .inr ⟨k, b, oj, d, hg, hoj, hd, rfl⟩
              · cases h2
            · cases h2
    · cases h

theorem resolves_kd {i k : Nat} {s : SOper} (h : Resolves P N ops i k s) (hk : s.op.kd = .alloc) : s.op.new = some k := by
  obtain ⟨o, ho, hop, _⟩ := h.ex
  have : ∃ k', s.op.new = some k' := by
    cases hs : s.op <;> rw [hs] at hk <;> simp [SOp.kd] at hk <;> exact ⟨_, rfl⟩
  obtain ⟨k', hk'⟩ := this
  rw [hk', resolves_new hop hk']

/-! ### what the masks say -/
theorem maskOf_tc {done : List Oper} {ms : List Nat} (hms : ∀ i j, (ms.getD i 0).testBit j = true → TC ops j i) {o : Oper} {i : Nat} (ho : ops[i]? = some o) {j : Nat} (h : (maskOf ms o).testBit j = true) : TC ops j i := by
  unfold maskOf at h
  have key : ∀ (es : List Edge) (s : Nat), (∀ e ∈ es, e ∈ o.after) → (s.testBit j = true → TC ops j i) → (es.foldl (fun s e => if Region.binds .any e then s ||| 2 ^ e.on ||| ms.getD e.on 0 else s) s).testBit j = true → TC ops j i := by
    intro es
    induction es with
    | nil => intro s _ hs h; exact hs h
    | cons e es ih =>
      intro s he hs h
      rw [List.foldl_cons] at h
      refine ih _ (fun e' he' => he e' (by simp [he'])) (fun h1 => ?_) h
      split at h1
      · rename_i hb
        have hd : Direct ops e.on i := ⟨o, e, ho, he e (by simp), hb, rfl⟩
        rw [Nat.testBit_or, Nat.testBit_or, Bool.or_eq_true, Bool.or_eq_true] at h1
        rcases h1 with (h1 | h1) | h1
        · exact hs h1
        · rw [Nat.testBit_two_pow] at h1
          have : e.on = j := by simpa using h1
          subst this
          exact .one hd
        · exact .more (hms _ _ h1) hd
      · exact hs h1
  refine key o.after.toList 0 (fun e he => by simpa using he) (fun h0 => ?_) h
  rw [Nat.zero_testBit] at h0; cases h0

theorem masks_tc : ∀ (os : List Oper) (acc : List Nat), (∀ j, os[j]? = ops[acc.length + j]?) → (∀ i j, (acc.getD i 0).testBit j = true → TC ops j i) → ∀ i j, ((masks os acc).getD i 0).testBit j = true → TC ops j i
  | [], acc, _, h => h
  | o :: os, acc, ho, h => by
    simp only [masks]
    refine masks_tc os _ (fun j => ?_) (fun i j hj => ?_)
    · have := ho (j + 1)
      rw [List.length_append, List.length_singleton, show acc.length + 1 + j = acc.length + (j + 1) from by omega]
      simpa using this
    · rcases Nat.lt_trichotomy i acc.length with hlt | rfl | hlt
      · rw [List.getD_eq_getElem?_getD, List.getElem?_append_left hlt, ← List.getD_eq_getElem?_getD] at hj
        exact h i j hj
      · simp only [List.getD_eq_getElem?_getD, List.getElem?_concat_length, Option.getD_some] at hj
        exact maskOf_tc (done := os) h (by have := ho 0; simpa using this.symm) hj
      · rw [List.getD_eq_getElem?_getD, List.getElem?_eq_none (by simp; omega), Option.getD_none, Nat.zero_testBit] at hj
        cases hj

theorem apartB_spec {s t : SOper} (h : apartB s t = true) : Apart s t := by
  unfold apartB at h
  rw [Bool.and_eq_true] at h
  obtain ⟨h1, h2⟩ := h
  refine ⟨fun d hd => ?_, fun d hd => ?_⟩
  · rw [hd] at h1
    simp only [Bool.and_eq_true, Bool.not_eq_true', bne_iff_ne, ne_eq] at h1
    refine ⟨fun hm => ?_, h1.2⟩
    have := h1.1
    rw [List.contains_iff_mem.2 hm] at this
    cases this
  · rw [hd] at h2
    simp only [Bool.not_eq_true'] at h2
    intro hm
    rw [List.contains_iff_mem.2 hm] at h2
    cases h2

theorem pairB_spec {ms : List Nat} (hms : ∀ i j, (ms.getD i 0).testBit j = true → TC ops j i) {j i : Nat} (h : pairB ms ss j i = true) : TC ops j i ∨ PairOK ss (unB ms) j i := by
  unfold pairB at h
  rw [Bool.or_eq_true] at h
  rcases h with h | h
  · exact .inl (hms i j h)
  · right
    simp only [Bool.and_eq_true, bne_iff_ne, ne_eq] at h
    obtain ⟨⟨⟨h1, h2⟩, h3⟩, h4⟩ := h
    refine ⟨h3, h1, h2, ?_⟩
    split at h4
    · rename_i si sj e1 e2
      rw [Bool.and_eq_true] at h4
      exact ⟨si, sj, e1, e2, apartB_spec h4.1, h4.2⟩
    · cases h4

theorem pairsB_spec {ms : List Nat} (hms : ∀ i j, (ms.getD i 0).testBit j = true → TC ops j i) : ∀ {l : List Nat}, pairsB ms ss l = true → l.Pairwise (fun j i => TC ops j i ∨ PairOK ss (unB ms) j i)
  | [], _ => List.Pairwise.nil
  | j :: l, h => by
    simp only [pairsB, Bool.and_eq_true, List.all_eq_true] at h
    exact List.Pairwise.cons (fun i hi => pairB_spec hms (h.1 i hi)) (pairsB_spec hms h.2)

theorem directB_spec {p i : Nat} (h : Direct ops p i) : p ∈ directB ops i := by
  obtain ⟨o, e, ho, he, hb, rfl⟩ := h
  unfold directB
  rw [ho]
  exact List.mem_map.2 ⟨e, List.mem_filter.2 ⟨by simpa using he, hb⟩, rfl⟩

theorem validB_spec : ∀ {l seen : List Nat}, validB ops seen l = true → ∀ l1 i l2, l = l1 ++ i :: l2 → ∀ p, Direct ops p i → p ∈ seen ∨ p ∈ l1
  | [], seen, _, l1, i, l2, e => by simp at e
  | x :: l, seen, h, l1, i, l2, e => by
    simp only [validB, Bool.and_eq_true, List.all_eq_true] at h
    cases l1 with
    | nil =>
      simp only [List.nil_append, List.cons.injEq] at e
      obtain ⟨rfl, rfl⟩ := e
      exact fun p hp => .inl (List.contains_iff_mem.1 (h.1 p (directB_spec hp)))
    | cons y l1 =>
      simp only [List.cons_append, List.cons.injEq] at e
      obtain ⟨rfl, e⟩ := e
      intro p hp
      rcases validB_spec h.2 l1 i l2 e p hp with h1 | h1
      · rcases List.mem_cons.1 h1 with rfl | h1
        · right; simp
        · exact .inl h1
      · right; simp [h1]

/-- A region that draws its order. -/
theorem wp_draw {id : Nat} {ms ord : List Nat} (hm : P.follows .mixedOrders = true) (hss : resList P N ops 0 ops.toList = some ss) (hd : drawB ops ss ms ord = true) {rds : Nat → Option Nat} {env env' : Env} {st st' : St} {ds : List ADef} {X : Nat → Option AObj} {a : Act} {w : World} {G : Gh}
    (hrun : RunD P w0 base st.next ss (unB ms) rds ord env { st with next := st.next + ss.length } env' st') (hX : ∀ o, X o ≠ none → st.objs o = none) (hI : Inv w0 base G (st.add X) w) (hF : RepFr G w N env ds a)
    (hQ : ∀ a' w' G', Ext base G w G' w' → (∀ o, o < st.next → G'.used o → G.used o) → Inv w0 base G' (st'.add X) w' → RepFr G' w' N env' ds a' → Q .normal a' w') :
    (Code.region id ops true).wp P Q a w := by
  obtain ⟨hlen, hres⟩ := resList_spec ops.toList 0 ss hss (fun j => by simp)
  simp only [drawB, Bool.and_eq_true, beq_iff_eq, List.all_eq_true, decide_eq_true_eq] at hd
  obtain ⟨⟨⟨⟨⟨⟨d1, d2⟩, d3⟩, d4⟩, d5⟩, d6⟩, d7⟩ := hd
  have hms : ∀ i j, (ms.getD i 0).testBit j = true → TC ops j i := by
    rw [d1]
    refine masks_tc ops.toList [] (fun j => by simp) (fun i j h => ?_)
    simp at h
  have hres' : ∀ (i : Nat) (s : SOper), ss[i]? = some s → Resolves P N ops i i s := fun i s h => by have := hres i s h; rwa [Nat.zero_add] at this
  have hmem : ∀ i, i ∈ ord ↔ i < ops.size := fun i => ⟨d2 i, fun h => List.contains_iff_mem.1 (d3 i (List.mem_range.2 h))⟩
  have hcount : ord.length = ops.size := by
    have h1 : ord.Perm (List.range ops.size) := (List.perm_ext_iff_of_nodup d4 List.nodup_range).2 fun i => by rw [hmem, List.mem_range]
    rw [h1.length_eq, List.length_range]
  refine wp_region_any hm ?_
  have hI' := inv_drew hI
  have he := ext_drew base G w
  have hXr : ∀ o, X o ≠ none → o < st.next ∧ st.objs o = none := fun o ho => by
    have hn := hX o ho
    refine ⟨?_, hn⟩
    cases hx : X o with
    | none => exact absurd hx ho
    | some x =>
      have := (hI.objs o x (by simp [St.add, hn, hx])).1
      exact hI.scope o this
  rw [← hcount]
  refine wpAny_run hres' (fun i s h hk => resolves_kd (hres' i s h) hk) d7 X ord.length ord _ env _ a _ G rfl hrun (by simp [hcount]) (fun i => ?_) d4 (pairsB_spec hms d5) ?_ ?_ ?_ ?_ ?_ (inv_forget hI' (fun o x h => h) (by simp [St.add])) (repFr_mono he hF) ?_
  · rw [hmem]
    constructor
    · intro h; refine ⟨h, ?_⟩; simp [hcount, h]
    · exact fun h => h.1
  · intro l1 i l2 e p hp
    rcases validB_spec d6 l1 i l2 e p hp with h | h
    · cases h
    · exact .inr h
  · intro x p hx
    exfalso
    rw [Array.getD_eq_getD_getElem?] at hx
    cases hq : (Array.replicate ord.length false)[x]? with
    | none => rw [hq] at hx; cases hx
    | some b =>
      rw [hq] at hx
      have := Array.getElem?_eq_some_iff.1 hq
      obtain ⟨_, h2⟩ := this
      simp at h2
      subst h2
      simp at hx
  · exact Nat.le_refl _
  · exact hXr
  · intro i _ hu
    have := hI.scope _ hu
    simp only [St.add] at this
    omega
  · intro a' w' G' q1 q2 q3 q4
    exact hQ a' w' G' (he.trans q1) q2 q3 q4

/-! ### a region in the order of the text -/
inductive RunS (P : Program) (w0 : World) (base r : Nat) : List SOper → Env → List ADef → St → Env → List ADef → St → Prop
  | nil (env : Env) (ds : List ADef) (st : St) : RunS P w0 base r [] env ds st env ds st
  | cons (s : SOper) (l : List SOper) (env env1 env' : Env) (ds ds1 ds' : List ADef) (st st1 st' : St) (h1 : Step P w0 base r s env ds st env1 ds1 st1) (h2 : RunS P w0 base r l env1 ds1 st1 env' ds' st') :
      RunS P w0 base r (s :: l) env ds st env' ds' st'

theorem wpOps_runS {env' : Env} {ds' : List ADef} {st' : St} (X : Nat → Option AObj) : ∀ (l : List SOper) (k : Nat) (env : Env) (ds : List ADef) (st : St) (a : Act) (w : World) (G : Gh), (∀ (j : Nat) (s : SOper), l[j]? = some s → Resolves P N ops (k + j) (k + j) s) →
    RunS P w0 base r l env ds st env' ds' st' → r + k + l.length ≤ st.next → (∀ o, X o ≠ none → o < r ∧ st.objs o = none) → (∀ i, k ≤ i → i < k + l.length → ¬ G.used (r + i)) → Inv w0 base G (st.add X) w → RepFr G w N env ds a →
    (∀ a' w' G', Ext base G w G' w' → (∀ o, o < r → G'.used o → G.used o) → Inv w0 base G' (st'.add X) w' → RepFr G' w' N env' ds' a' → Q .normal a' w') → wpOps P ops Q (List.range' k l.length) a w
  | [], k, env, ds, st, a, w, G, hres, hrun, hr, hX, hfr, hI, hF, hQ => by
    cases hrun
    exact hQ a w G (Ext.refl _ _ _) (fun _ _ h => h) hI hF
  | s :: l, k, env, ds, st, a, w, G, hres, hrun, hr, hX, hfr, hI, hF, hQ => by
    cases hrun with
    | cons _ _ _ env1 _ _ ds1 _ _ st1 _ h1 h2 =>
      rw [List.length_cons, List.range'_succ, wpOps_cons]
      simp only [List.length_cons] at hr hfr
      have hk := hres 0 s rfl
      rw [Nat.add_zero] at hk
      refine wpOp_of_step hk h1 X (fun o ho => (hX o ho).2) hI hF ⟨hfr k (Nat.le_refl _) (by omega), by omega⟩ ?_
      intro a' w' G' he hu hI' hF'
      obtain ⟨hnx, hkeep⟩ := step_next h1 (by omega)
      refine wpOps_runS X l (k + 1) env1 ds1 st1 a' w' G' (fun j s' hj => by have := hres (j + 1) s' (by simpa using hj); rwa [show k + (j + 1) = k + 1 + j from by omega] at this) h2 (by omega)
        (fun o ho => ⟨(hX o ho).1, hkeep o (hX o ho).1 (hX o ho).2⟩) (fun i h3 h4 hu' => ?_) hI' hF' (fun a2 w2 G2 he2 hu2 hI2 hF2 => ?_)
      · rcases hu (r + i) (by omega) hu' with h | h
        · exact hfr i (by omega) (by omega) h
        · omega
      · refine hQ a2 w2 G2 (he.trans he2) (fun o ho hq => ?_) hI2 hF2
        rcases hu o (by omega) (hu2 o ho hq) with h | h
        · exact h
        · omega

theorem wp_seqRegion {id : Nat} (hss : resList P N ops 0 ops.toList = some ss) {env env' : Env} {st st' : St} {ds ds' : List ADef} {X : Nat → Option AObj} {a : Act} {w : World} {G : Gh}
    (hrun : RunS P w0 base st.next ss env ds { st with next := st.next + ss.length } env' ds' st') (hX : ∀ o, X o ≠ none → st.objs o = none) (hI : Inv w0 base G (st.add X) w) (hF : RepFr G w N env ds a)
    (hQ : ∀ a' w' G', Ext base G w G' w' → (∀ o, o < st.next → G'.used o → G.used o) → Inv w0 base G' (st'.add X) w' → RepFr G' w' N env' ds' a' → Q .normal a' w') :
    (Code.region id ops false).wp P Q a w := by
  obtain ⟨hlen, hres⟩ := resList_spec ops.toList 0 ss hss (fun j => by simp)
  refine wp_region ?_
  have e : List.range ops.size = List.range' 0 ss.length := by rw [hlen, Array.length_toList, List.range_eq_range']
  rw [e]
  refine wpOps_runS X ss 0 env ds _ a w G (fun j s h => hres j s h) hrun (by simp) (fun o ho => ?_) (fun i _ _ hu => ?_) (inv_forget hI (fun o x h => h) (by simp [St.add])) hF hQ
  · have hn := hX o ho
    refine ⟨?_, hn⟩
    cases hx : X o with
    | none => exact absurd hx ho
    | some x => exact hI.scope o (hI.objs o x (by simp [St.add, hn, hx])).1
  · have := hI.scope _ hu
    simp only [St.add] at this
    omega
end

end Go.Proofs.YthaekebedmoipaaGreatDoor.AM

/- The abstract logic, part 21: stepping through a region. -/
set_option linter.unusedVariables false
set_option linter.unusedSimpArgs false
namespace Go.Proofs.YthaekebedmoipaaGreatDoor.AM
open Go Go.RowKit

def CallW (P : Program) (w0 : World) (base : Nat) (f : FuncId) (args : List AV) (st : St) (K : AV → St → Prop) : Prop := ∃ v st', Det P w0 base f args st v st' ∧ K v st'

/-- What an operation that is not skipped comes to. -/
def goOp (P : Program) (w0 : World) (base r : Nat) (env : Env) (st : St) (K : AV → St → Prop) : SOp → Prop
  | .call f args => CallW P w0 base f (args.map (·.ev env)) st K
  | .callV x args => match x.ev env with
    | .func (.func f) first cap => CallW P w0 base f (first ++ args.map (·.ev env) ++ cap) st K
    | _ => False
  | .defer _ _ => False
  | op => match op.step r env st with
    | some (v, st') => K v st'
    | none => False

def onGuard (s : SOper) (env : Env) (go skip : Prop) : Prop := match s.guard with
  | none => go
  | some (d, b) => match env d with
    | .bool b' => if b' = b then go else skip
    | .tuple [] => skip
    | _ => False

def awpOps (P : Program) (w0 : World) (base r : Nat) : List SOper → Env → List ADef → St → (Env → List ADef → St → Prop) → Prop
  | [], env, ds, st, K => K env ds st
  | s :: l, env, ds, st, K => onGuard s env
      (match s.op with
        | .defer x args => match x.ev env with
          | .func fn first cap => awpOps P w0 base r l (env.put s.dst .undef) ((fn, cap, first ++ args.map (·.ev env)) :: ds) st K
          | _ => False
        | op => goOp P w0 base r env st (fun v st' => awpOps P w0 base r l (env.put s.dst v) ds st' K) op)
      (awpOps P w0 base r l (env.put s.dst (.tuple [])) ds st K)

/-- The objects that were read, and what effects have done. -/
structure Log where
  rd : List (Nat × Option Nat)
  ef : List (Nat × St × St)

def oblR (un : Nat → Nat → Bool) (i : Nat) (s0 s1 : St) : List (Nat × Option Nat) → Prop
  | [] => True
  | (q, some o) :: l => (if un i q then s0.objs o = s1.objs o else True) ∧ oblR un i s0 s1 l
  | (_, none) :: l => oblR un i s0 s1 l
def oblE (un : Nat → Nat → Bool) (q : Nat) (o : Nat) : List (Nat × St × St) → Prop
  | [] => True
  | (i, s0, s1) :: l => (if un i q then s0.objs o = s1.objs o else True) ∧ oblE un q o l
def oblQ (un : Nat → Nat → Bool) (q : Nat) (r : Option Nat) (l : List (Nat × St × St)) : Prop := match r with
  | some o => oblE un q o l
  | none => True

def awpD (P : Program) (w0 : World) (base r : Nat) (ss : List SOper) (un : Nat → Nat → Bool) : List Nat → Env → St → Log → (Env → St → Prop) → Prop
  | [], env, st, _, K => K env st
  | i :: l, env, st, L, K => match ss[i]? with
    | none => False
    | some s => onGuard s env
        (match s.op.kd with
          | .read => oblQ un i (s.op.rd env) L.ef ∧ goOp P w0 base r env st (fun v st' => awpD P w0 base r ss un l (env.put s.dst v) st' { L with rd := (i, s.op.rd env) :: L.rd } K) s.op
          | .eff => goOp P w0 base r env st (fun v st' => oblR un i st st' L.rd ∧ awpD P w0 base r ss un l (env.put s.dst v) st' { L with ef := (i, st, st') :: L.ef } K) s.op
          | _ => goOp P w0 base r env st (fun v st' => awpD P w0 base r ss un l (env.put s.dst v) st' L K) s.op)
        (awpD P w0 base r ss un l (env.put s.dst (.tuple [])) st { L with rd := (i, none) :: L.rd } K)

section
variable {P : Program} {w0 : World} {base r : Nat} {ss : List SOper} {un : Nat → Nat → Bool} {env : Env} {st : St} {ds : List ADef}

theorem onGuard_spec {s : SOper} {go skip : Prop} (h : onGuard s env go skip) : (Wanted s env ∧ go) ∨ (∃ d b, s.guard = some (d, b) ∧ noB (env d) b = true ∧ skip) := by
  unfold onGuard at h
  split at h
  · exact .inl ⟨.inl ‹_›, h⟩
  · rename_i d b hg
    split at h
    · rename_i b' hb
      split at h
      · rename_i e; subst e; exact .inl ⟨.inr ⟨d, b', hg, hb⟩, h⟩
      · rename_i e; exact .inr ⟨d, b, hg, by rw [hb]; simp [noB, e], h⟩
    · rename_i hb; exact .inr ⟨d, b, hg, by rw [hb]; rfl, h⟩
    · exact h.elim

theorem goOp_spec {s : SOper} {K : AV → St → Prop} (hw : Wanted s env) (h : goOp P w0 base r env st K s.op) : ∃ v st', Does P w0 base r s env st v st' ∧ K v st' := by
  have hstep : ∀ op, s.op = op → (∀ f a, op ≠ .call f a) → (∀ x a, op ≠ .callV x a) → (∀ x a, op ≠ .defer x a) → (match op.step r env st with | some (v, st') => K v st' | none => False) → ∃ v st', Does P w0 base r s env st v st' ∧ K v st' := by
    intro op e _ _ _ h
    split at h
    · rename_i v st' hs; subst e; exact ⟨v, st', .run v st' hw hs, h⟩
    · exact h.elim
  cases hop : s.op with
  | call f args =>
    rw [hop] at h
    obtain ⟨v, st', h1, h2⟩ := h
    exact ⟨v, st', .call f args v st' hw hop h1, h2⟩
  | callV x args =>
    rw [hop] at h
    simp only [goOp] at h
    split at h
    · rename_i f first cap hx
      obtain ⟨v, st', h1, h2⟩ := h
      exact ⟨v, st', .callV x args f first cap v st' hw hop hx h1, h2⟩
    · exact h.elim
  | defer x args => rw [hop] at h; exact h.elim
  | _ => rw [hop] at h; exact hstep _ hop (by simp) (by simp) (by simp) h

theorem awpOps_run : ∀ (l : List SOper) (env : Env) (ds : List ADef) (st : St) (K : Env → List ADef → St → Prop), awpOps P w0 base r l env ds st K → ∃ env' ds' st', RunS P w0 base r l env ds st env' ds' st' ∧ K env' ds' st'
  | [], env, ds, st, K, h => ⟨env, ds, st, .nil _ _ _, h⟩
  | s :: l, env, ds, st, K, h => by
    simp only [awpOps] at h
    rcases onGuard_spec h with ⟨hw, h⟩ | ⟨d, b, h1, h2, h⟩
    · by_cases hdef : ∃ x args, s.op = .defer x args
      · obtain ⟨x, args, hop⟩ := hdef
        rw [hop] at h
        simp only at h
        split at h
        · rename_i fn first cap hx
          obtain ⟨env', ds', st', q1, q2⟩ := awpOps_run l _ _ _ K h
          exact ⟨env', ds', st', .cons s l _ _ _ _ _ _ _ _ _ (.defer x args fn first cap hw hop hx) q1, q2⟩
        · exact h.elim
      · have h' : goOp P w0 base r env st (fun v st' => awpOps P w0 base r l (env.put s.dst v) ds st' K) s.op := by
          cases hop : s.op <;> rw [hop] at h <;> first | exact h | exact absurd ⟨_, _, hop⟩ hdef
        obtain ⟨v, st1, q1, q2⟩ := goOp_spec hw h'
        obtain ⟨env', ds', st', q3, q4⟩ := awpOps_run l _ _ _ K q2
        exact ⟨env', ds', st', .cons s l _ _ _ _ _ _ _ _ _ (does_step q1) q3, q4⟩
    · obtain ⟨env', ds', st', q1, q2⟩ := awpOps_run l _ _ _ K h
      exact ⟨env', ds', st', .cons s l _ _ _ _ _ _ _ _ _ (.skip d b h1 h2) q1, q2⟩

theorem oblR_spec {i : Nat} {s0 s1 : St} : ∀ {l : List (Nat × Option Nat)}, oblR un i s0 s1 l → ∀ q o, (q, some o) ∈ l → un i q = true → s0.objs o = s1.objs o
  | [], _, q, o, hm, _ => by cases hm
  | (q', some o') :: l, h, q, o, hm, hu => by
    obtain ⟨h1, h2⟩ := h
    rcases List.mem_cons.1 hm with e | hm
    · cases e; rwa [if_pos hu] at h1
    · exact oblR_spec h2 q o hm hu
  | (q', none) :: l, h, q, o, hm, hu => by
    rcases List.mem_cons.1 hm with e | hm'
    · cases e
    · exact oblR_spec (l := l) h q o hm' hu
theorem oblE_spec {q o : Nat} : ∀ {l : List (Nat × St × St)}, oblE un q o l → ∀ i s0 s1, (i, s0, s1) ∈ l → un i q = true → s0.objs o = s1.objs o
  | [], _, i, s0, s1, hm, _ => by cases hm
  | (i', s0', s1') :: l, h, i, s0, s1, hm, hu => by
    obtain ⟨h1, h2⟩ := h
    rcases List.mem_cons.1 hm with e | hm
    · cases e; rwa [if_pos hu] at h1
    · exact oblE_spec h2 i s0 s1 hm hu

theorem pairs_cons {ms : List Nat} {x i : Nat} {l : List Nat} (h : pairsB ms ss (i :: l) = true) (hx : x ∈ l) : pairB ms ss i x = true := by
  simp only [pairsB, Bool.and_eq_true, List.all_eq_true] at h
  exact h.1 x hx

theorem pair_kinds {ms : List Nat} {q i : Nat} {sq si : SOper} (h : pairB ms ss q i = true) (hu : unB ms i q = true) (h1 : ss[q]? = some sq) (h2 : ss[i]? = some si) : mayPass sq.op.kd si.op.kd = true := by
  unfold pairB at h
  rw [Bool.or_eq_true] at h
  rcases h with h | h
  · simp only [unB, Bool.and_eq_true, Bool.not_eq_true'] at hu
    rw [h] at hu
    simp at hu
  · simp only [Bool.and_eq_true, h1, h2] at h
    exact h.2.2

/-- Where the store is when an effect, a reader, a maker of ids comes. -/
theorem does_keeps {s : SOper} {i : Nat} {v : AV} {st' : St} (hi : s.op.kd = .alloc → s.op.new = some i) (hnew : ∀ k, s.op.new = some k → k = i) (h : Does P w0 base r s env st v st') : st.next ≤ st'.next ∧ ∀ o, o < st.next → o ≠ r + i → st.objs o = none → st'.objs o = none := by
  cases h with
  | skip => exact ⟨Nat.le_refl _, fun _ _ _ h => h⟩
  | call f args _ _ h1 h2 h3 => exact ⟨h3.next, fun o h4 _ h5 => h3.keep o h4 h5⟩
  | callV x args f first cap _ _ h1 h2 h3 h4 => exact ⟨h4.next, fun o h5 _ h6 => h4.keep o h5 h6⟩
  | run _ _ h1 h2 =>
    refine ⟨Nat.le_of_eq (step_keep h2).1.symm, fun o _ hne hn => ?_⟩
    have hput : ∀ (x : Nat) (ob : AObj), (st.objs x ≠ none ∨ x = r + i) → (st.put x ob).objs o = none := by
      intro x ob hx
      have : o ≠ x := by
        rintro rfl
        rcases hx with hx | hx
        · exact hx hn
        · exact hne hx
      simp [St.put, upd_other _ _ _ _ this, hn]
    cases hop : s.op with
    | pe e => rw [hop] at h2; obtain ⟨v', hv, e'⟩ := Option.map_eq_some_iff.1 h2; cases e'; exact hn
    | load n agg x => obtain ⟨e, _⟩ := read_step (by rw [hop]; rfl) h2; rw [e]; exact hn
    | lookup kk z ok m key => obtain ⟨e, _⟩ := read_step (by rw [hop]; rfl) h2; rw [e]; exact hn
    | alloc T z k => obtain ⟨x, e, _⟩ := alloc_step (P := P) (by rw [hop]; rfl) (hi (by rw [hop]; rfl)) h2; rw [e]; exact hput _ _ (.inr rfl)
    | box T x k => obtain ⟨x, e, _⟩ := alloc_step (P := P) (by rw [hop]; rfl) (hi (by rw [hop]; rfl)) h2; rw [e]; exact hput _ _ (.inr rfl)
    | mkMap k => obtain ⟨x, e, _⟩ := alloc_step (P := P) (by rw [hop]; rfl) (hi (by rw [hop]; rfl)) h2; rw [e]; exact hput _ _ (.inr rfl)
    | store n x y =>
      rw [hop] at h2
      simp only [SOp.step] at h2
      split at h2
      · split at h2
        · rename_i ob ho
          split at h2
          · split at h2
            · cases h2; exact hput _ _ (.inl (by simp [ho]))
            · cases h2
          · cases h2
        · cases h2
      · cases h2
    | append str e size bytes a b k =>
      have hk := hnew k (by rw [hop]; rfl)
      rw [hop] at h2
      simp only [SOp.step] at h2
      split at h2
      · split at h2
        · cases h2; exact hn
        · split at h2
          · split at h2
            · cases h2; exact hput _ _ (.inr (by rw [hk]))
            · split at h2
              · rename_i ho
                split at h2
                · cases h2; exact hput _ _ (.inl (by simp [ho]))
                · cases h2
              · cases h2
            · cases h2
          · cases h2
      · cases h2
    | mapUpd kk m key v =>
      rw [hop] at h2
      simp only [SOp.step] at h2
      split at h2
      · split at h2
        · rename_i ho
          split at h2
          · cases h2; exact hput _ _ (.inl (by simp [ho]))
          · split at h2
            · cases h2; exact hput _ _ (.inl (by simp [ho]))
            · cases h2
          · cases h2
        · cases h2
      · cases h2
    | call f l => rw [hop] at h2; cases h2
    | callV x l => rw [hop] at h2; cases h2
    | defer x l => rw [hop] at h2; cases h2

/-- What a reader looks at is there. -/
theorem read_there {s : SOp} (hk : s.kd = .read) {v : AV} {st' : St} (h : s.step r env st = some (v, st')) : ∀ o, s.rd env = some o → st.objs o ≠ none := by
  intro o ho
  cases s <;> simp [SOp.kd] at hk
  · simp only [SOp.rd] at ho
    split at ho
    · rename_i o' off heq
      cases ho
      simp only [SOp.step, heq] at h
      split at h
      · rename_i cs hd
        intro hn
        simp [St.data, hn] at hd
      · cases h
    · cases ho
  · simp only [SOp.rd] at ho
    split at ho
    · rename_i o' heq
      cases ho
      simp only [SOp.step, heq] at h
      split at h
      · rename_i es hes; simp [hes]
      · cases h
    · cases ho

theorem awpD_run {ms : List Nat} (hn1 : ∀ (i : Nat) (s : SOper), ss[i]? = some s → s.op.kd = .alloc → s.op.new = some i) (hn2 : ∀ (i : Nat) (s : SOper), ss[i]? = some s → ∀ k, s.op.new = some k → k = i) :
    ∀ (l : List Nat) (done : List Nat) (env : Env) (st : St) (L : Log) (K : Env → St → Prop), awpD P w0 base r ss (unB ms) l env st L K → pairsB ms ss l = true → (∀ q ∈ done, ∀ i ∈ l, pairB ms ss q i = true) → (∀ q, q < ss.length → q ∈ done ∨ q ∈ l) → (done ++ l).Nodup → r + ss.length ≤ st.next →
      (∀ q ∈ l, ∀ sq, ss[q]? = some sq → sq.op.kd = .alloc → st.objs (r + q) = none) → (∀ q ∈ done, ∀ sq, ss[q]? = some sq → sq.op.kd = .read → ∃ o, (q, o) ∈ L.rd) → (∀ q o o', (q, o) ∈ L.rd → (q, o') ∈ L.rd → o = o') → (∀ q o, (q, o) ∈ L.rd → q ∈ done) →
      ∃ env' st', K env' st' ∧ ∃ rds : Nat → Option Nat, (∀ q o, (q, o) ∈ L.rd → rds q = o) ∧ RunD P w0 base r ss (unB ms) rds l env st env' st' ∧
        (∀ i s0 s1, (i, s0, s1) ∈ L.ef → ∀ q ∈ l, ∀ sq, ss[q]? = some sq → sq.op.kd = .read → unB ms i q = true → ∀ o, rds q = some o → s0.objs o = s1.objs o)
  | [], done, env, st, L, K, h, _, _, _, _, _, _, _, hL, _ => by
    refine ⟨env, st, h, fun q => ((L.rd.find? fun x => x.1 == q).map (·.2)).getD none, fun q o hm => ?_, .nil _ _, fun i s0 s1 _ q hq => by cases hq⟩
    cases hf : L.rd.find? (fun x => x.1 == q) with
    | none => have := List.find?_eq_none.1 hf (q, o) hm; simp at this
    | some x =>
      have h1 := List.find?_some hf
      have h2 := List.mem_of_find?_eq_some hf
      obtain ⟨q', o'⟩ := x
      simp at h1
      subst h1
      simp only [hf]
      exact hL _ _ _ h2 hm
  | i :: l, done, env, st, L, K, h, hp, hpd, hall, hnd, hr, hnone, hdone, hL, hLd => by
    simp only [awpD] at h
    split at h
    · exact h.elim
    · rename_i s hs
      have hpl : pairsB ms ss l = true := by simp only [pairsB, Bool.and_eq_true] at hp; exact hp.2
      have hpd' : ∀ q ∈ done ++ [i], ∀ x ∈ l, pairB ms ss q x = true := by
        intro q hq x hx
        rcases List.mem_append.1 hq with hq | hq
        · exact hpd q hq x (by simp [hx])
        · simp at hq; subst hq; exact pairs_cons hp hx
      have hall' : ∀ q, q < ss.length → q ∈ done ++ [i] ∨ q ∈ l := by
        intro q hq
        rcases hall q hq with h1 | h1
        · exact .inl (by simp [h1])
        · rcases List.mem_cons.1 h1 with rfl | h1
          · exact .inl (by simp)
          · exact .inr h1
      have hnd' : ((done ++ [i]) ++ l).Nodup := by simpa using hnd
      have hil : i ∉ l := by
        have := (List.nodup_append.1 hnd).2.1
        exact (List.nodup_cons.1 this).1
      have hid : i ∉ done := fun hm => (List.nodup_append.1 hnd).2.2 i hm i (by simp) rfl
      have hilt : i < ss.length := (List.getElem?_eq_some_iff.1 hs).1
      -- one step, whatever it was
      have key : ∀ (v : AV) (st1 : St) (L' : Log), Does P w0 base r s env st v st1 → awpD P w0 base r ss (unB ms) l (env.put s.dst v) st1 L' K →
          (L'.rd = L.rd ∧ s.op.kd ≠ .read ∨ ∃ o, L'.rd = (i, o) :: L.rd ∧ (s.op.kd = .read → Wanted s env → s.op.rd env = o) ∧ (s.op.kd = .read → oblQ (unB ms) i o L.ef) ∧ (s.op.kd = .read → ∀ o', o = some o' → st.objs o' ≠ none)) →
          (L'.ef = L.ef ∧ (s.op.kd = .eff → st1 = st) ∨ L'.ef = (i, st, st1) :: L.ef ∧ oblR (unB ms) i st st1 L.rd) →
          ∃ env' st', K env' st' ∧ ∃ rds : Nat → Option Nat, (∀ q o, (q, o) ∈ L.rd → rds q = o) ∧ RunD P w0 base r ss (unB ms) rds (i :: l) env st env' st' ∧
            (∀ i' s0 s1, (i', s0, s1) ∈ L.ef → ∀ q ∈ i :: l, ∀ sq, ss[q]? = some sq → sq.op.kd = .read → unB ms i' q = true → ∀ o, rds q = some o → s0.objs o = s1.objs o) := by
        intro v st1 L' hd hawp hrd hef
        obtain ⟨k1, k2⟩ := does_keeps (hn1 i s hs) (hn2 i s hs) hd
        have hLsub : ∀ q o, (q, o) ∈ L.rd → (q, o) ∈ L'.rd := by
          intro q o hm
          rcases hrd with ⟨e, _⟩ | ⟨o', e, _⟩ <;> rw [e]
          · exact hm
          · exact List.mem_cons_of_mem _ hm
        have hEsub : ∀ x, x ∈ L.ef → x ∈ L'.ef := by
          intro x hm
          rcases hef with ⟨e, _⟩ | ⟨e, _⟩ <;> rw [e]
          · exact hm
          · exact List.mem_cons_of_mem _ hm
        have hnone' : ∀ q ∈ l, ∀ sq, ss[q]? = some sq → sq.op.kd = .alloc → st1.objs (r + q) = none := by
          intro q hq sq hsq hkq
          have hlt : q < ss.length := (List.getElem?_eq_some_iff.1 hsq).1
          refine k2 _ (by omega) (fun e => ?_) (hnone q (by simp [hq]) sq hsq hkq)
          have : q = i := by omega
          exact hil (this ▸ hq)
        obtain ⟨env', st', hK, rds, c1, c2, c3⟩ := awpD_run hn1 hn2 l (done ++ [i]) (env.put s.dst v) st1 L' K hawp hpl hpd' hall' hnd' (by omega) hnone'
          (fun q hq sq hsq hkq => by
            rcases List.mem_append.1 hq with hq | hq
            · obtain ⟨o, ho⟩ := hdone q hq sq hsq hkq
              exact ⟨o, hLsub q o ho⟩
            · simp at hq; subst hq
              rw [hs] at hsq; cases hsq
              rcases hrd with ⟨_, e⟩ | ⟨o, e, _⟩
              · exact absurd hkq e
              · exact ⟨o, by rw [e]; simp⟩)
          (fun q o o' h1 h2 => by
            rcases hrd with ⟨e, _⟩ | ⟨o0, e, _⟩
            · rw [e] at h1 h2; exact hL q o o' h1 h2
            · rw [e] at h1 h2
              rcases List.mem_cons.1 h1 with e1 | h1' <;> rcases List.mem_cons.1 h2 with e2 | h2'
              · cases e1; cases e2; rfl
              · cases e1; exact absurd (hLd _ _ h2') hid
              · cases e2; exact absurd (hLd _ _ h1') hid
              · exact hL q o o' h1' h2')
          (fun q o h1 => by
            rcases hrd with ⟨e, _⟩ | ⟨o0, e, _⟩
            · rw [e] at h1; exact List.mem_append_left _ (hLd q o h1)
            · rw [e] at h1
              rcases List.mem_cons.1 h1 with e1 | h1
              · cases e1; simp
              · exact List.mem_append_left _ (hLd q o h1))
        refine ⟨env', st', hK, rds, fun q o hm => c1 q o (hLsub q o hm), .cons i l s v env env' st st1 st' hs hd ⟨?_, ?_, ?_, ?_, ?_⟩ c2, ?_⟩
        · -- what is read
          intro hk hw
          rcases hrd with ⟨_, e⟩ | ⟨o, e, h1, _⟩
          · exact absurd hk e
          · rw [h1 hk hw]; exact (c1 i o (by rw [e]; simp)).symm
        · intro hk q sq hsq hkq hu heq
          have hqlt : q < ss.length := (List.getElem?_eq_some_iff.1 hsq).1
          rcases hall q hqlt with hq | hq
          · have := pair_kinds (hpd q hq i (by simp)) hu hsq hs
            rw [hkq, hk] at this; cases this
          · rcases hrd with ⟨_, e⟩ | ⟨o, e, _, _, h3⟩
            · exact absurd hk e
            · have : rds i = o := c1 i o (by rw [e]; simp)
              rw [this] at heq
              exact h3 hk _ heq (hnone q hq sq hsq hkq)
        · intro hk; exact hnone i (by simp) s hs hk
        · intro hk q sq hsq hkq hu
          have hqlt : q < ss.length := (List.getElem?_eq_some_iff.1 hsq).1
          rcases hall q hqlt with hq | hq
          · have := pair_kinds (hpd q hq i (by simp)) hu hsq hs
            rw [hkq, hk] at this; cases this
          · have h1 := hnone q hq sq hsq hkq
            have hqi : r + q ≠ r + i := by
              intro e
              have : q = i := by omega
              subst this
              rw [hs] at hsq; cases hsq
              rw [hk] at hkq; cases hkq
            rw [h1, k2 _ (by omega) hqi h1]
        · intro hk q sq hsq hkq hu o ho
          have hqlt : q < ss.length := (List.getElem?_eq_some_iff.1 hsq).1
          rcases hef with ⟨_, e⟩ | ⟨e, hob⟩
          · rw [e hk]
          · rcases hall q hqlt with hq | hq
            · obtain ⟨o', ho'⟩ := hdone q hq sq hsq hkq
              have := c1 q o' (hLsub q o' ho')
              rw [ho] at this
              subst this
              exact oblR_spec hob q o ho' hu
            · rcases List.mem_cons.1 hq with rfl | hq
              · rw [hs] at hsq; cases hsq
                rw [hk] at hkq; cases hkq
              · exact c3 i st st1 (by rw [e]; simp) q hq sq hsq hkq hu o ho
        · intro i' s0 s1 hm q hq sq hsq hkq hu o ho
          rcases List.mem_cons.1 hq with rfl | hq
          · rw [hs] at hsq; cases hsq
            rcases hrd with ⟨_, e⟩ | ⟨o', e, _, h2, _⟩
            · exact absurd hkq e
            · have : rds q = o' := c1 q o' (by rw [e]; simp)
              rw [ho] at this
              subst this
              exact oblE_spec (h2 hkq) i' s0 s1 hm hu
          · exact c3 i' s0 s1 (hEsub _ hm) q hq sq hsq hkq hu o ho
      rcases onGuard_spec h with ⟨hw, h⟩ | ⟨d, b, h1, h2, h⟩
      · cases hk : s.op.kd with
        | read =>
          rw [hk] at h
          simp only at h
          obtain ⟨ho, h⟩ := h
          obtain ⟨v, st1, q1, q2⟩ := goOp_spec hw h
          refine key v st1 _ q1 q2 (.inr ⟨_, rfl, fun _ _ => rfl, fun _ => ho, fun _ o' he => ?_⟩) (.inl ⟨rfl, fun h => by rw [hk] at h; cases h⟩)
          cases q1 with
          | skip d b g1 g2 =>
            rcases hw with hw | ⟨d', b2, hw, hb2⟩
            · rw [g1] at hw; cases hw
            · rw [g1] at hw; cases hw
              rw [hb2] at g2; simp [noB] at g2
          | run _ _ g1 g2 => exact read_there hk g2 o' he
          | call f args _ _ g1 g2 g3 => rw [g2] at hk; cases hk
          | callV x args f first cap _ _ g1 g2 g3 g4 => rw [g2] at hk; cases hk
        | eff =>
          rw [hk] at h
          simp only at h
          obtain ⟨v, st1, q1, q2, q3⟩ := goOp_spec hw h
          exact key v st1 _ q1 q3 (.inl ⟨rfl, by rw [hk]; simp⟩) (.inr ⟨rfl, q2⟩)
        | pure =>
          rw [hk] at h
          simp only at h
          obtain ⟨v, st1, q1, q2⟩ := goOp_spec hw h
          exact key v st1 _ q1 q2 (.inl ⟨rfl, by rw [hk]; simp⟩) (.inl ⟨rfl, fun h => by rw [hk] at h; cases h⟩)
        | alloc =>
          rw [hk] at h
          simp only at h
          obtain ⟨v, st1, q1, q2⟩ := goOp_spec hw h
          exact key v st1 _ q1 q2 (.inl ⟨rfl, by rw [hk]; simp⟩) (.inl ⟨rfl, fun h => by rw [hk] at h; cases h⟩)
        | other =>
          rw [hk] at h
          simp only at h
          obtain ⟨v, st1, q1, q2⟩ := goOp_spec hw h
          exact key v st1 _ q1 q2 (.inl ⟨rfl, by rw [hk]; simp⟩) (.inl ⟨rfl, fun h => by rw [hk] at h; cases h⟩)
      · exact key (.tuple []) st _ (.skip d b h1 h2) h (.inr ⟨none, rfl, fun _ hw => by
          rcases hw with hw | ⟨d', b2, hw, hb2⟩
          · rw [h1] at hw; cases hw
          · rw [h1] at hw; cases hw
            rw [hb2] at h2; simp [noB] at h2, fun _ => trivial, fun _ o' he => by cases he⟩) (.inl ⟨rfl, fun _ => rfl⟩)
end

end Go.Proofs.YthaekebedmoipaaGreatDoor.AM

/- The abstract logic, part 22: code. -/
set_option linter.unusedVariables false
set_option linter.unusedSimpArgs false
namespace Go.Proofs.YthaekebedmoipaaGreatDoor.AM
open Go Go.RowKit

inductive AEx where
  | normal | exit (id : Nat) | ret

def AEx.toExit : AEx → Exit
  | .normal => .normal
  | .exit id => .exit id
  | .ret => .ret

inductive SCode where
  | skip
  | seq (a b : SCode)
  | cond (c : Opd) (a b : SCode)
  | block (id : Nat) (c : SCode)
  | loop (c : SCode)
  | exit (id : Nat)
  | ret
  | reg (ss : List SOper)
  | draw (ms ord : List Nat) (ss : List SOper)
  | frz (ts : List Nat) (c : SCode)

/-- Code without the marks that freeze. -/
def SCode.strip : SCode → SCode
  | .seq a b => .seq a.strip b.strip
  | .cond c a b => .cond c a.strip b.strip
  | .block id c => .block id c.strip
  | .loop c => .loop c.strip
  | .frz _ c => c.strip
  | c => c

/-- An object is forgotten. -/
def St.del (st : St) (o : Nat) : St := { st with objs := fun p => if p = o then none else st.objs p }
/-- An object that is written no more becomes a value; the temporary that leads to it bears it. -/
def frz1 (t : Nat) (e : Env) (s : St) : Env × St := match e t with
  | .ptr o 0 => match s.objs o with
    | some (.cells _ cs) => (e.set t (.iptr cs 0), s.del o)
    | _ => (e, s)
  | .row o len => match s.objs o with
    | some (.row _ _ cs) => (e.set t (.sl cs len .no), s.del o)
    | _ => (e, s)
  | _ => (e, s)
def frzs : List Nat → Env → St → Env × St
  | [], e, s => (e, s)
  | t :: ts, e, s => frzs ts (frz1 t e s).1 (frz1 t e s).2

def resCode (P : Program) (N : Nat) : Code → Option SCode
  | .skip => some .skip
  | .seq a b => match resCode P N a, resCode P N b with
    | some a, some b => some (.seq a b)
    | _, _ => none
  | .cond c a b => match resO c, resCode P N a, resCode P N b with
    | some c, some a, some b => some (.cond c a b)
    | _, _, _ => none
  | .block id c => (resCode P N c).map (.block id)
  | .loop c => (resCode P N c).map .loop
  | .exit id => some (.exit id)
  | .ret => some .ret
  | .region _ ops draw => match resList P N ops 0 ops.toList with
    | some ss => if draw then
        let ms := masks ops.toList []
        let ord := canon ops ss ops.size (List.range ops.size) []
        if drawB ops ss ms ord && P.follows .mixedOrders then some (.draw ms ord ss) else none
      else some (.reg ss)
    | none => none
  | _ => none

/-- What code comes to. -/
structure DetC (P : Program) (w0 : World) (base N : Nat) (c : Code) (env : Env) (ds : List ADef) (st : St) (ex : AEx) (env' : Env) (ds' : List ADef) (st' : St) : Prop where
  next : st.next ≤ st'.next
  keep : ∀ o, o < st.next → st.objs o = none → st'.objs o = none
  wp : ∀ (X : Nat → Option AObj) (G : Gh) (w : World) (a : Act), (∀ o, X o ≠ none → st.objs o = none) → Inv w0 base G (st.add X) w → RepFr G w N env ds a →
    c.wp P (fun e a' w' => e = ex.toExit ∧ ∃ G', Ext base G w G' w' ∧ (∀ o, o < st.next → G'.used o → G.used o) ∧ Inv w0 base G' (st'.add X) w' ∧ RepFr G' w' N env' ds' a') a w

abbrev CK := AEx → Env → List ADef → St → Prop

/-- Rounds of a loop, at most n of them. -/
def iter (B : Env → List ADef → St → CK → Prop) (Q : CK) : Nat → Env → List ADef → St → Prop
  | 0, _, _, _ => False
  | n + 1, env, ds, st => B env ds st fun ex e d s => match ex with
    | .normal => iter B Q n e d s
    | ex => Q ex e d s

def LoopW (B : Env → List ADef → St → CK → Prop) (env : Env) (ds : List ADef) (st : St) (Q : CK) : Prop := ∃ n, iter B Q n env ds st

/-- Where new ids are to come there is nothing yet. -/
def noneAt (st : St) : List SOper → Nat → Prop
  | [], _ => True
  | s :: l, i => (match s.op.kd with | .alloc => st.objs (st.next + i) = none | _ => True) ∧ noneAt st l (i + 1)

theorem noneAt_spec {st : St} : ∀ {l : List SOper} {i : Nat}, noneAt st l i → ∀ (q : Nat) (s : SOper), l[q]? = some s → s.op.kd = .alloc → st.objs (st.next + (i + q)) = none
  | [], i, _, q, s, hq, _ => by simp at hq
  | s0 :: l, i, h, q, s, hq, hk => by
    obtain ⟨h1, h2⟩ := h
    cases q with
    | zero => simp at hq; subst hq; rw [hk] at h1; simpa using h1
    | succ q => simp at hq; have := noneAt_spec h2 q s hq hk; rwa [show i + (q + 1) = i + 1 + q from by omega]

def awp (P : Program) (w0 : World) (base : Nat) : SCode → Env → List ADef → St → CK → Prop
  | .skip, env, ds, st, Q => Q .normal env ds st
  | .seq a b, env, ds, st, Q => awp P w0 base a env ds st fun ex e d s => match ex with
    | .normal => awp P w0 base b e d s Q
    | ex => Q ex e d s
  | .cond c a b, env, ds, st, Q => match c.ev env with
    | .bool t => if t = true then awp P w0 base a env ds st Q else awp P w0 base b env ds st Q
    | _ => False
  | .block id c, env, ds, st, Q => awp P w0 base c env ds st fun ex e d s => match ex with
    | .exit i => if i = id then Q .normal e d s else Q (.exit i) e d s
    | ex => Q ex e d s
  | .loop c, env, ds, st, Q => LoopW (awp P w0 base c) env ds st Q
  | .exit id, env, ds, st, Q => Q (.exit id) env ds st
  | .ret, env, ds, st, Q => Q .ret env ds st
  | .reg ss, env, ds, st, Q => awpOps P w0 base st.next ss env ds { st with next := st.next + ss.length } fun e d s => Q .normal e d s
  | .draw ms ord ss, env, ds, st, Q => noneAt st ss 0 ∧ awpD P w0 base st.next ss (unB ms) ord env { st with next := st.next + ss.length } ⟨[], []⟩ fun e s => Q .normal e ds s
  | .frz ts c, env, ds, st, Q => awp P w0 base c env ds st fun ex e d s => Q ex (frzs ts e s).1 d (frzs ts e s).2

/-- The store may forget. -/
structure Forget (st st2 : St) : Prop where
  objs : ∀ o x, st2.objs o = some x → st.objs o = some x
  next : st2.next = st.next

section
variable {P : Program} {w0 : World} {base N : Nat}

theorem detC_forget {c : Code} {env env' : Env} {ds ds' : List ADef} {st st2 st' : St} {ex : AEx} (hf : Forget st st2) (h : DetC P w0 base N c env ds st2 ex env' ds' st') : DetC P w0 base N c env ds st ex env' ds' st' where
  next := hf.next ▸ h.next
  keep := fun o ho hn => h.keep o (hf.next ▸ ho) (by
    cases hx : st2.objs o with
    | none => rfl
    | some x => rw [hf.objs o x hx] at hn; cases hn)
  wp := fun X G w a hX hI hR => by
    have hI' : Inv w0 base G (st2.add X) w := inv_forget hI (fun o x hx => by
      simp only [St.add] at hx ⊢
      split at hx
      · rename_i hy; cases hx; rw [hf.objs o x hy]
      · have hn := hX o (by rw [hx]; simp)
        rw [hn]; exact hx) (by simp only [St.add]; rw [hf.next]; exact Nat.le_refl _)
    have := h.wp X G w a (fun o ho => by
      have hn := hX o ho
      cases hx : st2.objs o with
      | none => rfl
      | some x => rw [hf.objs o x hx] at hn; cases hn) hI' hR
    rw [← hf.next]
    exact this

theorem detC_seq {a b : Code} {env e1 env' : Env} {ds d1 ds' : List ADef} {st s1 st' : St} {ex : AEx} (ha : DetC P w0 base N a env ds st .normal e1 d1 s1) (hb : DetC P w0 base N b e1 d1 s1 ex env' ds' st') : DetC P w0 base N (.seq a b) env ds st ex env' ds' st' where
  next := Nat.le_trans ha.next hb.next
  keep := fun o ho hn => hb.keep o (Nat.lt_of_lt_of_le ho ha.next) (ha.keep o ho hn)
  wp := fun X G w a hX hI hR => by
    have hXs : ∀ o, X o ≠ none → o < st.next := fun o ho => by
      cases hx : X o with
      | none => exact absurd hx ho
      | some x => exact hI.scope o (hI.objs o x (by simp [St.add, hX o ho, hx])).1
    refine wp_seq (wp_mono (ha.wp X G w a hX hI hR) ?_)
    rintro e a' w' ⟨rfl, G', h1, h2, h3, h4⟩
    refine wp_mono (hb.wp X G' w' a' (fun o ho => ha.keep o (hXs o ho) (hX o ho)) h3 h4) ?_
    rintro e a2 w2 ⟨he, G2, g1, g2, g3, g4⟩
    exact ⟨he, G2, h1.trans g1, fun o ho hu => h2 o ho (g2 o (Nat.lt_of_lt_of_le ho ha.next) hu), g3, g4⟩

theorem detC_seq_out {a b : Code} {env env' : Env} {ds ds' : List ADef} {st st' : St} {ex : AEx} (hex : ex ≠ .normal) (ha : DetC P w0 base N a env ds st ex env' ds' st') : DetC P w0 base N (.seq a b) env ds st ex env' ds' st' where
  next := ha.next
  keep := ha.keep
  wp := fun X G w a hX hI hR => by
    refine wp_seq (wp_mono (ha.wp X G w a hX hI hR) ?_)
    rintro e a' w' ⟨rfl, h⟩
    cases ex with
    | normal => exact absurd rfl hex
    | exit id => exact ⟨rfl, h⟩
    | ret => exact ⟨rfl, h⟩

theorem least {p : Nat → Prop} (h : ∃ n, p n) : ∃ m, p m ∧ ∀ k, p k → m ≤ k := by
  obtain ⟨n, hn⟩ := h
  induction n using Nat.strongRecOn with
  | _ n ih =>
    by_cases h : ∃ k, k < n ∧ p k
    · obtain ⟨k, hk, hp⟩ := h
      exact ih k hk hp
    · exact ⟨n, hn, fun k hk => by
        rcases Nat.lt_or_ge k n with h1 | h1
        · exact absurd ⟨k, h1, hk⟩ h
        · exact h1⟩

open Classical in
noncomputable def leastOf (p : Nat → Prop) : Nat := if h : ∃ n, p n then Classical.choose (least h) else 0
theorem leastOf_spec {p : Nat → Prop} (h : ∃ n, p n) : p (leastOf p) ∧ ∀ k, p k → leastOf p ≤ k := by
  unfold leastOf
  rw [dif_pos h]
  exact Classical.choose_spec (least h)

/-- The rounds of a loop. -/
inductive Path (P : Program) (w0 : World) (base N : Nat) (c : Code) (ex : AEx) (env' : Env) (ds' : List ADef) (st' : St) : Nat → Env → List ADef → St → Prop
  | last (env : Env) (ds : List ADef) (st : St) (h : DetC P w0 base N c env ds st ex env' ds' st') (he : ex ≠ .normal) : Path P w0 base N c ex env' ds' st' 0 env ds st
  | more (n : Nat) (env e1 : Env) (ds d1 : List ADef) (st s1 : St) (h : DetC P w0 base N c env ds st .normal e1 d1 s1) (h' : Path P w0 base N c ex env' ds' st' n e1 d1 s1) : Path P w0 base N c ex env' ds' st' (n + 1) env ds st

theorem path_next {c : Code} {ex : AEx} {env' : Env} {ds' : List ADef} {st' : St} {n : Nat} {env : Env} {ds : List ADef} {st : St} (h : Path P w0 base N c ex env' ds' st' n env ds st) : st.next ≤ st'.next ∧ ∀ o, o < st.next → st.objs o = none → st'.objs o = none := by
  induction h with
  | last env ds st h he => exact ⟨h.next, h.keep⟩
  | more n env e1 ds d1 st s1 h h' ih => exact ⟨Nat.le_trans h.next ih.1, fun o ho hn => ih.2 o (Nat.lt_of_lt_of_le ho h.next) (h.keep o ho hn)⟩

theorem detC_path {c : Code} {ex : AEx} {env' : Env} {ds' : List ADef} {st' : St} {n : Nat} {env : Env} {ds : List ADef} {st : St} (h : Path P w0 base N c ex env' ds' st' n env ds st) : DetC P w0 base N (.loop c) env ds st ex env' ds' st' where
  next := (path_next h).1
  keep := (path_next h).2
  wp := fun X G w a hX hI hR => by
    have hXs : ∀ o, X o ≠ none → o < st.next := fun o ho => by
      cases hx : X o with
      | none => exact absurd hx ho
      | some x => exact hI.scope o (hI.objs o x (by simp [St.add, hX o ho, hx])).1
    let R : Nat → Act → World → Prop := fun m a1 w1 => ∃ e1 d1 s1 G1, Path P w0 base N c ex env' ds' st' m e1 d1 s1 ∧ st.next ≤ s1.next ∧ (∀ o, o < st.next → st.objs o = none → s1.objs o = none) ∧
      Ext base G w G1 w1 ∧ (∀ o, o < st.next → G1.used o → G.used o) ∧ Inv w0 base G1 (s1.add X) w1 ∧ RepFr G1 w1 N e1 d1 a1
    have hR0 : R n a w := ⟨env, ds, st, G, h, Nat.le_refl _, fun _ _ h => h, Ext.refl _ _ _, fun _ _ h => h, hI, hR⟩
    refine wp_loop (fun a1 w1 => ∃ m, R m a1 w1) (fun a1 w1 => leastOf fun m => R m a1 w1) ⟨n, hR0⟩ ?_
    intro a1 w1 hex
    have hm := (leastOf_spec hex).1
    generalize hmm : leastOf (fun m => R m a1 w1) = m at hm
    obtain ⟨e1, d1, s1, G1, hp, g1, g2, g3, g4, g5, g6⟩ := hm
    have hXd : ∀ o, X o ≠ none → s1.objs o = none := fun o ho => g2 o (hXs o ho) (hX o ho)
    cases hp with
    | last _ _ _ hd he =>
      refine wp_mono (hd.wp X G1 w1 a1 hXd g5 g6) ?_
      rintro e a2 w2 ⟨rfl, G2, q1, q2, q3, q4⟩
      have hpost : ex.toExit = ex.toExit ∧ ∃ G', Ext base G w G' w2 ∧ (∀ o, o < st.next → G'.used o → G.used o) ∧ Inv w0 base G' (st'.add X) w2 ∧ RepFr G' w2 N env' ds' a2 :=
        ⟨rfl, G2, g3.trans q1, fun o ho hu => g4 o ho (q2 o (Nat.lt_of_lt_of_le ho g1) hu), q3, q4⟩
      cases ex with
      | normal => exact absurd rfl he
      | exit id => exact hpost
      | ret => exact hpost
    | more m' _ e2 _ d2 _ s2 hd hp' =>
      refine wp_mono (hd.wp X G1 w1 a1 hXd g5 g6) ?_
      rintro e a2 w2 ⟨rfl, G2, q1, q2, q3, q4⟩
      have hR2 : R m' a2 w2 := ⟨e2, d2, s2, G2, hp', Nat.le_trans g1 hd.next, fun o ho hn => hd.keep o (Nat.lt_of_lt_of_le ho g1) (g2 o ho hn), g3.trans q1, fun o ho hu => g4 o ho (q2 o (Nat.lt_of_lt_of_le ho g1) hu), q3, q4⟩
      refine ⟨⟨m', hR2⟩, ?_⟩
      have hex2 : ∃ m, R m a2 w2 := ⟨m', hR2⟩
      have := (leastOf_spec hex2).2 m' hR2
      omega

theorem detC_cond {x : Operand} {c : Opd} {a b : Code} {t : Bool} {env env' : Env} {ds ds' : List ADef} {st st' : St} {ex : AEx} (hx : resO x = some c) (ht : c.ev env = .bool t) (h : DetC P w0 base N (if t then a else b) env ds st ex env' ds' st') :
    DetC P w0 base N (.cond x a b) env ds st ex env' ds' st' where
  next := h.next
  keep := h.keep
  wp := fun X G w act hX hI hR => by
    have := resO_sound hR.env hx
    rw [ht] at this
    simp only [Rep] at this
    exact wp_cond this (h.wp X G w act hX hI hR)

theorem detC_block {id : Nat} {c : Code} {env env' : Env} {ds ds' : List ADef} {st st' : St} {ex ex' : AEx} (h : DetC P w0 base N c env ds st ex env' ds' st') (he : ex' = (match ex with | .exit i => if i = id then .normal else .exit i | ex => ex)) :
    DetC P w0 base N (.block id c) env ds st ex' env' ds' st' where
  next := h.next
  keep := h.keep
  wp := fun X G w act hX hI hR => by
    refine wp_block (wp_mono (h.wp X G w act hX hI hR) ?_)
    rintro e a2 w2 ⟨rfl, hq⟩
    subst he
    cases ex with
    | normal => exact ⟨rfl, hq⟩
    | ret => exact ⟨rfl, hq⟩
    | exit i =>
      simp only [AEx.toExit, Exit.inBlock]
      split
      · exact ⟨rfl, hq⟩
      · exact ⟨rfl, hq⟩

theorem detC_stay {c : Code} {env : Env} {ds : List ADef} {st : St} {ex : AEx} (h : ∀ (Q : Exit → Act → World → Prop) a w, Q ex.toExit a w → c.wp P Q a w) : DetC P w0 base N c env ds st ex env ds st where
  next := Nat.le_refl _
  keep := fun _ _ h => h
  wp := fun X G w a hX hI hR => h _ a w ⟨rfl, G, Ext.refl _ _ _, fun _ _ h => h, hI, hR⟩

theorem iter_path {c : Code} {B : Env → List ADef → St → CK → Prop} (hB : ∀ env ds st (Q : CK), B env ds st Q → ∃ ex env' ds' st', DetC P w0 base N c env ds st ex env' ds' st' ∧ Q ex env' ds' st') {Q : CK} :
    ∀ (n : Nat) (env : Env) (ds : List ADef) (st : St), iter B Q n env ds st → ∃ ex env' ds' st', DetC P w0 base N (.loop c) env ds st ex env' ds' st' ∧ Q ex env' ds' st' := by
  have key : ∀ (n : Nat) (env : Env) (ds : List ADef) (st : St), iter B Q n env ds st → ∃ ex env' ds' st' m, Path P w0 base N c ex env' ds' st' m env ds st ∧ Q ex env' ds' st' := by
    intro n
    induction n with
    | zero => intro env ds st h; exact h.elim
    | succ n ih =>
      intro env ds st h
      simp only [iter] at h
      obtain ⟨ex, e1, d1, s1, hd, hq⟩ := hB _ _ _ _ h
      cases ex with
      | normal =>
        obtain ⟨ex, env', ds', st', m, hp, hq⟩ := ih e1 d1 s1 hq
        exact ⟨ex, env', ds', st', m + 1, .more m _ _ _ _ _ _ hd hp, hq⟩
      | exit id => exact ⟨_, _, _, _, 0, .last _ _ _ hd (by simp), hq⟩
      | ret => exact ⟨_, _, _, _, 0, .last _ _ _ hd (by simp), hq⟩
  intro n env ds st h
  obtain ⟨ex, env', ds', st', m, hp, hq⟩ := key n env ds st h
  exact ⟨ex, env', ds', st', detC_path hp, hq⟩

theorem detC_reg {id : Nat} {ops : Array Oper} {ss : List SOper} {env env' : Env} {ds ds' : List ADef} {st st' : St} (hss : resList P N ops 0 ops.toList = some ss) (h : RunS P w0 base st.next ss env ds { st with next := st.next + ss.length } env' ds' st') :
    DetC P w0 base N (.region id ops false) env ds st .normal env' ds' st' := by
  have hk : ∀ {l : List SOper} {e e' : Env} {d d' : List ADef} {s s' : St}, RunS P w0 base st.next l e d s e' d' s' → st.next ≤ s.next → s.next ≤ s'.next ∧ ∀ o, o < st.next → s.objs o = none → s'.objs o = none := by
    intro l e e' d d' s s' hr
    induction hr with
    | nil => exact fun _ => ⟨Nat.le_refl _, fun _ _ h => h⟩
    | cons sp l env env1 env' ds ds1 ds' st st1 st' h1 h2 ih =>
      intro hn
      obtain ⟨q1, q2⟩ := step_next h1 hn
      obtain ⟨q3, q4⟩ := ih (by omega)
      exact ⟨by omega, fun o ho hx => q4 o ho (q2 o ho hx)⟩
  obtain ⟨k1, k2⟩ := hk h (by simp)
  refine ⟨by simp at k1; omega, fun o ho hn => k2 o ho hn, fun X G w a hX hI hR => ?_⟩
  exact wp_seqRegion hss h hX hI hR fun a' w' G' q1 q2 q3 q4 => ⟨rfl, G', q1, q2, q3, q4⟩

theorem detC_draw {id : Nat} {ops : Array Oper} {ss : List SOper} {ms ord : List Nat} {env : Env} {ds : List ADef} {st : St} (hm : P.follows .mixedOrders = true) (hss : resList P N ops 0 ops.toList = some ss) (hd : drawB ops ss ms ord = true) (hwf : noneAt st ss 0)
    {K : Env → St → Prop} (h : awpD P w0 base st.next ss (unB ms) ord env { st with next := st.next + ss.length } ⟨[], []⟩ K) :
    ∃ env' st', K env' st' ∧ DetC P w0 base N (.region id ops true) env ds st .normal env' ds st' := by
  obtain ⟨hlen, hres⟩ := resList_spec ops.toList 0 ss hss (fun j => by simp)
  have hres' : ∀ (i : Nat) (s : SOper), ss[i]? = some s → Resolves P N ops i i s := fun i s h => by have := hres i s h; rwa [Nat.zero_add] at this
  have hd' := hd
  simp only [drawB, Bool.and_eq_true, beq_iff_eq, List.all_eq_true, decide_eq_true_eq] at hd'
  obtain ⟨⟨⟨⟨⟨⟨d1, d2⟩, d3⟩, d4⟩, d5⟩, d6⟩, d7⟩ := hd'
  obtain ⟨env', st', hK, rds, _, hrun, _⟩ := awpD_run (ms := ms) (fun i s h hk => resolves_kd (hres' i s h) hk) (fun i s h k hk => by
      obtain ⟨o, ho, hop, _⟩ := (hres' i s h).ex
      exact resolves_new hop hk) ord [] env { st with next := st.next + ss.length } ⟨[], []⟩ K h d5 (fun q hq => by cases hq) (fun q hq => .inr (List.contains_iff_mem.1 (d3 q (List.mem_range.2 (by omega))))) (by simpa using d4) (Nat.le_refl _)
      (fun q _ sq hsq hk => by have := noneAt_spec hwf q sq hsq hk; rwa [Nat.zero_add] at this) (fun q hq => by cases hq) (fun q o o' h1 => by cases h1) (fun q o h1 => by cases h1)
  refine ⟨env', st', hK, ?_, ?_, ?_⟩
  · have hk : ∀ {l : List Nat} {e e' : Env} {s s' : St}, RunD P w0 base st.next ss (unB ms) rds l e s e' s' → st.next ≤ s.next → s.next ≤ s'.next := by
      intro l e e' s s' hr
      induction hr with
      | nil => exact fun _ => Nat.le_refl _
      | cons i l s v env env' st0 st1 st' h1 h2 h3 h4 ih => intro hn; have := (step_next (does_step (ds := ds) h2) hn).1; have := ih (by omega); omega
    have := hk hrun (by simp)
    simp at this; omega
  · have hk : ∀ {l : List Nat} {e e' : Env} {s s' : St}, RunD P w0 base st.next ss (unB ms) rds l e s e' s' → st.next ≤ s.next → ∀ o, o < st.next → s.objs o = none → s'.objs o = none := by
      intro l e e' s s' hr
      induction hr with
      | nil => exact fun _ _ _ h => h
      | cons i l s v env env' st0 st1 st' h1 h2 h3 h4 ih =>
        intro hn o ho hx
        obtain ⟨q1, q2⟩ := step_next (does_step (ds := ds) h2) hn
        exact ih (by omega) o ho (q2 o ho hx)
    exact fun o ho hn => hk hrun (by simp) o ho hn
  · intro X G w a hX hI hR
    exact wp_draw hm hss hd hrun hX hI hR fun a' w' G' q1 q2 q3 q4 => ⟨rfl, G', q1, q2, q3, q4⟩
end

end Go.Proofs.YthaekebedmoipaaGreatDoor.AM

/- The abstract logic, part 23: stepping through code is what the machine does; functions. -/
set_option linter.unusedVariables false
set_option linter.unusedSimpArgs false
namespace Go.Proofs.YthaekebedmoipaaGreatDoor.AM
open Go Go.RowKit

section
variable {P : Program} {w0 : World} {base N : Nat}

theorem awp_sound : ∀ (c : Code) (sc : SCode), resCode P N c = some sc → ∀ (env : Env) (ds : List ADef) (st : St) (Q : CK), awp P w0 base sc env ds st Q → ∃ ex env' ds' st', DetC P w0 base N c env ds st ex env' ds' st' ∧ Q ex env' ds' st'
  | .skip, sc, hr, env, ds, st, Q, h => by
    cases hr
    exact ⟨.normal, env, ds, st, detC_stay fun Q a w hq => wp_skip hq, h⟩
  | .seq a b, sc, hr, env, ds, st, Q, h => by
    simp only [resCode] at hr
    split at hr
    · rename_i sa sb ha hb
      cases hr
      obtain ⟨ex, e1, d1, s1, h1, h2⟩ := awp_sound a sa ha env ds st _ h
      cases ex with
      | normal =>
        obtain ⟨ex, e2, d2, s2, h3, h4⟩ := awp_sound b sb hb e1 d1 s1 Q h2
        exact ⟨ex, e2, d2, s2, detC_seq h1 h3, h4⟩
      | exit id => exact ⟨_, _, _, _, detC_seq_out (by simp) h1, h2⟩
      | ret => exact ⟨_, _, _, _, detC_seq_out (by simp) h1, h2⟩
    · cases hr
  | .cond x a b, sc, hr, env, ds, st, Q, h => by
    simp only [resCode] at hr
    split at hr
    · rename_i c sa sb hx ha hb
      cases hr
      simp only [awp] at h
      split at h
      · rename_i t ht
        cases t with
        | true =>
          rw [if_pos rfl] at h
          obtain ⟨ex, e1, d1, s1, h1, h2⟩ := awp_sound a sa ha env ds st _ h
          exact ⟨ex, e1, d1, s1, detC_cond hx ht h1, h2⟩
        | false =>
          rw [if_neg (by simp)] at h
          obtain ⟨ex, e1, d1, s1, h1, h2⟩ := awp_sound b sb hb env ds st _ h
          exact ⟨ex, e1, d1, s1, detC_cond hx ht (by simpa using h1), h2⟩
      · exact h.elim
    · cases hr
  | .block id c, sc, hr, env, ds, st, Q, h => by
    simp only [resCode] at hr
    obtain ⟨sc', hc, rfl⟩ := Option.map_eq_some_iff.1 hr
    simp only [awp] at h
    obtain ⟨ex, e1, d1, s1, h1, h2⟩ := awp_sound c sc' hc env ds st _ h
    refine ⟨_, e1, d1, s1, detC_block h1 rfl, ?_⟩
    cases ex with
    | normal => exact h2
    | ret => exact h2
    | exit i =>
      simp only at h2 ⊢
      split
      · rename_i e; rwa [if_pos e] at h2
      · rename_i e; rwa [if_neg e] at h2
  | .loop c, sc, hr, env, ds, st, Q, h => by
    simp only [resCode] at hr
    obtain ⟨sc', hc, rfl⟩ := Option.map_eq_some_iff.1 hr
    simp only [awp] at h
    obtain ⟨n, h⟩ := h
    exact iter_path (fun env ds st Q hb => awp_sound c sc' hc env ds st Q hb) n env ds st h
  | .exit id, sc, hr, env, ds, st, Q, h => by
    cases hr
    exact ⟨.exit id, env, ds, st, detC_stay fun Q a w hq => wp_exit hq, h⟩
  | .ret, sc, hr, env, ds, st, Q, h => by
    cases hr
    exact ⟨.ret, env, ds, st, detC_stay fun Q a w hq => wp_ret hq, h⟩
  | .region id ops draw, sc, hr, env, ds, st, Q, h => by
    simp only [resCode] at hr
    split at hr
    · rename_i ss hss
      cases draw with
      | false =>
        simp only [Bool.false_eq_true, if_false, Option.some.injEq] at hr
        subst hr
        simp only [awp] at h
        obtain ⟨env', ds', st', h1, h2⟩ := awpOps_run ss _ _ _ _ h
        exact ⟨.normal, env', ds', st', detC_reg hss h1, h2⟩
      | true =>
        simp only [if_true] at hr
        split at hr
        · rename_i hd
          rw [Bool.and_eq_true] at hd
          cases hr
          simp only [awp] at h
          obtain ⟨env', st', h1, h2⟩ := detC_draw (ds := ds) hd.2 hss hd.1 h.1 h.2
          exact ⟨.normal, env', ds, st', h2, h1⟩
        · cases hr
    · cases hr
  | .rangeFunc .., sc, hr, env, ds, st, Q, h => by cases hr
  | .scope .., sc, hr, env, ds, st, Q, h => by cases hr
  | .label .., sc, hr, env, ds, st, Q, h => by cases hr
  | .goto .., sc, hr, env, ds, st, Q, h => by cases hr
  | .refuse .., sc, hr, env, ds, st, Q, h => by cases hr

/-! ### functions -/
inductive SRes where
  | tmp (t : Nat)
  | cell (t n : Nat) (agg : Bool)

def resRes (P : Program) : ResultVar → Option SRes
  | .tmp t => some (.tmp t)
  | .cell t ty => match sizeT P ty with
    | some n => if (P.underlying ty).isSome then some (.cell t n (aggT P ty)) else none
    | none => none

def SRes.eval (env : Env) (st : St) : SRes → Option AV
  | .tmp t => some (env t)
  | .cell t n agg => match env t with
    | .ptr o off => match st.data o with
      | some cs => loadA n agg cs off
      | none => none
    | _ => none

structure SFunc where
  N : Nat
  results : List SRes
  body : SCode

def resAll (P : Program) : List ResultVar → Option (List SRes)
  | [] => some []
  | r :: l => match resRes P r, resAll P l with
    | some r, some l => some (r :: l)
    | _, _ => none

def resFunc (P : Program) (fn : Func) : Option SFunc :=
  if fn.name == "runtime.NumGoroutine" then none else
  match fn.body with
  | some c => match resCode P fn.ntmps c, resAll P fn.results.toList with
    | some sc, some rs => some ⟨fn.ntmps, rs, sc⟩
    | _, _ => none
  | none => none

def evalRes (env : Env) (st : St) : List SRes → Option (List AV)
  | [] => some []
  | r :: l => match r.eval env st, evalRes env st l with
    | some v, some vs => some (v :: vs)
    | _, _ => none

def packRes : List AV → AV
  | [v] => v
  | vs => .tuple vs

def initEnv (args : List AV) : Env := fun i => args.getD i .undef

theorem initEnv_rep {G : Gh} {w : World} {args : List AV} {vs : List Value} (h : RepL G w args vs) (N : Nat) (hl : args.length ≤ N) : RepFr G w N (initEnv args) [] { tmps := ⟨vs⟩ ++ Array.replicate (N - vs.length) undef, defers := [] } := by
  have hlen := repL_length h
  refine ⟨by simp; omega, fun i => ?_, rfl⟩
  by_cases hi : i < args.length
  · have h1 : initEnv args i = args[i] := by simp [initEnv, hi]
    obtain ⟨u, hu, hr⟩ := repL_get h i args[i] (by simp [hi])
    have h2 : (⟨vs⟩ ++ Array.replicate (N - vs.length) undef : Array Value).getD i undef = u := by
      obtain ⟨hlt, e⟩ := List.getElem?_eq_some_iff.1 hu
      rw [Array.getD_eq_getD_getElem?, Array.getElem?_append_left (by simpa using hlt)]
      simp [hlt, e]
    simp only at h2 ⊢
    rw [h1, h2]; exact hr
  · have h1 : initEnv args i = .undef := by simp [initEnv, List.getElem?_eq_none (by omega : args.length ≤ i)]
    rw [h1]; trivial

def resVal (tmps : Array Value) : ResultVar → Sem Value
  | .tmp t => pure (tmps.getD t undef)
  | .cell p t => do loadVar t (← asAddr (tmps.getD p undef))

theorem results_eq (fn : Func) (tmps : Array Value) : results fn tmps = (do
    let vs ← fn.results.mapM (resVal tmps)
    pure (if h : vs.size = 1 then vs[0] else .tuple vs)) := by
  unfold results
  congr 1

theorem run_resRes {G : Gh} {w : World} {st : St} {env : Env} {a : Act} (hI : Inv w0 base G st w) (hR : RepEnv G w env a) {r : ResultVar} {s : SRes} (hr : resRes P r = some s) {v : AV} (hv : s.eval env st = some v) :
    ∃ u, (resVal a.tmps r).run P w = .ok u w ∧ Rep G w v u := by
  cases r with
  | tmp t => cases hr; cases hv; exact ⟨_, rfl, hR t⟩
  | cell t ty =>
    simp only [resRes] at hr
    split at hr
    · rename_i n hn
      split at hr
      · rename_i hu
        cases hr
        simp only [SRes.eval] at hv
        split at hv
        · rename_i o off heq
          split at hv
          · rename_i cs hd
            have h1 := hR t
            rw [heq] at h1
            obtain ⟨u, hu1, hu2⟩ := load_sound (P := P) hI (x := .ptr o off) h1 hu hn rfl (.inr ⟨o, off, cs, rfl, hd, hv⟩)
            obtain ⟨_, ad, had, _⟩ := h1
            refine ⟨u, ?_, hu2⟩
            rw [had] at hu1
            show (do loadVar ty (← asAddr (a.tmps.getD t undef)) : Sem Value).run P w = _
            rw [had]
            simpa [Instr.loadAt, Instr.sureAddr, asAddr] using hu1
          · cases hv
        · cases hv
      · cases hr
    · cases hr

theorem run_results {G : Gh} {w : World} {st : St} {env : Env} {a : Act} (hI : Inv w0 base G st w) (hR : RepEnv G w env a) {fn : Func} {rs : List SRes} (hr : resAll P fn.results.toList = some rs) {vs : List AV} (hv : evalRes env st rs = some vs) :
    ∃ u, (results fn a.tmps).run P w = .ok u w ∧ Rep G w (packRes vs) u := by
  have key : ∀ (l : List ResultVar) (rs : List SRes) (vs : List AV), resAll P l = some rs → evalRes env st rs = some vs →
      ∃ us, (l.mapM (resVal a.tmps)).run P w = .ok us w ∧ RepL G w vs us := by
    intro l
    induction l with
    | nil => intro rs vs h1 h2; cases h1; cases h2; exact ⟨[], by simp, rfl⟩
    | cons r l ih =>
      intro rs vs h1 h2
      simp only [resAll] at h1
      split at h1
      · rename_i s rs' hs hrs
        cases h1
        simp only [evalRes] at h2
        split at h2
        · rename_i v vs' hv hvs
          cases h2
          obtain ⟨u, q1, q2⟩ := run_resRes hI hR hs hv
          obtain ⟨us, q3, q4⟩ := ih rs' vs' hrs hvs
          refine ⟨u :: us, ?_, u, us, rfl, q2, q4⟩
          rw [List.mapM_cons]
          simp only [Sem.run_bind, q1, Result.andThen_ok, q3, Sem.run_pure]
        · cases h2
      · cases h1
  obtain ⟨us, q1, q2⟩ := key fn.results.toList rs vs hr hv
  have hlen := repL_length q2
  have hrun : (results fn a.tmps).run P w = .ok (if h : us.toArray.size = 1 then us.toArray[0] else .tuple us.toArray) w := by
    rw [results_eq, Array.mapM_eq_mapM_toList]
    simp only [Sem.run_bind, Sem.run_map, q1, Result.andThen_ok, Sem.run_pure]
  refine ⟨_, hrun, ?_⟩
  cases vs with
  | nil => cases q2; exact ⟨[], rfl, rfl⟩
  | cons v vs =>
    cases vs with
    | nil =>
      obtain ⟨u, us', rfl, h1, h2⟩ := q2
      cases h2
      simpa [packRes] using h1
    | cons v2 vs =>
      obtain ⟨u, us', rfl, h1, u2, us2, rfl, h2, h3⟩ := q2
      have : ¬ ((u :: u2 :: us2).toArray.size = 1) := by simp
      rw [dif_neg this]
      exact ⟨_, rfl, u, _, rfl, h1, u2, _, rfl, h2, h3⟩
end

end Go.Proofs.YthaekebedmoipaaGreatDoor.AM

/- The abstract logic, part 23b: objects that are written no more. -/
set_option linter.unusedVariables false
set_option linter.unusedSimpArgs false
namespace Go.Proofs.YthaekebedmoipaaGreatDoor.AM
open Go Go.RowKit

section
variable {P : Program} {w0 : World} {base N : Nat} {G : Gh} {w : World}

/-- A block becomes a value. -/
def Gh.froze (G : Gh) (o b n : Nat) : Gh := { G with blk := upd G.blk o none, own := upd G.own b none, lim := upd G.lim b n }

theorem froze_ext {o b n : Nat} (hl : G.lim b = 0) : Ext base G w (G.froze o b n) w := by
  refine ⟨Below.refl _ _, fun _ h => h, fun p hp => ?_, fun _ _ => .inl ⟨rfl, rfl, rfl⟩, fun _ _ => rfl, fun b' off u g1 g2 => ⟨?_, g2⟩⟩
  · by_cases e : p = o
    · subst e; exact .inr (upd_same _ _ _)
    · exact .inl (upd_other _ _ _ _ e)
  · show off < upd G.lim b n b'
    by_cases e : b' = b
    · subst e; omega
    · rw [upd_other _ _ _ _ e]; exact g1

theorem froze_inv {s : St} {X : Nat → Option AObj} {o b n : Nat} {x : AObj} (hX : ∀ o, X o ≠ none → s.objs o = none) (hI : Inv w0 base G (s.add X) w) (ho : s.objs o = some x) (hl : G.lim b = 0) (hown : G.own b = some o) :
    Inv w0 base (G.froze o b n) ((s.del o).add X) w := by
  have hX0 : X o = none := by
    cases h : X o with
    | none => rfl
    | some y => have := hX o (by simp [h]); rw [ho] at this; cases this
  refine ⟨hI.old, hI.scope, fun p y hy => ?_, fun b' hb' => ?_, hI.size⟩
  · have hpo : p ≠ o := by
      rintro rfl
      simp [St.add, St.del, hX0] at hy
    have hy' : (s.add X).objs p = some y := by
      simp only [St.add, St.del, if_neg hpo] at hy ⊢; exact hy
    obtain ⟨g1, g2⟩ := hI.objs p y hy'
    refine ⟨g1, objrep_keep (froze_ext hl) ⟨upd_other _ _ _ _ hpo, rfl, rfl, rfl, rfl, fun b' _ hb' => ?_⟩ g2⟩
    have : b' ≠ b := by rintro rfl; rw [hown] at hb'; exact hpo (Option.some.inj hb').symm
    exact ⟨upd_other _ _ _ _ this, upd_other _ _ _ _ this, rfl⟩
  · obtain ⟨g1, g2⟩ := hI.fresh b' hb'
    have : b' ≠ b := by have := hI.own_lt hown; omega
    exact ⟨(upd_other _ _ _ _ this).trans g1, (upd_other _ _ _ _ this).trans g2⟩

theorem frz1_sound {s : St} {X : Nat → Option AObj} {e : Env} {ds : List ADef} {a : Act} (t : Nat) (hX : ∀ o, X o ≠ none → s.objs o = none) (hI : Inv w0 base G (s.add X) w) (hR : RepFr G w N e ds a) :
    (∃ G', Ext base G w G' w ∧ (∀ o, G'.used o → G.used o) ∧ Inv w0 base G' ((frz1 t e s).2.add X) w ∧ RepFr G' w N (frz1 t e s).1 ds a) := by
  have hid : ∃ G', Ext base G w G' w ∧ (∀ o, G'.used o → G.used o) ∧ Inv w0 base G' (s.add X) w ∧ RepFr G' w N e ds a := ⟨G, Ext.refl _ _ _, fun _ h => h, hI, hR⟩
  have hset : ∀ {G' : Gh} {v : AV}, Ext base G w G' w → Rep G' w v (a.tmps.getD t undef) → RepFr G' w N (e.set t v) ds a := by
    intro G' v hE hv
    refine ⟨hR.size, fun i => ?_, repDs_mono hE hR.defers⟩
    by_cases h : i = t
    · subst h; have : (e.set i v) i = v := if_pos rfl
      rw [this]; exact hv
    · have : (e.set t v) i = e i := if_neg h
      rw [this]; exact rep_mono hE _ _ (hR.env i)
  unfold frz1
  split
  · rename_i o heq
    split
    · rename_i T cs ho
      have h1 := hR.env t
      rw [heq] at h1
      obtain ⟨hu, ad, hv, hb⟩ := h1
      obtain ⟨-, b, vs, q1, q2, q3, q4, q5, q6, q7⟩ := hI.objs o _ (add_some (X := X) ho)
      have hE : Ext base G w (G.froze o b cs.length) w := froze_ext q4
      refine ⟨_, hE, fun _ h => h, froze_inv hX hI ho q4 q2, hset hE ?_⟩
      have hlen := repC_length q6
      refine ⟨_, ⟨b, 0, none⟩, repC_mono hE _ _ q6, ?_, ?_⟩
      · refine held_new (n := 0) q5 _ (by rw [hlen]) ?_
        show _ ≤ upd G.lim b cs.length b
        rw [upd_same, hlen]; exact Nat.le_refl _
      · rw [hv, hb b q1]; rfl
    · exact hid
  · rename_i o len heq
    split
    · rename_i ty size cs ho
      have h1 := hR.env t
      rw [heq] at h1
      obtain ⟨hu, ad, c, hv, l1, l2, l3, hb⟩ := h1
      obtain ⟨-, b, vs, q1, q2, q3, q4, q5, q6, q7, q8, q9⟩ := hI.objs o _ (add_some (X := X) ho)
      have hE : Ext base G w (G.froze o b cs.length) w := froze_ext q4
      refine ⟨_, hE, fun _ h => h, froze_inv hX hI ho q4 q2, hset hE ?_⟩
      have hlen := repC_length q6
      refine ⟨_, some ⟨b, 0, none⟩, c, repC_mono hE _ _ q6, ?_, ?_, l1, l2, l3, by simp, by simp, by simp⟩
      · refine held_new (n := 0) q5 _ (by rw [hlen]) ?_
        show _ ≤ upd G.lim b cs.length b
        rw [upd_same, hlen]; exact Nat.le_refl _
      · rw [hv, (hb b q1).1]
    · exact hid
  · exact hid

theorem frz1_next (t : Nat) (e : Env) (s : St) : (frz1 t e s).2.next = s.next := by
  unfold frz1
  split
  · split <;> rfl
  · split <;> rfl
  · rfl
theorem frz1_none (t : Nat) (e : Env) (s : St) (o : Nat) (h : s.objs o = none) : (frz1 t e s).2.objs o = none := by
  unfold frz1
  split
  · split
    · simp only [St.del]; split
      · rfl
      · exact h
    · exact h
  · split
    · simp only [St.del]; split
      · rfl
      · exact h
    · exact h
  · exact h

theorem frzs_sound {X : Nat → Option AObj} {ds : List ADef} {a : Act} : ∀ (ts : List Nat) {G : Gh} {s : St} {e : Env}, (∀ o, X o ≠ none → s.objs o = none) → Inv w0 base G (s.add X) w → RepFr G w N e ds a →
    (∃ G', Ext base G w G' w ∧ (∀ o, G'.used o → G.used o) ∧ Inv w0 base G' ((frzs ts e s).2.add X) w ∧ RepFr G' w N (frzs ts e s).1 ds a)
  | [], G, s, e, hX, hI, hR => ⟨G, Ext.refl _ _ _, fun _ h => h, hI, hR⟩
  | t :: ts, G, s, e, hX, hI, hR => by
    obtain ⟨G1, h1, h2, h3, h4⟩ := frz1_sound t hX hI hR
    obtain ⟨G2, k1, k2, k3, k4⟩ := frzs_sound ts (fun o ho => frz1_none t e s o (hX o ho)) h3 h4
    exact ⟨G2, h1.trans k1, fun o ho => h2 o (k2 o ho), k3, k4⟩
theorem frzs_next : ∀ (ts : List Nat) (e : Env) (s : St), (frzs ts e s).2.next = s.next
  | [], e, s => rfl
  | t :: ts, e, s => (frzs_next ts _ _).trans (frz1_next t e s)
theorem frzs_none : ∀ (ts : List Nat) (e : Env) (s : St) (o : Nat), s.objs o = none → (frzs ts e s).2.objs o = none
  | [], e, s, o, h => h
  | t :: ts, e, s, o, h => frzs_none ts _ _ o (frz1_none t e s o h)

theorem detC_frz {c : Code} {env env' : Env} {ds ds' : List ADef} {st st' : St} {ex : AEx} (ts : List Nat) (h : DetC P w0 base N c env ds st ex env' ds' st') : DetC P w0 base N c env ds st ex (frzs ts env' st').1 ds' (frzs ts env' st').2 where
  next := by rw [frzs_next]; exact h.next
  keep := fun o ho hn => frzs_none ts _ _ o (h.keep o ho hn)
  wp := fun X G w a hX hI hR => by
    have hXs : ∀ o, X o ≠ none → o < st.next := fun o ho => by
      cases hx : X o with
      | none => exact absurd hx ho
      | some x => exact hI.scope o (hI.objs o x (by simp [St.add, hX o ho, hx])).1
    refine wp_mono (h.wp X G w a hX hI hR) ?_
    rintro e a' w' ⟨rfl, G', h1, h2, h3, h4⟩
    obtain ⟨G2, k1, k2, k3, k4⟩ := frzs_sound ts (fun o ho => h.keep o (hXs o ho) (hX o ho)) h3 h4
    exact ⟨rfl, G2, h1.trans k1, fun o ho hu => h2 o ho (k2 o hu), k3, k4⟩

/-! ### code with marks -/
theorem res_skip {c : Code} (h : resCode P N c = some .skip) : c = .skip := by
  cases c <;> simp only [resCode] at h
  · rfl
  all_goals (repeat' split at h) <;> simp_all
theorem res_exit {c : Code} {id : Nat} (h : resCode P N c = some (.exit id)) : c = .exit id := by
  cases c <;> simp only [resCode] at h
  all_goals (repeat' split at h) <;> simp_all
theorem res_ret {c : Code} (h : resCode P N c = some .ret) : c = .ret := by
  cases c <;> simp only [resCode] at h
  all_goals (repeat' split at h) <;> simp_all
theorem res_seq {c : Code} {x y : SCode} (h : resCode P N c = some (.seq x y)) : ∃ a b, c = .seq a b ∧ resCode P N a = some x ∧ resCode P N b = some y := by
  cases c <;> simp only [resCode] at h
  all_goals (repeat' split at h) <;> simp_all
  exact ⟨_, _, ⟨rfl, rfl⟩, ‹_›, ‹_›⟩
theorem res_cond {c : Code} {o : Opd} {x y : SCode} (h : resCode P N c = some (.cond o x y)) : ∃ z a b, c = .cond z a b ∧ resO z = some o ∧ resCode P N a = some x ∧ resCode P N b = some y := by
  cases c <;> simp only [resCode] at h
  all_goals (repeat' split at h) <;> simp_all
  exact ⟨_, _, _, ⟨rfl, rfl, rfl⟩, ‹_›, ‹_›, ‹_›⟩
theorem res_block {c : Code} {id : Nat} {x : SCode} (h : resCode P N c = some (.block id x)) : ∃ a, c = .block id a ∧ resCode P N a = some x := by
  cases c <;> simp only [resCode] at h
  all_goals (repeat' split at h) <;> simp_all
theorem res_loop {c : Code} {x : SCode} (h : resCode P N c = some (.loop x)) : ∃ a, c = .loop a ∧ resCode P N a = some x := by
  cases c <;> simp only [resCode] at h
  all_goals (repeat' split at h) <;> simp_all

/-- Code with marks, stepped through, is what the machine does. -/
theorem awp_marks : ∀ (sc : SCode) (c : Code), resCode P N c = some sc.strip → ∀ (env : Env) (ds : List ADef) (st : St) (Q : CK), awp P w0 base sc env ds st Q → ∃ ex env' ds' st', DetC P w0 base N c env ds st ex env' ds' st' ∧ Q ex env' ds' st'
  | .skip, c, hr, env, ds, st, Q, h => awp_sound c _ hr env ds st Q h
  | .exit id, c, hr, env, ds, st, Q, h => awp_sound c _ hr env ds st Q h
  | .ret, c, hr, env, ds, st, Q, h => awp_sound c _ hr env ds st Q h
  | .reg ss, c, hr, env, ds, st, Q, h => awp_sound c _ hr env ds st Q h
  | .draw ms ord ss, c, hr, env, ds, st, Q, h => awp_sound c _ hr env ds st Q h
  | .frz ts s, c, hr, env, ds, st, Q, h => by
    obtain ⟨ex, e1, d1, s1, h1, h2⟩ := awp_marks s c hr env ds st _ h
    exact ⟨ex, _, d1, _, detC_frz ts h1, h2⟩
  | .seq x y, c, hr, env, ds, st, Q, h => by
    obtain ⟨a, b, rfl, ha, hb⟩ := res_seq hr
    obtain ⟨ex, e1, d1, s1, h1, h2⟩ := awp_marks x a ha env ds st _ h
    cases ex with
    | normal =>
      obtain ⟨ex, e2, d2, s2, h3, h4⟩ := awp_marks y b hb e1 d1 s1 Q h2
      exact ⟨ex, e2, d2, s2, detC_seq h1 h3, h4⟩
    | exit id => exact ⟨_, _, _, _, detC_seq_out (by simp) h1, h2⟩
    | ret => exact ⟨_, _, _, _, detC_seq_out (by simp) h1, h2⟩
  | .cond o x y, c, hr, env, ds, st, Q, h => by
    obtain ⟨z, a, b, rfl, hz, ha, hb⟩ := res_cond hr
    simp only [awp] at h
    split at h
    · rename_i t ht
      cases t with
      | true =>
        rw [if_pos rfl] at h
        obtain ⟨ex, e1, d1, s1, h1, h2⟩ := awp_marks x a ha env ds st _ h
        exact ⟨ex, e1, d1, s1, detC_cond hz ht h1, h2⟩
      | false =>
        rw [if_neg (by simp)] at h
        obtain ⟨ex, e1, d1, s1, h1, h2⟩ := awp_marks y b hb env ds st _ h
        exact ⟨ex, e1, d1, s1, detC_cond hz ht (by simpa using h1), h2⟩
    · exact h.elim
  | .block id x, c, hr, env, ds, st, Q, h => by
    obtain ⟨a, rfl, ha⟩ := res_block hr
    simp only [awp] at h
    obtain ⟨ex, e1, d1, s1, h1, h2⟩ := awp_marks x a ha env ds st _ h
    refine ⟨_, e1, d1, s1, detC_block h1 rfl, ?_⟩
    cases ex with
    | normal => exact h2
    | ret => exact h2
    | exit i =>
      simp only at h2 ⊢
      split
      · rename_i e; rwa [if_pos e] at h2
      · rename_i e; rwa [if_neg e] at h2
  | .loop x, c, hr, env, ds, st, Q, h => by
    obtain ⟨a, rfl, ha⟩ := res_loop hr
    simp only [awp] at h
    obtain ⟨n, h⟩ := h
    exact iter_path (fun env ds st Q hb => awp_marks x a ha env ds st Q hb) n env ds st h
end

end Go.Proofs.YthaekebedmoipaaGreatDoor.AM
