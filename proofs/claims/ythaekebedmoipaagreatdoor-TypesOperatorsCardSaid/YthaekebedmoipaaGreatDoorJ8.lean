/- Part 8 of the proof: F9 F10 F11 F12 F13 F14 F15 F16 F17 A32. -/
import Derived.Test.YthaekebedmoipaaGreatDoorJ7
import Derived.Test.YthaekebedmoipaaGreatDoorJ4
/- Contracts: texts of numbers. -/
set_option linter.unusedVariables false
set_option linter.unusedSimpArgs false
set_option maxRecDepth 100000
namespace Go.Proofs.YthaekebedmoipaaGreatDoor.AM
open Go Go.RowKit
variable {w0 : World} {base : Nat}

theorem w233 {T : TypeId} {rest : List AV} {st : St} {o : Nat} {tk : Option Nat} {txt : Str} (hwf : st.wf) (h : Bd T rest st o tk txt) (hl : liesB T (rest.length + 2)) (c : UInt8) (hlen : txt.length + 1 ≤ 140737488355328) :
    CallW Tryz.prog w0 base 233 [.ptr o 0, vb c] st fun v st' => v = .nilIface ∧ ∃ t', Bd T rest st' o (some t') (txt ++ [c]) ∧ Kp o tk st st' (some t') := by
  obtain ⟨a, p, ha, ho, ht⟩ := h.obj
  have hlt := hwf _ _ ho
  refine callW_fn Tryz.func233 r233 rfl ?_
  unfold b233 vb
  simp -dsimp -implicitDefEqProofs
  refine call_of (d188 (T := T) (a := a) (cs := .sl (bytesAV txt) txt.length p :: rest) (by simp [ho]) ha hl) ?_
  have hbl : (bytesAV txt).length = txt.length := by simp [bytesAV]
  have happ : bytesAV (txt ++ [c]) = bytesAV txt ++ [AV.int .u8 c.toNat] := by simp [bytesAV]
  cases tk with
  | none =>
    obtain ⟨rfl, rfl⟩ := ht
    simp -dsimp -implicitDefEqProofs [hlt, old_ne, old_ne0, new_ne, hbl, big]
    refine hold ⟨rfl, st.next + 10, ⟨.ptr o 0, .tok (st.next + 10), .inr rfl, by simp [bytesAV, hlt, old_ne], rfl, by omega, by simp [hlt, new_ne, old_ne]⟩, ⟨by simp, fun q hq h1 h2 => by simp [h1, hq, old_ne], .inr ⟨_, rfl, by omega⟩, ?_⟩⟩
    refine wf_put (wf_put (wf_put (wf_bump hwf) ?_) ?_) ?_ <;> simp <;> omega
  | some t =>
    obtain ⟨rfl, e2, e3⟩ := ht
    have hlt' := hwf _ _ e3
    simp -dsimp -implicitDefEqProofs [hlt, old_ne, old_ne0, new_ne, hbl, hlen, big, e2, e3, Ne.symm e2]
    refine hold ⟨rfl, t, ⟨.ptr o 0, .tok t, .inr rfl, by simp [happ], rfl, e2, by simp [e2]⟩, ⟨by simp, fun q hq h1 h2 => ?_, .inl rfl, ?_⟩⟩
    · have : q ≠ t := fun e => h2 (by rw [e])
      simp [h1, this]
    · refine wf_put (wf_put (wf_put (wf_bump hwf) ?_) ?_) ?_ <;> simp <;> omega

def truthW : Bool → Str
  | true => [116, 114, 117, 101]
  | false => [102, 97, 108, 115, 101]
theorem d235 (st : St) (b : Bool) : Det Tryz.prog w0 base 235 [.bool b] st (.str (truthW b)) st := by
  refine det_self (enters_fn Tryz.func235 r235) fun hwf hfit => det_fn Tryz.func235 r235 rfl ?_
  unfold b235
  cases b
  all_goals
    simp -dsimp -implicitDefEqProofs
    exact fin_bump hwf (by simp [eraseA, truthW])
theorem d219 (st : St) (b : Bool) : Det Tryz.prog w0 base 219 [.bool b] st (.str (truthW b)) st := by
  refine det_self (enters_fn Tryz.func219 r219) fun hwf hfit => det_fn Tryz.func219 r219 rfl ?_
  unfold b219
  simp -dsimp -implicitDefEqProofs
  refine call_of (d235 _ b) ?_
  simp -dsimp -implicitDefEqProofs
  exact fin_bump hwf (by simp [eraseA])
theorem d234 (hT : Tabs w0 base) (st : St) (n : Int) (h0 : -9223372036854775808 ≤ n) (h1 : n ≤ 9223372036854775807) : Det Tryz.prog w0 base 234 [.int .i64 n, .int .i64 10] st (.str (Lib.itoa n)) st := by
  refine det_self (enters_fn Tryz.func234 r234) fun hwf hfit => det_fn Tryz.func234 r234 rfl ?_
  unfold b234
  simp -dsimp -implicitDefEqProofs
  refine call_of (d192 hT _ n h0 h1) ?_
  simp -dsimp -implicitDefEqProofs
  exact fin_bump hwf (by simp [eraseA])

/-- The digits of a fraction of 2^16 parts. -/
def fracP : Nat → Nat → Str
  | 0, _ => []
  | f + 1, r => UInt8.ofNat (48 + r * 10 / 65536) :: (if r * 10 % 65536 = 0 then [] else fracP f (r * 10 % 65536))
def fixedP (n : Int) : Str := (if n < 0 then [45] else []) ++ (Lib.itoa (n.natAbs / 65536 : Nat) ++ ([46] ++ fracP 17 (n.natAbs % 65536)))
/-- A builder of a function's own. -/
structure Lb (st : St) (o : Nat) (tk : Option Nat) (txt : Str) (s : St) : Prop where
  wf : s.wf
  bd : Bd 177 [] s o tk txt
  old : ∀ p, p < st.next → s.objs p = st.objs p
  own : st.next ≤ o
  tok : ∀ t, tk = some t → st.next ≤ t
  next : st.next ≤ s.next
theorem lies177 : liesB 177 2 := by unfold liesB; kernel_rfl
theorem lb_bump {st s : St} {o : Nat} {tk : Option Nat} {txt : Str} (h : Lb st o tk txt s) (k : Nat) : Lb st o tk txt (s.bump k) :=
  ⟨wf_bump h.wf, bd_bump h.bd k, h.old, h.own, h.tok, Nat.le_trans h.next (Nat.le_add_right _ _)⟩
theorem lb_kp {st s s' : St} {o : Nat} {tk t' : Option Nat} {txt txt' : Str} (h : Lb st o tk txt s) (hb : Bd 177 [] s' o t' txt') (k : Kp o tk s s' t') : Lb st o t' txt' s' := by
  refine ⟨k.wf, hb, fun p hp => ?_, h.own, fun t e => ?_, Nat.le_trans h.next k.next⟩
  · rw [k.same p (Nat.lt_of_lt_of_le hp h.next) (by have := h.own; omega) (fun e => by have := h.tok p e.symm; omega)]
    exact h.old p hp
  · rcases k.tok with e' | ⟨q, e', hq⟩
    · exact h.tok t (e' ▸ e)
    · rw [e'] at e; cases e; exact Nat.le_trans h.next hq
theorem lb_byte {st s : St} {o : Nat} {tk : Option Nat} {txt : Str} {args : List AV} {K : AV → St → Prop} {l : Lock K} (h : Lb st o tk txt s) (c : UInt8) (e : AV.bareL args = [.ptr o 0, vb c]) (hlen : txt.length + 1 ≤ 140737488355328)
    (hk : ∀ s' t', Lb st o (some t') (txt ++ [c]) s' → K .nilIface s') : CallL Tryz.prog w0 base 233 args s K l := by
  refine call_then (w233 h.wf h.bd lies177 c hlen) e ?_
  rintro v s' ⟨rfl, t', h1, h2⟩
  exact hk s' t' (lb_kp h h1 h2)
theorem lb_str {st s : St} {o : Nat} {tk : Option Nat} {txt : Str} {args : List AV} {K : AV → St → Prop} {l : Lock K} (h : Lb st o tk txt s) (x : Str) (e : AV.bareL args = [.ptr o 0, .str x]) (hlen : txt.length + x.length ≤ 140737488355328)
    (hk : ∀ s' t', Lb st o t' (txt ++ x) s' → K (.tuple [.int .i64 x.length, .nilIface]) s') : CallL Tryz.prog w0 base 153 args s K l := by
  refine call_then (w153 h.wf h.bd lies177 x hlen) e ?_
  rintro v s' ⟨rfl, t', h1, h2⟩
  exact hk s' t' (lb_kp h h1 h2)
theorem lb_end {st s : St} {o t : Nat} {txt : Str} {args : List AV} {K : AV → St → Prop} {l : Lock K} (h : Lb st o (some t) txt s) (e : AV.bareL args = [.ptr o 0]) (hne : txt ≠ [])
    (hk : (∀ p, p < st.next → (s.del t).objs p = st.objs p) → K (.str txt) (s.del t)) : CallL Tryz.prog w0 base 131 args s K l := by
  refine call_bare (d131 h.bd hne) e (hk fun p hp => ?_)
  have := h.tok t rfl
  rw [del_objs, if_neg (by omega)]
  exact h.old p hp

theorem and_low (n q r : Nat) (h : n < 9223372036854775808) (e : n = q * 65536 + r) (hr : r < 65536) : IntKind.i64.wrap ((n % 2 ^ IntKind.i64.bits &&& 65535 % 2 ^ IntKind.i64.bits : Nat) : Int) = (r : Int) := by
  have e1 : n % 2 ^ IntKind.i64.bits = n := Nat.mod_eq_of_lt (by simp [IntKind.bits]; omega)
  have e2 : 65535 % 2 ^ IntKind.i64.bits = 65535 := by decide
  rw [e1, e2, show (65535 : Nat) = 2 ^ 16 - 1 from rfl, Nat.and_two_pow_sub_one_eq_mod, show n % 2 ^ 16 = r by omega]
  exact wrap_i64 (by omega) (by omega)
theorem shr_16 (n q r : Nat) (e : n = q * 65536 + r) (hr : r < 65536) : ((n : Int).fdiv (2 ^ min 16 IntKind.i64.bits)) = (q : Int) := by
  rw [show min 16 IntKind.i64.bits = 16 from rfl, Int.fdiv_eq_ediv_of_nonneg _ (by decide)]
  omega
theorem frac_len : ∀ (f r : Nat), (fracP f r).length ≤ f
  | 0, r => by simp [fracP]
  | f + 1, r => by
    simp only [fracP, List.length_cons]
    split
    · simp
    · have := frac_len f (r * 10 % 65536); omega

def b218r : SCode := (.seq (.reg [m 11 0, ⟨(some 12), none, (.pe (.bin .int .shr (t 11) (.lit (.int .u64 16))))⟩, ⟨(some 13), none, (.call 234 [(t 12), (i 10)])⟩, ⟨(some 14), none, (.call 153 [(t 3), (t 13)])⟩]) (.seq (.reg [⟨(some 15), none, (.call 233 [(t 3), (.lit (.int .u8 46))])⟩]) (.seq (.seq (.reg [m 16 0, ⟨(some 17), none, (.pe (.bin .int .and (t 16) (i 65535)))⟩, m 4 17, ⟨(some 5), none, (.pe (.mov (.lit (.bool true))))⟩]) (.block 0 (.loop l218_0))) (.seq (.reg [⟨(some 32), none, (.call 131 [(t 3)])⟩, m 2 32]) .ret))))
theorem frac_go (f r : Nat) : fracP (f + 1) r = UInt8.ofNat (48 + r * 10 / 65536) :: (if r * 10 % 65536 = 0 then [] else fracP f (r * 10 % 65536)) := rfl
theorem pow_step (j r : Nat) (hj : j ≤ 15) (h : 2 ^ j ∣ r) : 2 ^ (j + 1) ∣ r * 10 % 65536 := by
  have h1 : 2 ^ (j + 1) ∣ 65536 := ⟨2 ^ (15 - j), by rw [← Nat.pow_add, show j + 1 + (15 - j) = 16 by omega]⟩
  refine (Nat.dvd_mod_iff h1).2 ?_
  rw [Nat.pow_succ, show r * 10 = r * 2 * 5 by omega]
  exact Nat.dvd_mul_right_of_dvd (Nat.mul_dvd_mul_right h 2) 5
theorem pow_big (j r : Nat) (hr : r < 65536) (h : 2 ^ j ∣ r) (h0 : 0 < r) : j ≤ 15 := by
  have := Nat.le_of_dvd h0 h
  rcases Nat.lt_or_ge 15 j with h1 | h1
  · have : 2 ^ 16 ≤ 2 ^ j := Nat.pow_le_pow_right (by omega) h1
    omega
  · exact h1
/-- What holds at the head of a round: the rest, whether it is the first, what is still to be written. -/
def InFrac (st : St) (o : Nat) (all : Str) (k : Nat) (e : Env) (s : St) : Prop := ∃ (j r : Nat) (fst : Bool) (t : Nat) (txt : Str), j + k = 17 ∧ e 4 = .int .i64 r ∧ e 5 = .bool fst ∧ r < 65536 ∧ 2 ^ j ∣ r ∧ (fst = true → j = 0) ∧
  txt ++ (if fst = true ∨ 0 < r then fracP k r else []) = all ∧ Lb st o (some t) txt s
theorem m218 (hT : Tabs w0 base) {st s : St} {o : Nat} {tk : Option Nat} {txt : Str} {e : Env} {out : Str} {n q r : Nat} (hwf : st.wf) (hb : Lb st o tk txt s) (hl : txt.length ≤ 10) (hn : n ≤ 2147483648) (hq : n = q * 65536 + r) (hr : r < 65536) (e0 : e 0 = .int .i64 n) (e3 : e 3 = .ptr o 0)
    (hout : out = txt ++ (Lib.itoa q ++ ([46] ++ fracP 17 r))) : awp Tryz.prog w0 base b218r e [] s (Ends Tryz.prog w0 base [SRes.tmp 2] st (AV.str out) st) := by
  have hfit := itoa_fit (q : Int) (by omega) (by omega)
  have hlen : out.length ≤ 100 := by
    have := frac_len 17 r
    rw [hout]; simp; omega
  unfold b218r
  simp -dsimp -implicitDefEqProofs [e0, e3, shr_16 n q r hq hr]
  refine call_of (d234 hT _ (q : Int) (by omega) (by omega)) ?_
  simp -dsimp -implicitDefEqProofs [e0, e3]
  refine lb_str (lb_bump hb _) (Lib.itoa q) (by simp [AV.bareL, AV.bare]) (by omega) fun s1 t1 h1 => ?_
  simp -dsimp -implicitDefEqProofs [e0, e3]
  refine lb_byte (lb_bump h1 _) 46 (by simp [AV.bareL, AV.bare, vb]) (by simp; omega) fun s2 t2 h2 => ?_
  simp -dsimp -implicitDefEqProofs [e0, e3, and_low n q r (by omega) hq hr]
  refine loop_by (fun k e s => InFrac st o out k e s) 17 ⟨0, r, true, t2, _, rfl, by simp, by simp, hr, ⟨r, by simp⟩, fun _ => rfl, by simp [hout], lb_bump h2 _⟩ rfl ?_
  rintro k e' s' hf ⟨j, r, fst, t, txt, hj, e4, e5, hr, hd, hfst, hall, hlb⟩
  have e3' : e' 3 = .ptr o 0 := by rw [hf 3 rfl]; simp [e3]
  have hend : fst = false → r = 0 → txt = out := by rintro rfl rfl; simpa using hall
  have go : (fst = true ∨ 0 < r) → ∃ d r' k', r * 10 = d * 65536 + r' ∧ r' < 65536 ∧ d < 10 ∧ k = k' + 1 ∧ 2 ^ (j + 1) ∣ r' ∧ txt ++ [UInt8.ofNat (48 + d)] ++ (if 0 < r' then fracP k' r' else []) = out := by
    intro h
    obtain ⟨k', rfl⟩ : ∃ k', k = k' + 1 := by
      refine ⟨k - 1, ?_⟩
      rcases h with h | h
      · have := hfst h; omega
      · have := pow_big j r hr hd h; omega
    have hj15 : j ≤ 15 := by
      rcases h with h | h
      · have := hfst h; omega
      · exact pow_big j r hr hd h
    refine ⟨r * 10 / 65536, r * 10 % 65536, k', by omega, by omega, by omega, rfl, pow_step j r hj15 hd, ?_⟩
    rw [if_pos h, frac_go] at hall
    rw [← hall]
    by_cases h0 : r * 10 % 65536 = 0
    · simp [h0]
    · simp [h0, Nat.pos_of_ne_zero h0]
  unfold l218_0
  by_cases hor : fst = true ∨ 0 < r
  · obtain ⟨d, r', k', g1, g2, g3, rfl, g5, g6⟩ := go hor
    have w1 : IntKind.i64.wrap ((r : Int) * 10) = ((r * 10 : Nat) : Int) := wrap_i64 (by omega) (by omega)
    have w2 := shr_16 (r * 10) d r' g1 g2
    have w3 := and_low (r * 10) d r' (by omega) g1 g2
    have w4 : IntKind.i64.wrap (48 + (d : Int)) = ((48 + d : Nat) : Int) := wrap_i64 (by omega) (by omega)
    have w5 : IntKind.u8.wrap ((48 + d : Nat) : Int) = ((48 + d : Nat) : Int) := by simp [IntKind.wrap, IntKind.signed, IntKind.bits]; omega
    have w6 : ((UInt8.ofNat (48 + d)).toNat : Int) = ((48 + d : Nat) : Int) := by simp; omega
    generalize hc : UInt8.ofNat (48 + d) = c at *
    generalize hm : r * 10 = m10 at *
    generalize hx : 48 + d = x at *
    have hlen2 : txt.length + 1 ≤ 100 := by
      have := congrArg List.length g6
      simp only [List.length_append, List.length_singleton] at this
      omega
    have fin : ∀ (e2 : Env) (s3 : St) (t3 k2 : Nat), Lb st o (some t3) (txt ++ [c]) s3 → e2 4 = .int .i64 r' → e2 5 = .bool false → Hold (∃ m, m < k' + 1 ∧ InFrac st o out m e2 (s3.bump k2)) .mk := by
      intro e2 s3 t3 k2 q1 q2 q3
      exact hold ⟨k', by omega, j + 1, r', false, t3, _, by omega, q2, q3, g2, g5, by simp, by simpa using g6, lb_bump q1 _⟩
    rcases fst with _ | _
    · have hr0 : 0 < r := by simpa using hor
      simp -dsimp -implicitDefEqProofs [e4, e5, e3', hr0, w1, w2, w4, w5]
      refine lb_byte (lb_bump hlb _) c (by simp [AV.bareL, AV.bare, vb, w6]) (by omega) fun s3 t3 h3 => ?_
      simp -dsimp -implicitDefEqProofs [e4, e5, e3', w3]
      exact fin _ _ _ _ (lb_bump h3 _) (by simp) (by simp)
    · simp -dsimp -implicitDefEqProofs [e4, e5, e3', w1, w2, w4, w5]
      refine lb_byte (lb_bump hlb _) c (by simp [AV.bareL, AV.bare, vb, w6]) (by omega) fun s3 t3 h3 => ?_
      simp -dsimp -implicitDefEqProofs [e4, e5, e3', w3]
      exact fin _ _ _ _ (lb_bump h3 _) (by simp) (by simp)
  · obtain ⟨hf0, hr0⟩ : fst = false ∧ r = 0 := by simpa using hor
    have hto := hend hf0 hr0
    subst hf0; subst hr0
    simp -dsimp -implicitDefEqProofs [e4, e5, e3']
    have hne : txt ≠ [] := by rw [hto, hout]; simp
    refine lb_end (lb_bump hlb _) (by simp [AV.bareL, AV.bare, e3']) hne fun hold' => ?_
    simp -dsimp -implicitDefEqProofs [e4, e5, e3']
    refine fin_pure hwf (fun p hp => ?_) (by simp [eraseA, hto])
    simpa using hold' p hp
theorem d218 (hT : Tabs w0 base) (st : St) (n : Int) (h0 : -2147483648 ≤ n) (h1 : n ≤ 2147483647) : Det Tryz.prog w0 base 218 [.int .i64 n] st (.str (fixedP n)) st := by
  refine det_self (enters_fn Tryz.func218 r218) fun hwf hfit => det_fn Tryz.func218 r218 rfl ?_
  have hb0 : Lb st (st.next + 1) none [] ((st.bump 2).put (st.next + 1) (AObj.cells 177 [AV.nilp, AV.sl [] 0 Perm.full])) :=
    ⟨wf_put (wf_bump hwf) (by simp), ⟨.nilp, .full, .inl rfl, by simp [bytesAV], rfl, rfl⟩, fun p hp => by simp [hp, old_ne], by omega, by simp, by simp⟩
  unfold b218
  simp -dsimp -implicitDefEqProofs
  refine Br_iff (fun hb => ?_) (fun hb => ?_)
  · have hn : n < 0 := by simpa using hb
    rw [awp_seq]
    simp -dsimp -implicitDefEqProofs [-awp_seq, wrap_i64 (n := -n) (by omega) (by omega)]
    refine lb_byte (txt := []) (lb_bump hb0 6) 45 (by simp [AV.bareL, AV.bare, vb]) (by simp) fun s1 t1 h1 => ?_
    simp -dsimp -implicitDefEqProofs [-awp_seq]
    exact m218 hT hwf h1 (by simp) (n := n.natAbs) (q := n.natAbs / 65536) (r := n.natAbs % 65536) (by omega) (by omega) (by omega) (by simp; omega) (by simp) (by simp [fixedP, hn])
  · have hn : ¬ n < 0 := by simpa using hb
    simp -dsimp -implicitDefEqProofs [-awp_seq]
    exact m218 hT hwf (lb_bump hb0 2) (by simp) (n := n.natAbs) (q := n.natAbs / 65536) (r := n.natAbs % 65536) (by omega) (by omega) (by omega) (by simp; omega) (by simp) (by simp [fixedP, hn])

def textP (t v : Int) : Option Str := if t = 1 then some (Lib.itoa v) else if t = 2 then some (fixedP v) else if t = 3 ∧ (v = 0 ∨ v = 1) then some (truthW (v == 1)) else none
theorem d197 (hT : Tabs w0 base) (st : St) (t v : Int) (h0 : -2147483648 ≤ v) (h1 : v ≤ 2147483647) : Det Tryz.prog w0 base 197 [vi t, .int .i32 v] st (.tuple [.str ((textP t v).getD []), vi (if (textP t v).isSome then 0 else 1)]) st := by
  refine det_self (enters_fn Tryz.func197 r197) fun hwf hfit => det_fn Tryz.func197 r197 rfl ?_
  have hw := wrap_i64 (n := v) (by omega) (by omega)
  unfold b197
  simp -dsimp -implicitDefEqProofs [hw]
  refine Br_iff (fun hb => ?_) (fun hb => ?_)
  · have : t = 1 := by simpa using hb
    simp -dsimp -implicitDefEqProofs [hw]
    refine call_of (d124 hT _ v (by omega) (by omega)) ?_
    simp -dsimp -implicitDefEqProofs [hw]
    exact fin_bump hwf (by simp [eraseA, eraseL, textP, this])
  have ht1 : ¬ t = 1 := by simpa using hb
  simp -dsimp -implicitDefEqProofs [hw, hb]
  refine Br_iff (fun hb => ?_) (fun hb => ?_)
  · have : t = 2 := by simpa using hb
    simp -dsimp -implicitDefEqProofs [hw]
    refine call_of (d218 hT _ v (by omega) (by omega)) ?_
    simp -dsimp -implicitDefEqProofs [hw]
    exact fin_bump hwf (by simp [eraseA, eraseL, textP, this])
  have ht2 : ¬ t = 2 := by simpa using hb
  simp -dsimp -implicitDefEqProofs [hw, hb]
  refine Br_iff (fun hb => ?_) (fun hb => ?_)
  · have ht3 : t = 3 := by simpa using hb
    subst ht3
    simp -dsimp -implicitDefEqProofs [hw]
    refine Br_iff (fun hc => ?_) (fun hc => ?_)
    · have hv : v = 0 := by simpa using hc
      subst hv
      simp -dsimp -implicitDefEqProofs [hw]
      refine call_of (d219 _ false) ?_
      simp -dsimp -implicitDefEqProofs [hw]
      exact fin_bump hwf (by simp [eraseA, eraseL, textP])
    · have hv : ¬ v = 0 := by simpa using hc
      simp -dsimp -implicitDefEqProofs [hw, hc]
      refine Br_iff (fun hd => ?_) (fun hd => ?_)
      · have hv1 : v = 1 := by simpa using hd
        subst hv1
        simp -dsimp -implicitDefEqProofs [hw]
        refine call_of (d219 _ true) ?_
        simp -dsimp -implicitDefEqProofs [hw]
        exact fin_bump hwf (by simp [eraseA, eraseL, textP])
      · have hv1 : ¬ v = 1 := by simpa using hd
        simp -dsimp -implicitDefEqProofs [hw, hc, hd]
        exact fin_bump hwf (by simp [eraseA, eraseL, textP, hv, hv1])
  · have ht3 : ¬ t = 3 := by simpa using hb
    simp -dsimp -implicitDefEqProofs [hw, hb]
    exact fin_bump hwf (by simp [eraseA, eraseL, textP, ht1, ht2, ht3])
end Go.Proofs.YthaekebedmoipaaGreatDoor.AM

/- Contracts: the printer's texts of expressions. -/
set_option linter.unusedVariables false
set_option linter.unusedSimpArgs false
set_option maxRecDepth 100000
namespace Go.Proofs.YthaekebedmoipaaGreatDoor.AM
open Go Go.RowKit
variable {w0 : World} {base : Nat}

theorem pc_len {st0 : St} {tk0 : Option Nat} {o : Nat} {goal : Str × Bool} {rest : List (Str × Bool)} {s : St} (h : Pc st0 tk0 o goal rest s) : (cats rest).1.length ≤ 140737488355328 := by
  obtain ⟨tk, txt, bad, h1, h2, h3, h4⟩ := h.ex
  have := h.len
  rw [← h3, List.length_append] at this
  omega

/-- Pieces with commas between them, from the i-th on. -/
def commas : Nat → List (Str × Bool) → List (Str × Bool)
  | _, [] => []
  | 0, x :: l => x :: commas 1 l
  | i + 1, x :: l => ([44, 32], false) :: x :: commas (i + 2) l
def listP (r : List (Str × Bool)) : Str × Bool := cats (([40], false) :: (commas 0 r ++ [([41], false)]))
theorem commas_len : ∀ (l : List (Str × Bool)) (i : Nat), l.length ≤ (cats (commas i l)).1.length + 1 ∧ (0 < i → l.length ≤ (cats (commas i l)).1.length)
  | [], i => by cases i <;> simp [commas]
  | x :: l, 0 => by
    have := (commas_len l 1).2 (by omega)
    simp [commas, cat]; omega
  | x :: l, i + 1 => by
    have := (commas_len l (i + 2)).2 (by omega)
    simp [commas, cat]; omega
theorem listP_len (r : List (Str × Bool)) : r.length ≤ (listP r).1.length := by
  have := (commas_len r 0).1
  simp [listP, cats_app, cat]; omega

mutual
theorem Ex.bare_cells : ∀ e : Ex, AV.bareL e.cells = e.cells
  | .mk k o t n v a => by simp only [Ex.cells, AV.bareL, AV.bare, Ex.bare_cellsL a]
theorem Ex.bare_cellsL : ∀ l : List Ex, AV.bareL (Ex.cellsL l) = Ex.cellsL l
  | [] => by simp [Ex.cellsL, AV.bareL]
  | e :: l => by rw [Ex.cellsL, bareL_append, Ex.bare_cells e, Ex.bare_cellsL l]
end

theorem wr_list (o : Nat) (a : List Ex) (out : Ex → Str × Bool) (h : ∀ x ∈ a, Wr w0 base 161 o [.agg x.cells] (out x)) : Wr w0 base 200 o [.sl (Ex.cellsL a) a.length .no] (listP (a.map out)) := by
  refine wr_intro _ rfl fun st tk goal hn0 hn p0 => callW_fn Tryz.func200 r200 rfl ?_
  have hlen : a.length ≤ 140737488355328 := by
    have h1 := pc_len p0
    have h2 := listP_len (a.map out)
    simp only [listP, List.length_map] at h1 h2
    omega
  have hrow := fun j x => @rowOf_at _ Ex.cells 6 Ex.cells_len a j x
  have hle := fun j x => @rowOf_le _ Ex.cells 6 Ex.cells_len a j x
  rw [Ex.cellsL_row] at *
  generalize rowOf Ex.cells a = ca at *
  unfold b200
  simp -dsimp -implicitDefEqProofs [hn0, hn, del_none]
  refine call_wr (wr_put o [[40]] (by simp)) (by simp [AV.bareL, AV.bare, strs]) (pc_bump p0 _) fun s1 f1 g1 p1 => ?_
  simp -dsimp -implicitDefEqProofs [f1, g1, del_none]
  refine range_by (d := 12) (x := 11) (n := 10) (y := 24) a.length (fun j e s => Pc st tk o goal (commas j ((a.map out).drop j) ++ [([41], false)]) s) hlen rfl rfl (pc_bump p1 _) rfl (fun j e e' s k h _ => pc_bump h k) ?_ ?_
  · rintro j e s hj hf hx hI
    have e9 := hf 9 rfl
    have e0 := hf 0 rfl
    simp at e9 e0
    obtain ⟨y, hy⟩ : ∃ y, a[j]? = some y := ⟨_, List.getElem?_eq_getElem hj⟩
    have hr := hrow j y hy
    have hl := hle j y hy
    have hyl := Ex.cells_len y
    have hwy := h y (List.mem_of_getElem? hy)
    have hyt : y.cells.take 6 = y.cells := List.take_of_length_le (by omega)
    have hyb := Ex.bare_cells y
    generalize y.cells = yc at *
    have q0 := wf_none0 hI.wf
    have q := wf_none hI.wf
    have hdrop : (a.map out).drop j = out y :: (a.map out).drop (j + 1) := by
      have hj' : j < (a.map out).length := by simpa using hj
      have hy' : a[j] = y := by simpa [hj] using hy
      rw [List.drop_eq_getElem_cons hj', List.getElem_map, hy']
    rw [hdrop] at hI
    simp -dsimp -implicitDefEqProofs [e9, e0, hx, hj, hr, hl, hyl, q0, q, del_none, hyt]
    cases j with
    | zero =>
      simp -dsimp -implicitDefEqProofs [e0, q0, q, del_none, hyt, hyl]
      refine call_wr hwy (by simp [AV.bareL, AV.bare, e0, hyb]) (pc_bump hI _) fun s1 f1 g1 p1 => ?_
      simp -dsimp -implicitDefEqProofs [f1, g1, del_none]
      exact hold p1
    | succ j =>
      simp -dsimp -implicitDefEqProofs [e0, q0, q, del_none, hyt, hyl]
      refine call_wr (wr_put o [[44, 32]] (by simp)) (by simp [AV.bareL, AV.bare, strs, e0]) (pc_bump hI _) fun s1 f1 g1 p1 => ?_
      simp -dsimp -implicitDefEqProofs [e0, f1, g1, del_none, hyt, hyl]
      refine call_wr hwy (by simp [AV.bareL, AV.bare, e0, hyb]) (pc_bump p1 _) fun s2 f2 g2 p2 => ?_
      simp -dsimp -implicitDefEqProofs [f2, g2, del_none]
      exact hold p2
  · rintro e s hf hI
    have e0 := hf 0 rfl
    simp at e0
    have hI' : Pc st tk o goal [([41], false)] s := by simpa [commas, List.drop_of_length_le] using hI
    simp -dsimp -implicitDefEqProofs [e0]
    refine call_wr (wr_put o [[41]] (by simp)) (by simp [AV.bareL, AV.bare, strs]) (pc_bump hI' _) fun s1 f1 g1 p1 => ?_
    simp -dsimp -implicitDefEqProofs [f1, g1, del_none]
    exact pc_end0 p1
end Go.Proofs.YthaekebedmoipaaGreatDoor.AM

/- Contracts: the printer's texts of expressions, continued. -/
set_option linter.unusedVariables false
set_option linter.unusedSimpArgs false
set_option maxRecDepth 100000
namespace Go.Proofs.YthaekebedmoipaaGreatDoor.AM
open Go Go.RowKit
variable {w0 : World} {base : Nat}

def lit (s : Str) : Str × Bool := (s, false)
def subW (a b : Int) : Int := IntKind.i64.wrap (a - b)
def binP (op : Int) (x y : Str × Bool) : Str × Bool := if op = 22 ∨ op = 23 then cats [pickP wChoices (subW op 22), listP [x, y]] else cats [([40], false), x, ([32], false), pickP wBinaries (subW op 10), ([32], false), y, ([41], false)]
theorem wr_binary (o : Nat) (k op t : Int) (n : Str) (v : Int) (x y : Ex) (out : Ex → Str × Bool) (h : ∀ z ∈ [x, y], Wr w0 base 161 o [.agg z.cells] (out z)) :
    Wr w0 base 201 o [.agg [vi k, vi op, vi t, .str n, .int .i32 v, .sl (Ex.cellsL [x, y]) 2 .no]] (binP op (out x) (out y)) := by
  have hl := wr_list o [x, y] out h
  have hx := h x (by simp)
  have hy := h y (by simp)
  have e1 : (Ex.cellsL [x, y]).take 6 = x.cells := by simp [Ex.cellsL, List.take_append, List.take_of_length_le]
  have e2 : ((Ex.cellsL [x, y]).drop 6).take 6 = y.cells := by simp [Ex.cellsL, List.drop_append, List.take_of_length_le]
  have e3 : (Ex.cellsL [x, y]).length = 12 := by simp [Ex.cellsL]
  have bx := Ex.bare_cells x
  have by' := Ex.bare_cells y
  have bl := Ex.bare_cellsL [x, y]
  simp only [List.length_cons, List.length_nil, List.map_cons, List.map_nil] at hl
  generalize x.cells = xc at *
  generalize y.cells = yc at *
  generalize Ex.cellsL [x, y] = ca at *
  by_cases hop : op = 22 ∨ op = 23
  · refine wr_intro [pickP wChoices (subW op 22), listP [out x, out y]] (by simp only [binP, if_pos hop]) fun st tk goal hn0 hn p0 => callW_fn Tryz.func201 r201 rfl ?_
    unfold b201
    rcases hop with rfl | rfl
    all_goals
      simp -dsimp -implicitDefEqProofs [hn0, hn, del_none]
      refine call_of (d220 _) ?_
      simp -dsimp -implicitDefEqProofs [hn0, hn, del_none]
      refine call_wr (wr_pick o wChoices _) (by simp [AV.bareL, AV.bare, bare_210, subW, wChoices, strs]) (pc_bump p0 _) fun s1 f1 g1 p1 => ?_
      simp -dsimp -implicitDefEqProofs [f1, g1, del_none]
      refine call_wr hl (by simp [AV.bareL, AV.bare, bl]) (pc_bump p1 _) fun s2 f2 g2 p2 => ?_
      simp -dsimp -implicitDefEqProofs [f2, g2, del_none]
      exact pc_end0 p2
  · refine wr_intro [([40], false), out x, ([32], false), pickP wBinaries (subW op 10), ([32], false), out y, ([41], false)] (by simp only [binP, if_neg hop]) fun st tk goal hn0 hn p0 => callW_fn Tryz.func201 r201 rfl ?_
    unfold b201
    have hop1 : ¬ op = 22 := fun e => hop (.inl e)
    have hop2 : ¬ op = 23 := fun e => hop (.inr e)
    have hb1 : (op == 22) = false := by simpa using hop1
    have hb2 : (op == 23) = false := by simpa using hop2
    simp -dsimp -implicitDefEqProofs [hn0, hn, del_none, hb1, hb2]
    refine call_wr (wr_put o [[40]] (by simp)) (by simp [AV.bareL, AV.bare, strs]) (pc_bump p0 _) fun s1 f1 g1 p1 => ?_
    simp -dsimp -implicitDefEqProofs [f1, g1, del_none, e1, e3]
    refine call_wr hx (by simp [AV.bareL, AV.bare, bx]) (pc_bump p1 _) fun s2 f2 g2 p2 => ?_
    simp -dsimp -implicitDefEqProofs [f2, g2, del_none]
    refine call_wr (wr_put o [[32]] (by simp)) (by simp [AV.bareL, AV.bare, strs]) (pc_bump p2 _) fun s3 f3 g3 p3 => ?_
    simp -dsimp -implicitDefEqProofs [f3, g3, del_none]
    refine call_of (d221 _) ?_
    simp -dsimp -implicitDefEqProofs [f3, g3, del_none]
    refine call_wr (wr_pick o wBinaries _) (by simp [AV.bareL, AV.bare, bare_210, subW, wBinaries, strs]) (pc_bump p3 _) fun s4 f4 g4 p4 => ?_
    simp -dsimp -implicitDefEqProofs [f4, g4, del_none]
    refine call_wr (wr_put o [[32]] (by simp)) (by simp [AV.bareL, AV.bare, strs]) (pc_bump p4 _) fun s5 f5 g5 p5 => ?_
    simp -dsimp -implicitDefEqProofs [f5, g5, del_none, e2, e3]
    refine call_wr hy (by simp [AV.bareL, AV.bare, by']) (pc_bump p5 _) fun s6 f6 g6 p6 => ?_
    simp -dsimp -implicitDefEqProofs [f6, g6, del_none]
    refine call_wr (wr_put o [[41]] (by simp)) (by simp [AV.bareL, AV.bare, strs]) (pc_bump p6 _) fun s7 f7 g7 p7 => ?_
    simp -dsimp -implicitDefEqProofs [f7, g7, del_none]
    exact pc_end0 p7

theorem wr_index (o : Nat) (x : Ex) (out : Str × Bool) (h : Wr w0 base 161 o [.agg x.cells] out) : Wr w0 base 202 o [.agg x.cells] (cats [([91], false), out, ([93], false)]) := by
  refine wr_intro _ rfl fun st tk goal hn0 hn p0 => callW_fn Tryz.func202 r202 rfl ?_
  have bx := Ex.bare_cells x
  have hl := Ex.cells_len x
  have ht : x.cells.take 6 = x.cells := List.take_of_length_le (by omega)
  generalize x.cells = xc at *
  unfold b202
  simp -dsimp -implicitDefEqProofs [hn0, hn, del_none]
  refine call_wr (wr_put o [[91]] (by simp)) (by simp [AV.bareL, AV.bare, strs]) (pc_bump p0 _) fun s1 f1 g1 p1 => ?_
  simp -dsimp -implicitDefEqProofs [f1, g1, del_none, hl, ht]
  refine call_wr h (by simp [AV.bareL, AV.bare, bx]) (pc_bump p1 _) fun s2 f2 g2 p2 => ?_
  simp -dsimp -implicitDefEqProofs [f2, g2, del_none]
  refine call_wr (wr_put o [[93]] (by simp)) (by simp [AV.bareL, AV.bare, strs]) (pc_bump p2 _) fun s3 f3 g3 p3 => ?_
  simp -dsimp -implicitDefEqProofs [f3, g3, del_none]
  exact pc_end0 p3
end Go.Proofs.YthaekebedmoipaaGreatDoor.AM

/- Contracts: the printer's texts of expressions, kind by kind. -/
set_option linter.unusedVariables false
set_option linter.unusedSimpArgs false
set_option maxRecDepth 100000
namespace Go.Proofs.YthaekebedmoipaaGreatDoor.AM
open Go Go.RowKit
variable {w0 : World} {base : Nat}

def exAV (k op t : Int) (n : Str) (v : Int) (a : List Ex) : AV := .agg [vi k, vi op, vi t, .str n, .int .i32 v, .sl (Ex.cellsL a) a.length .no]
theorem wr_put1 (o : Nat) (x : Str) : Wr w0 base 122 o [.sl (strs [x]) 1 .no] (x, false) := by
  have := wr_put (w0 := w0) (base := base) o [x] (by simp)
  simpa using this
theorem wr_ex1 (hT : Tabs w0 base) (o : Nat) (op t : Int) (n : Str) (v : Int) (a : List Ex) (h0 : -2147483648 ≤ v) (h1 : v ≤ 2147483647) :
    Wr w0 base 161 o [exAV 1 op t n v a] (cats [([], onlyP 1 op 0 n 0 a.length 0), ([], (textP t v).isNone), ((textP t v).getD [], false)]) := by
  refine wr_intro _ rfl fun st tk goal hn0 hn p0 => callW_fn Tryz.func161 r161 rfl ?_
  have bl := Ex.bare_cellsL a
  unfold exAV
  generalize Ex.cellsL a = ca at *
  generalize a.length = la at *
  unfold b161
  simp -dsimp -implicitDefEqProofs [hn0, hn, del_none]
  refine call_wr (wr_only o 1 op 0 n 0 ca la 0) (by simp [AV.bareL, AV.bare, bl]) (pc_bump p0 _) fun s1 f1 g1 p1 => ?_
  simp -dsimp -implicitDefEqProofs [f1, g1, del_none]
  refine call_of (d197 hT _ t v h0 h1) ?_
  obtain ⟨u, w, bad, ho, hlt, hput⟩ := pc_look p1
  simp -dsimp -implicitDefEqProofs [f1, g1, del_none, ho]
  refine Br_iff (fun hb => ?_) (fun hb => ?_)
  · simp -dsimp -implicitDefEqProofs [ho, hb]
    refine call_wr (wr_put1 o ((textP t v).getD [])) (by simp [AV.bareL, AV.bare, strs]) (hput _ _ _ _ rfl (by simp [hb])) fun s2 f2 g2 p2 => ?_
    simp -dsimp -implicitDefEqProofs [f2, g2]
    exact pc_end0 p2
  · simp -dsimp -implicitDefEqProofs [ho, hb]
    refine call_wr (wr_put1 o ((textP t v).getD [])) (by simp [AV.bareL, AV.bare, strs]) (hput _ _ _ _ rfl (by cases textP t v <;> simp [hb])) fun s2 f2 g2 p2 => ?_
    simp -dsimp -implicitDefEqProofs [f2, g2]
    exact pc_end0 p2
theorem wr_ex2 (o : Nat) (op t : Int) (n : Str) (v : Int) (a : List Ex) :
    Wr w0 base 161 o [exAV 2 op t n v a] (cats [([], onlyP 2 op t [] v a.length 0), (n, !isNameP n)]) := by
  refine wr_intro _ rfl fun st tk goal hn0 hn p0 => callW_fn Tryz.func161 r161 rfl ?_
  have bl := Ex.bare_cellsL a
  unfold exAV
  generalize Ex.cellsL a = ca at *
  generalize a.length = la at *
  unfold b161
  simp -dsimp -implicitDefEqProofs [hn0, hn, del_none]
  refine call_wr (wr_only o 2 op t [] v ca la 0) (by simp [AV.bareL, AV.bare, bl]) (pc_bump p0 _) fun s1 f1 g1 p1 => ?_
  simp -dsimp -implicitDefEqProofs [f1, g1, del_none]
  refine call_wr (wr_name o n) (by simp [AV.bareL, AV.bare]) (pc_bump p1 _) fun s2 f2 g2 p2 => ?_
  simp -dsimp -implicitDefEqProofs [f2, g2]
  exact pc_end0 p2
theorem wr_ex3 (o : Nat) (op t : Int) (n : Str) (v : Int) (a : List Ex) :
    Wr w0 base 161 o [exAV 3 op t n v a] (cats [([], onlyP 3 0 t n v a.length 0), pickP wIds (subW op 1)]) := by
  refine wr_intro _ rfl fun st tk goal hn0 hn p0 => callW_fn Tryz.func161 r161 rfl ?_
  have bl := Ex.bare_cellsL a
  unfold exAV
  generalize Ex.cellsL a = ca at *
  generalize a.length = la at *
  unfold b161
  simp -dsimp -implicitDefEqProofs [hn0, hn, del_none]
  refine call_wr (wr_only o 3 0 t n v ca la 0) (by simp [AV.bareL, AV.bare, bl]) (pc_bump p0 _) fun s1 f1 g1 p1 => ?_
  simp -dsimp -implicitDefEqProofs [f1, g1, del_none]
  refine call_of (d198 _) ?_
  simp -dsimp -implicitDefEqProofs [f1, g1, del_none]
  refine call_wr (wr_pick o wIds _) (by simp [AV.bareL, AV.bare, bare_210, subW, wIds, strs]) (pc_bump p1 _) fun s2 f2 g2 p2 => ?_
  simp -dsimp -implicitDefEqProofs [f2, g2]
  exact pc_end0 p2
theorem wr_ex4 (o : Nat) (op t : Int) (n : Str) (v : Int) (a : List Ex) (out : Ex → Str × Bool) (h : ∀ x ∈ a, Wr w0 base 161 o [.agg x.cells] (out x)) :
    Wr w0 base 161 o [exAV 4 op t n v a] (cats [([], onlyP 4 0 t n v a.length 1), pickP wUnaries (subW op 1), listP (a.map out)]) := by
  refine wr_intro _ rfl fun st tk goal hn0 hn p0 => callW_fn Tryz.func161 r161 rfl ?_
  have bl := Ex.bare_cellsL a
  have hl := wr_list o a out h
  clear h
  unfold exAV
  generalize Ex.cellsL a = ca at *
  unfold b161
  simp -dsimp -implicitDefEqProofs [hn0, hn, del_none]
  refine call_wr (wr_only o 4 0 t n v ca a.length 1) (by simp [AV.bareL, AV.bare, bl]) (pc_bump p0 _) fun s1 f1 g1 p1 => ?_
  simp -dsimp -implicitDefEqProofs [f1, g1, del_none]
  refine call_of (d199 _) ?_
  simp -dsimp -implicitDefEqProofs [f1, g1, del_none]
  refine call_wr (wr_pick o wUnaries _) (by simp [AV.bareL, AV.bare, bare_210, subW, wUnaries, strs]) (pc_bump p1 _) fun s2 f2 g2 p2 => ?_
  simp -dsimp -implicitDefEqProofs [f2, g2]
  refine call_wr hl (by simp [AV.bareL, AV.bare, bl]) (pc_bump p2 _) fun s3 f3 g3 p3 => ?_
  simp -dsimp -implicitDefEqProofs [f3, g3]
  exact pc_end0 p3
def twoP (op : Int) : List (Str × Bool) → Str × Bool
  | [x, y] => binP op x y
  | _ => ([], false)
theorem wr_ex5 (o : Nat) (op t : Int) (n : Str) (v : Int) (a : List Ex) (out : Ex → Str × Bool) (h : ∀ x ∈ a, Wr w0 base 161 o [.agg x.cells] (out x)) :
    Wr w0 base 161 o [exAV 5 op t n v a] (cats [([], onlyP 5 0 t n v a.length 2), twoP op (a.map out)]) := by
  refine wr_intro _ rfl fun st tk goal hn0 hn p0 => callW_fn Tryz.func161 r161 rfl ?_
  have bl := Ex.bare_cellsL a
  by_cases ha : a.length = 2
  · obtain ⟨x, y, rfl⟩ : ∃ x y, a = [x, y] := by
      match a, ha with
      | [x, y], _ => exact ⟨x, y, rfl⟩
    have hb := wr_binary o 5 op t n v x y out h
    clear h
    simp only [List.map_cons, List.map_nil, twoP, List.length_cons, List.length_nil] at *
    unfold exAV
    simp only [List.length_cons, List.length_nil]
    generalize Ex.cellsL [x, y] = ca at *
    unfold b161
    simp -dsimp -implicitDefEqProofs [hn0, hn, del_none]
    refine call_wr (wr_only o 5 0 t n v ca 2 2) (by simp [AV.bareL, AV.bare, bl]) (pc_bump p0 _) fun s1 f1 g1 p1 => ?_
    simp -dsimp -implicitDefEqProofs [f1, g1, del_none]
    refine call_wr hb (by simp [AV.bareL, AV.bare, bl]) (pc_bump p1 _) fun s2 f2 g2 p2 => ?_
    simp -dsimp -implicitDefEqProofs [f2, g2]
    exact pc_end0 p2
  · have htwo : twoP op (a.map out) = ([], false) := by
      match a, ha with
      | [], _ => rfl
      | [x], _ => rfl
      | [x, y], h => exact absurd rfl h
      | x :: y :: z :: l, _ => rfl
    rw [htwo] at p0
    clear h
    have hne : ((a.length : Int) == 2) = false := by
      have : ¬ (a.length : Int) = 2 := by omega
      simpa using this
    unfold exAV
    generalize Ex.cellsL a = ca at *
    generalize a.length = la at *
    unfold b161
    simp -dsimp -implicitDefEqProofs [hn0, hn, del_none]
    refine call_wr (wr_only o 5 0 t n v ca la 2) (by simp [AV.bareL, AV.bare, bl]) (pc_bump p0 _) fun s1 f1 g1 p1 => ?_
    simp -dsimp -implicitDefEqProofs [f1, g1, del_none, hne]
    exact pc_end (pc_none p1) _
end Go.Proofs.YthaekebedmoipaaGreatDoor.AM

/- Contracts: the printer's texts of expressions, all kinds. -/
set_option linter.unusedVariables false
set_option linter.unusedSimpArgs false
set_option maxRecDepth 100000
namespace Go.Proofs.YthaekebedmoipaaGreatDoor.AM
open Go Go.RowKit
variable {w0 : World} {base : Nat}

def threeP : List (Str × Bool) → Str × Bool
  | [x, y, z] => cats [([40], false), x, ([32, 63, 32], false), y, ([32, 58, 32], false), z, ([41], false)]
  | _ => ([], false)
theorem wr_ex6 (o : Nat) (op t : Int) (n : Str) (v : Int) (a : List Ex) (out : Ex → Str × Bool) (h : ∀ x ∈ a, Wr w0 base 161 o [.agg x.cells] (out x)) :
    Wr w0 base 161 o [exAV 6 op t n v a] (cats [([], onlyP 6 op t n v a.length 3), threeP (a.map out)]) := by
  refine wr_intro _ rfl fun st tk goal hn0 hn p0 => callW_fn Tryz.func161 r161 rfl ?_
  have bl := Ex.bare_cellsL a
  by_cases ha : a.length = 3
  · obtain ⟨x, y, z, rfl⟩ : ∃ x y z, a = [x, y, z] := by
      match a, ha with
      | [x, y, z], _ => exact ⟨x, y, z, rfl⟩
    have hx := h x (by simp)
    have hy := h y (by simp)
    have hz := h z (by simp)
    have e1 : (Ex.cellsL [x, y, z]).take 6 = x.cells := by simp [Ex.cellsL, List.take_append, List.take_of_length_le]
    have e2 : ((Ex.cellsL [x, y, z]).drop 6).take 6 = y.cells := by simp [Ex.cellsL, List.drop_append, List.take_append, List.take_of_length_le, List.drop_of_length_le]
    have e3 : ((Ex.cellsL [x, y, z]).drop 12).take 6 = z.cells := by simp [Ex.cellsL, List.drop_append, List.take_append, List.take_of_length_le, List.drop_of_length_le]
    have e4 : (Ex.cellsL [x, y, z]).length = 18 := by simp [Ex.cellsL]
    have bx := Ex.bare_cells x
    have by' := Ex.bare_cells y
    have bz := Ex.bare_cells z
    clear h
    simp only [List.map_cons, List.map_nil, threeP, List.length_cons, List.length_nil] at *
    unfold exAV
    simp only [List.length_cons, List.length_nil]
    generalize x.cells = xc at *
    generalize y.cells = yc at *
    generalize z.cells = zc at *
    generalize Ex.cellsL [x, y, z] = ca at *
    unfold b161
    simp -dsimp -implicitDefEqProofs [hn0, hn, del_none]
    refine call_wr (wr_only o 6 op t n v ca 3 3) (by simp [AV.bareL, AV.bare, bl]) (pc_new p0 _ (by simp) (by simp)) fun s1 f1 g1 p1 => ?_
    have p1' := pc_split p1 rfl
    simp -dsimp -implicitDefEqProofs [f1, g1, del_none]
    refine call_wr (wr_put o [[40]] (by simp)) (by simp [AV.bareL, AV.bare, strs]) (pc_bump p1' _) fun s2 f2 g2 p2 => ?_
    simp -dsimp -implicitDefEqProofs [f2, g2, e1, e4]
    refine call_wr hx (by simp [AV.bareL, AV.bare, bx]) (pc_bump p2 _) fun s3 f3 g3 p3 => ?_
    simp -dsimp -implicitDefEqProofs [f3, g3]
    refine call_wr (wr_put o [[32, 63, 32]] (by simp)) (by simp [AV.bareL, AV.bare, strs]) (pc_bump p3 _) fun s4 f4 g4 p4 => ?_
    simp -dsimp -implicitDefEqProofs [f4, g4, e2, e4]
    refine call_wr hy (by simp [AV.bareL, AV.bare, by']) (pc_bump p4 _) fun s5 f5 g5 p5 => ?_
    simp -dsimp -implicitDefEqProofs [f5, g5]
    refine call_wr (wr_put o [[32, 58, 32]] (by simp)) (by simp [AV.bareL, AV.bare, strs]) (pc_bump p5 _) fun s6 f6 g6 p6 => ?_
    simp -dsimp -implicitDefEqProofs [f6, g6, e3, e4]
    refine call_wr hz (by simp [AV.bareL, AV.bare, bz]) (pc_bump p6 _) fun s7 f7 g7 p7 => ?_
    simp -dsimp -implicitDefEqProofs [f7, g7]
    refine call_wr (wr_put o [[41]] (by simp)) (by simp [AV.bareL, AV.bare, strs]) (pc_bump p7 _) fun s8 f8 g8 p8 => ?_
    simp -dsimp -implicitDefEqProofs [f8, g8]
    exact pc_end0 p8
  · have hthree : threeP (a.map out) = ([], false) := by
      match a, ha with
      | [], _ => rfl
      | [x], _ => rfl
      | [x, y], _ => rfl
      | [x, y, z], h => exact absurd rfl h
      | x :: y :: z :: u :: l, _ => rfl
    rw [hthree] at p0
    clear h
    have hne : ((a.length : Int) == 3) = false := by
      have : ¬ (a.length : Int) = 3 := by omega
      simpa using this
    unfold exAV
    generalize Ex.cellsL a = ca at *
    generalize a.length = la at *
    unfold b161
    simp -dsimp -implicitDefEqProofs [hn0, hn, del_none]
    refine call_wr (wr_only o 6 op t n v ca la 3) (by simp [AV.bareL, AV.bare, bl]) (pc_new p0 _ (by simp) (by simp)) fun s1 f1 g1 p1 => ?_
    simp -dsimp -implicitDefEqProofs [f1, g1, del_none, hne]
    exact pc_end (pc_none p1) _
def oneP : List (Str × Bool) → Str × Bool
  | [x] => cats [([91], false), x, ([93], false)]
  | _ => ([], false)
theorem wr_ex7 (o : Nat) (op t : Int) (n : Str) (v : Int) (a : List Ex) (out : Ex → Str × Bool) (h : ∀ x ∈ a, Wr w0 base 161 o [.agg x.cells] (out x)) :
    Wr w0 base 161 o [exAV 7 op t n v a] (cats [(n, !isNameP n), ([], onlyP 7 op t [] v a.length 1), oneP (a.map out)]) := by
  refine wr_intro _ rfl fun st tk goal hn0 hn p0 => callW_fn Tryz.func161 r161 rfl ?_
  have bl := Ex.bare_cellsL a
  by_cases ha : a.length = 1
  · obtain ⟨x, rfl⟩ : ∃ x, a = [x] := by
      match a, ha with
      | [x], _ => exact ⟨x, rfl⟩
    have hx := wr_index o x (out x) (h x (by simp))
    have e1 : (Ex.cellsL [x]).take 6 = x.cells := by simp [Ex.cellsL, List.take_append, List.take_of_length_le]
    have e4 : (Ex.cellsL [x]).length = 6 := by simp [Ex.cellsL]
    have bx := Ex.bare_cells x
    clear h
    simp only [List.map_cons, List.map_nil, oneP, List.length_cons, List.length_nil] at *
    unfold exAV
    simp only [List.length_cons, List.length_nil]
    generalize x.cells = xc at *
    generalize Ex.cellsL [x] = ca at *
    unfold b161
    simp -dsimp -implicitDefEqProofs [hn0, hn, del_none]
    refine call_wr (wr_name o n) (by simp [AV.bareL, AV.bare]) (pc_bump p0 _) fun s1 f1 g1 p1 => ?_
    simp -dsimp -implicitDefEqProofs [f1, g1, del_none]
    refine call_wr (wr_only o 7 op t [] v ca 1 1) (by simp [AV.bareL, AV.bare, bl]) (pc_bump p1 _) fun s2 f2 g2 p2 => ?_
    simp -dsimp -implicitDefEqProofs [f2, g2, e1, e4]
    refine call_wr hx (by simp [AV.bareL, AV.bare, bx]) (pc_bump p2 _) fun s3 f3 g3 p3 => ?_
    simp -dsimp -implicitDefEqProofs [f3, g3]
    exact pc_end0 p3
  · have hone : oneP (a.map out) = ([], false) := by
      match a, ha with
      | [], _ => rfl
      | [x], h => exact absurd rfl h
      | x :: y :: l, _ => rfl
    rw [hone] at p0
    clear h
    have hne : ((a.length : Int) == 1) = false := by
      have : ¬ (a.length : Int) = 1 := by omega
      simpa using this
    unfold exAV
    generalize Ex.cellsL a = ca at *
    generalize a.length = la at *
    unfold b161
    simp -dsimp -implicitDefEqProofs [hn0, hn, del_none]
    refine call_wr (wr_name o n) (by simp [AV.bareL, AV.bare]) (pc_bump p0 _) fun s1 f1 g1 p1 => ?_
    simp -dsimp -implicitDefEqProofs [f1, g1, del_none]
    refine call_wr (wr_only o 7 op t [] v ca la 1) (by simp [AV.bareL, AV.bare, bl]) (pc_bump p1 _) fun s2 f2 g2 p2 => ?_
    simp -dsimp -implicitDefEqProofs [f2, g2, hne]
    exact pc_end (pc_none p2) _
theorem wr_ex8 (o : Nat) (op t : Int) (n : Str) (v : Int) (a : List Ex) (out : Ex → Str × Bool) (h : ∀ x ∈ a, Wr w0 base 161 o [.agg x.cells] (out x)) :
    Wr w0 base 161 o [exAV 8 op t n v a] (cats [([], onlyP 8 op t [] v a.length a.length), (n, !isNameP n), listP (a.map out)]) := by
  refine wr_intro _ rfl fun st tk goal hn0 hn p0 => callW_fn Tryz.func161 r161 rfl ?_
  have bl := Ex.bare_cellsL a
  have hl := wr_list o a out h
  clear h
  unfold exAV
  generalize Ex.cellsL a = ca at *
  unfold b161
  simp -dsimp -implicitDefEqProofs [hn0, hn, del_none]
  refine call_wr (wr_only o 8 op t [] v ca a.length a.length) (by simp [AV.bareL, AV.bare, bl]) (pc_bump p0 _) fun s1 f1 g1 p1 => ?_
  simp -dsimp -implicitDefEqProofs [f1, g1, del_none]
  refine call_wr (wr_name o n) (by simp [AV.bareL, AV.bare]) (pc_bump p1 _) fun s2 f2 g2 p2 => ?_
  simp -dsimp -implicitDefEqProofs [f2, g2]
  refine call_wr hl (by simp [AV.bareL, AV.bare, bl]) (pc_bump p2 _) fun s3 f3 g3 p3 => ?_
  simp -dsimp -implicitDefEqProofs [f3, g3]
  exact pc_end0 p3
theorem wr_ex0 (o : Nat) (k op t : Int) (n : Str) (v : Int) (a : List Ex) (hk : ∀ i : Int, 1 ≤ i → i ≤ 8 → k ≠ i) : Wr w0 base 161 o [exAV k op t n v a] ([], true) := by
  refine wr_intro [([], true)] (by simp) fun st tk goal hn0 hn p0 => callW_fn Tryz.func161 r161 rfl ?_
  have b1 : (k == 1) = false := by simpa using hk 1 (by omega) (by omega)
  have b2 : (k == 2) = false := by simpa using hk 2 (by omega) (by omega)
  have b3 : (k == 3) = false := by simpa using hk 3 (by omega) (by omega)
  have b4 : (k == 4) = false := by simpa using hk 4 (by omega) (by omega)
  have b5 : (k == 5) = false := by simpa using hk 5 (by omega) (by omega)
  have b6 : (k == 6) = false := by simpa using hk 6 (by omega) (by omega)
  have b7 : (k == 7) = false := by simpa using hk 7 (by omega) (by omega)
  have b8 : (k == 8) = false := by simpa using hk 8 (by omega) (by omega)
  clear hk
  unfold exAV
  generalize Ex.cellsL a = ca at *
  generalize a.length = la at *
  have q0 := pc_new p0 (k := 3) (q := st.next + 2) (AObj.cells 31 [vi k, vi op, vi t, .str n, .int .i32 v, .sl ca la .no]) (by omega) (by omega)
  have q1 := pc_new p0 (k := 100) (q := st.next + 2) (AObj.cells 31 [vi k, vi op, vi t, .str n, .int .i32 v, .sl ca la .no]) (by omega) (by omega)
  obtain ⟨u, w, bad, ho, hlt, hput⟩ := pc_look q0
  simp only [put_objs, bump_objs, bump_next, put_next] at ho hlt
  unfold b161
  simp -dsimp -implicitDefEqProofs [hn0, hn, del_none, b1, b2, b3, b4, b5, b6, b7, b8, ho]
  exact hold ⟨rfl, hput true [] 23 true (by simp) (by simp)⟩

def nodeP (k op t : Int) (n : Str) (v : Int) (r : List (Str × Bool)) : Str × Bool :=
  if k = 1 then cats [([], onlyP 1 op 0 n 0 r.length 0), ([], (textP t v).isNone), ((textP t v).getD [], false)]
  else if k = 2 then cats [([], onlyP 2 op t [] v r.length 0), (n, !isNameP n)]
  else if k = 3 then cats [([], onlyP 3 0 t n v r.length 0), pickP wIds (subW op 1)]
  else if k = 4 then cats [([], onlyP 4 0 t n v r.length 1), pickP wUnaries (subW op 1), listP r]
  else if k = 5 then cats [([], onlyP 5 0 t n v r.length 2), twoP op r]
  else if k = 6 then cats [([], onlyP 6 op t n v r.length 3), threeP r]
  else if k = 7 then cats [(n, !isNameP n), ([], onlyP 7 op t [] v r.length 1), oneP r]
  else if k = 8 then cats [([], onlyP 8 op t [] v r.length r.length), (n, !isNameP n), listP r]
  else ([], true)
mutual
/-- The text of an expression, and whether something of it is bad. -/
def exprP : Ex → Str × Bool
  | .mk k op t n v a => nodeP k op t n v (exprsP a)
def exprsP : List Ex → List (Str × Bool)
  | [] => []
  | e :: l => exprP e :: exprsP l
end
theorem exprsP_map : ∀ l : List Ex, exprsP l = l.map exprP
  | [] => by simp [exprsP]
  | e :: l => by simp [exprsP, exprsP_map l]
mutual
/-- Numbers are within 32 bits. -/
def Ex.ok : Ex → Prop
  | .mk _ _ _ _ v a => (-2147483648 ≤ v ∧ v ≤ 2147483647) ∧ Ex.okL a
def Ex.okL : List Ex → Prop
  | [] => True
  | e :: l => e.ok ∧ Ex.okL l
end
theorem Ex.okL_iff : ∀ l : List Ex, Ex.okL l ↔ ∀ e ∈ l, e.ok
  | [] => by simp [Ex.okL]
  | e :: l => by simp [Ex.okL, Ex.okL_iff l]
theorem wr_expr (hT : Tabs w0 base) (o : Nat) : ∀ e : Ex, e.ok → Wr w0 base 161 o [.agg e.cells] (exprP e) := by
  refine Ex.ind ?_
  intro k op t n v a ih0 hok
  simp only [Ex.ok] at hok
  have ih : ∀ x ∈ a, Wr w0 base 161 o [.agg x.cells] (exprP x) := fun x hx => ih0 x hx ((Ex.okL_iff a).1 hok.2 x hx)
  have hc : AV.agg (Ex.mk k op t n v a).cells = exAV k op t n v a := by simp only [Ex.cells, exAV]
  rw [hc]
  simp only [exprP, exprsP_map, nodeP, List.length_map]
  split
  · rename_i e; subst e; exact wr_ex1 hT o op t n v a hok.1.1 hok.1.2
  split
  · rename_i e; subst e; exact wr_ex2 o op t n v a
  split
  · rename_i e; subst e; exact wr_ex3 o op t n v a
  split
  · rename_i e; subst e; exact wr_ex4 o op t n v a exprP ih
  split
  · rename_i e; subst e; exact wr_ex5 o op t n v a exprP ih
  split
  · rename_i e; subst e; exact wr_ex6 o op t n v a exprP ih
  split
  · rename_i e; subst e; exact wr_ex7 o op t n v a exprP ih
  split
  · rename_i e; subst e; exact wr_ex8 o op t n v a exprP ih
  · refine wr_ex0 o k op t n v a fun i h1 h2 e => ?_
    subst e
    omega
end Go.Proofs.YthaekebedmoipaaGreatDoor.AM

/- Contracts: the printer's texts of statements of one line. -/
set_option linter.unusedVariables false
set_option linter.unusedSimpArgs false
set_option maxRecDepth 100000
namespace Go.Proofs.YthaekebedmoipaaGreatDoor.AM
open Go Go.RowKit
variable {w0 : World} {base : Nat}

theorem Sm.bare_cells0 (s : Sm) (h : AV.bareL (Sm.cellsL s.body) = Sm.cellsL s.body) (h' : AV.bareL (Sm.cellsL s.els) = Sm.cellsL s.els) : AV.bareL s.cells = s.cells := by
  obtain ⟨k, op, t, b, n, x, y, body, els⟩ := s
  simp only [Sm.cells, bareL_append, AV.bareL, AV.bare, Ex.bare_cells]
  try simp only at h
  try simp only at h'
  rw [h, h']
theorem Sm.bare_cells : ∀ s : Sm, AV.bareL s.cells = s.cells := by
  have hl : ∀ l : List Sm, (∀ s ∈ l, AV.bareL s.cells = s.cells) → AV.bareL (Sm.cellsL l) = Sm.cellsL l := by
    intro l
    induction l with
    | nil => intro _; simp [Sm.cellsL, AV.bareL]
    | cons s l ih => intro h; rw [Sm.cellsL, bareL_append, h s (by simp), ih fun s hs => h s (by simp [hs])]
  refine Sm.ind ?_
  intro k op t b n x y body els h1 h2
  exact Sm.bare_cells0 _ (hl body h1) (hl els h2)
theorem Sm.bare_cellsL (l : List Sm) : AV.bareL (Sm.cellsL l) = Sm.cellsL l := by
  induction l with
  | nil => simp [Sm.cellsL, AV.bareL]
  | cons s l ih => rw [Sm.cellsL, bareL_append, Sm.bare_cells s, ih]
mutual
/-- Numbers are within their kinds. -/
def Sm.ok : Sm → Prop
  | .mk _ _ _ b _ x y body els => (-9223372036854775808 ≤ b ∧ b ≤ 9223372036854775807) ∧ x.ok ∧ y.ok ∧ Sm.okL body ∧ Sm.okL els
def Sm.okL : List Sm → Prop
  | [] => True
  | s :: l => s.ok ∧ Sm.okL l
end
theorem Sm.okL_iff : ∀ l : List Sm, Sm.okL l ↔ ∀ s ∈ l, s.ok
  | [] => by simp [Sm.okL]
  | s :: l => by simp [Sm.okL, Sm.okL_iff l]
def indexP' (x : Str × Bool) : Str × Bool := cats [([91], false), x, ([93], false)]
def wSimple : List Str := [[98, 114, 101, 97, 107], [99, 111, 110, 116, 105, 110, 117, 101], [114, 101, 116, 117, 114, 110], [98, 97, 114, 114, 105, 101, 114]]
def wAtomOps : List Int := [10, 22, 23, 17, 18, 19]
theorem d232 (st : St) : Det Tryz.prog w0 base 232 [] st (.sl (wAtomOps.map (AV.int .i64)) 6 .full) st := by
  refine det_self (enters_fn Tryz.func232 r232) fun hwf hfit => det_fn Tryz.func232 r232 rfl ?_
  unfold b232
  simp -dsimp -implicitDefEqProofs [wAtomOps]
  exact fin_bump hwf (by simp [eraseA, eraseL])
theorem wr_ot7 (hT : Tabs w0 base) (o : Nat) (k : Int) (hk : k = 7 ∨ k = 8 ∨ k = 9 ∨ k = 10) (op t b : Int) (n : Str) (x y : Ex) (body els : List Sm) (hx : x.ok) (hy : y.ok) :
    Wr w0 base 217 o [.agg (Sm.mk k op t b n x y body els).cells] (cats [([], spareP (Sm.mk k op t b n x y body els) false false false false false false false false), pickP wSimple (subW k 7)]) := by
  have wx := wr_expr hT o x hx
  have wy := wr_expr hT o y hy
  have wi := wr_index o x _ wx
  have wl2 := wr_list (w0 := w0) (base := base) o [x, y] exprP (by simp [wx, wy])
  have wl1 := wr_list (w0 := w0) (base := base) o [x] exprP (by simp [wx])
  refine wr_intro _ rfl fun st tk goal hn0 hn p0 => callW_fn Tryz.func217 r217 rfl ?_
  have hs1 := wr_spare_SZero (w0 := w0) (base := base) o (Sm.mk k op t b n x y body els)
  have hs2 := wr_spare_SFence (w0 := w0) (base := base) o (Sm.mk k op t b n x y body els)
  have hs3 := wr_spare_SAtom (w0 := w0) (base := base) o (Sm.mk k op t b n x y body els)
  have hs4 := wr_spare_SSub (w0 := w0) (base := base) o (Sm.mk k op t b n x y body els)
  have bb := Sm.bare_cellsL body
  have be := Sm.bare_cellsL els
  obtain ⟨xk, xo, xt, xn, xv, xa⟩ := x
  obtain ⟨yk, yo, yt, yn, yv, ya⟩ := y
  have ba := Ex.bare_cellsL xa
  have bya := Ex.bare_cellsL ya
  simp only [Sm.cells, Ex.cells, Ex.cellsL, List.cons_append, List.nil_append, List.append_nil, List.map_cons, List.map_nil, List.length_cons, List.length_nil] at *
  generalize Ex.cellsL xa = ca at *
  generalize Ex.cellsL ya = cb at *
  generalize Sm.cellsL body = cc at *
  generalize Sm.cellsL els = cd at *
  unfold b217
  rcases hk with rfl | rfl | rfl | rfl
  all_goals
    simp -dsimp -implicitDefEqProofs [hn0, hn, del_none]
    refine call_wr (hs1) (by simp [AV.bareL, AV.bare, ba, bya, bb, be]) (pc_bump p0 _) fun s1 f1 g1 p1 => ?_
    simp -dsimp -implicitDefEqProofs [f1, g1, del_none]
    refine call_wr (wr_pick o wSimple _) (by simp [AV.bareL, AV.bare, bare_210, subW, wSimple, strs, ba, bya, bb, be]) (pc_bump p1 _) fun s2 f2 g2 p2 => ?_
    simp -dsimp -implicitDefEqProofs [f2, g2, del_none]
    exact pc_end0 p2
theorem wr_ot11 (hT : Tabs w0 base) (o : Nat) (op t b : Int) (n : Str) (x y : Ex) (body els : List Sm) (hx : x.ok) (hy : y.ok) :
    Wr w0 base 217 o [.agg (Sm.mk 11 op t b n x y body els).cells] (cats [([], spareP (Sm.mk 11 op t b n x y body els) true false false false false false false false), ([102, 101, 110, 99, 101, 32], false), pickP wScopes (subW op 1)]) := by
  have wx := wr_expr hT o x hx
  have wy := wr_expr hT o y hy
  have wi := wr_index o x _ wx
  have wl2 := wr_list (w0 := w0) (base := base) o [x, y] exprP (by simp [wx, wy])
  have wl1 := wr_list (w0 := w0) (base := base) o [x] exprP (by simp [wx])
  refine wr_intro _ rfl fun st tk goal hn0 hn p0 => callW_fn Tryz.func217 r217 rfl ?_
  have hs1 := wr_spare_SZero (w0 := w0) (base := base) o (Sm.mk 11 op t b n x y body els)
  have hs2 := wr_spare_SFence (w0 := w0) (base := base) o (Sm.mk 11 op t b n x y body els)
  have hs3 := wr_spare_SAtom (w0 := w0) (base := base) o (Sm.mk 11 op t b n x y body els)
  have hs4 := wr_spare_SSub (w0 := w0) (base := base) o (Sm.mk 11 op t b n x y body els)
  have bb := Sm.bare_cellsL body
  have be := Sm.bare_cellsL els
  obtain ⟨xk, xo, xt, xn, xv, xa⟩ := x
  obtain ⟨yk, yo, yt, yn, yv, ya⟩ := y
  have ba := Ex.bare_cellsL xa
  have bya := Ex.bare_cellsL ya
  simp only [Sm.cells, Ex.cells, Ex.cellsL, List.cons_append, List.nil_append, List.append_nil, List.map_cons, List.map_nil, List.length_cons, List.length_nil] at *
  generalize Ex.cellsL xa = ca at *
  generalize Ex.cellsL ya = cb at *
  generalize Sm.cellsL body = cc at *
  generalize Sm.cellsL els = cd at *
  unfold b217
  simp -dsimp -implicitDefEqProofs [hn0, hn, del_none]
  refine call_wr (hs2) (by simp [AV.bareL, AV.bare, ba, bya, bb, be]) (pc_bump p0 _) fun s1 f1 g1 p1 => ?_
  simp -dsimp -implicitDefEqProofs [f1, g1, del_none]
  refine call_wr (wr_put o [[102, 101, 110, 99, 101, 32]] (by simp)) (by simp [AV.bareL, AV.bare, strs, ba, bya, bb, be]) (pc_bump p1 _) fun s2 f2 g2 p2 => ?_
  simp -dsimp -implicitDefEqProofs [f2, g2, del_none]
  refine call_of (d231 _) ?_
  simp -dsimp -implicitDefEqProofs [f2, g2, del_none]
  refine call_wr (wr_pick o wScopes _) (by simp [AV.bareL, AV.bare, bare_210, subW, wScopes, strs, ba, bya, bb, be]) (pc_bump p2 _) fun s3 f3 g3 p3 => ?_
  simp -dsimp -implicitDefEqProofs [f3, g3, del_none]
  exact pc_end0 p3
theorem wr_ot4 (hT : Tabs w0 base) (o : Nat) (op t b : Int) (n : Str) (x y : Ex) (body els : List Sm) (hx : x.ok) (hy : y.ok) :
    Wr w0 base 217 o [.agg (Sm.mk 4 op t b n x y body els).cells] (cats [([], spareP (Sm.mk 4 op t b n x y body els) true false false true true true false false), ([97, 116, 111, 109, 105, 99, 32], false), (n, !isNameP n), indexP' (exprP x), ([32], false), pickP wAtomics (indexP op wAtomOps), ([32], false), exprP y]) := by
  have wx := wr_expr hT o x hx
  have wy := wr_expr hT o y hy
  have wi := wr_index o x _ wx
  have wl2 := wr_list (w0 := w0) (base := base) o [x, y] exprP (by simp [wx, wy])
  have wl1 := wr_list (w0 := w0) (base := base) o [x] exprP (by simp [wx])
  refine wr_intro _ rfl fun st tk goal hn0 hn p0 => callW_fn Tryz.func217 r217 rfl ?_
  have hs1 := wr_spare_SZero (w0 := w0) (base := base) o (Sm.mk 4 op t b n x y body els)
  have hs2 := wr_spare_SFence (w0 := w0) (base := base) o (Sm.mk 4 op t b n x y body els)
  have hs3 := wr_spare_SAtom (w0 := w0) (base := base) o (Sm.mk 4 op t b n x y body els)
  have hs4 := wr_spare_SSub (w0 := w0) (base := base) o (Sm.mk 4 op t b n x y body els)
  have bb := Sm.bare_cellsL body
  have be := Sm.bare_cellsL els
  obtain ⟨xk, xo, xt, xn, xv, xa⟩ := x
  obtain ⟨yk, yo, yt, yn, yv, ya⟩ := y
  have ba := Ex.bare_cellsL xa
  have bya := Ex.bare_cellsL ya
  simp only [Sm.cells, Ex.cells, Ex.cellsL, List.cons_append, List.nil_append, List.append_nil, List.map_cons, List.map_nil, List.length_cons, List.length_nil] at *
  generalize Ex.cellsL xa = ca at *
  generalize Ex.cellsL ya = cb at *
  generalize Sm.cellsL body = cc at *
  generalize Sm.cellsL els = cd at *
  unfold b217
  simp -dsimp -implicitDefEqProofs [hn0, hn, del_none]
  refine call_wr (hs3) (by simp [AV.bareL, AV.bare, ba, bya, bb, be]) (pc_bump p0 _) fun s1 f1 g1 p1 => ?_
  simp -dsimp -implicitDefEqProofs [f1, g1, del_none]
  refine call_wr (wr_put o [[97, 116, 111, 109, 105, 99, 32]] (by simp)) (by simp [AV.bareL, AV.bare, strs, ba, bya, bb, be]) (pc_bump p1 _) fun s2 f2 g2 p2 => ?_
  simp -dsimp -implicitDefEqProofs [f2, g2, del_none]
  refine call_wr (wr_name o n) (by simp [AV.bareL, AV.bare, ba, bya, bb, be]) (pc_bump p2 _) fun s3 f3 g3 p3 => ?_
  simp -dsimp -implicitDefEqProofs [f3, g3, del_none]
  refine call_wr (wi) (by simp [AV.bareL, AV.bare, ba, bya, bb, be]) (pc_bump p3 _) fun s4 f4 g4 p4 => ?_
  simp -dsimp -implicitDefEqProofs [f4, g4, del_none]
  refine call_wr (wr_put o [[32]] (by simp)) (by simp [AV.bareL, AV.bare, strs, ba, bya, bb, be]) (pc_bump p4 _) fun s5 f5 g5 p5 => ?_
  simp -dsimp -implicitDefEqProofs [f5, g5, del_none]
  refine call_of (d209 _) ?_
  simp -dsimp -implicitDefEqProofs [f5, g5, del_none]
  refine call_of (d232 _) ?_
  simp -dsimp -implicitDefEqProofs [f5, g5, del_none]
  refine call_bare (d194 _ wAtomOps op) (by simp [AV.bareL, AV.bare, wAtomOps]) ?_
  simp -dsimp -implicitDefEqProofs [f5, g5, del_none]
  refine call_wr (wr_pick o wAtomics _) (by simp [AV.bareL, AV.bare, bare_210, wAtomics, strs, ba, bya, bb, be]) (pc_bump p5 _) fun s6 f6 g6 p6 => ?_
  simp -dsimp -implicitDefEqProofs [f6, g6, del_none]
  refine call_wr (wr_put o [[32]] (by simp)) (by simp [AV.bareL, AV.bare, strs, ba, bya, bb, be]) (pc_bump p6 _) fun s7 f7 g7 p7 => ?_
  simp -dsimp -implicitDefEqProofs [f7, g7, del_none]
  refine call_wr (wy) (by simp [AV.bareL, AV.bare, ba, bya, bb, be]) (pc_bump p7 _) fun s8 f8 g8 p8 => ?_
  simp -dsimp -implicitDefEqProofs [f8, g8, del_none]
  exact pc_end0 p8
theorem wr_ot12a (hT : Tabs w0 base) (o : Nat) (op t b : Int) (n : Str) (x y : Ex) (body els : List Sm) (hx : x.ok) (hy : y.ok) (hop : (op == 4) = true) (hop2 : (op != 4) = false) :
    Wr w0 base 217 o [.agg (Sm.mk 12 op t b n x y body els).cells] (cats [([], spareP (Sm.mk 12 op t b n x y body els) true false false true true true false false), (n, !isNameP n), ([32, 61, 32], false), pickP wCollects (subW op 1), listP [exprP x, exprP y]]) := by
  have wx := wr_expr hT o x hx
  have wy := wr_expr hT o y hy
  have wi := wr_index o x _ wx
  have wl2 := wr_list (w0 := w0) (base := base) o [x, y] exprP (by simp [wx, wy])
  have wl1 := wr_list (w0 := w0) (base := base) o [x] exprP (by simp [wx])
  refine wr_intro _ rfl fun st tk goal hn0 hn p0 => callW_fn Tryz.func217 r217 rfl ?_
  have hs1 := wr_spare_SZero (w0 := w0) (base := base) o (Sm.mk 12 op t b n x y body els)
  have hs2 := wr_spare_SFence (w0 := w0) (base := base) o (Sm.mk 12 op t b n x y body els)
  have hs3 := wr_spare_SAtom (w0 := w0) (base := base) o (Sm.mk 12 op t b n x y body els)
  have hs4 := wr_spare_SSub (w0 := w0) (base := base) o (Sm.mk 12 op t b n x y body els)
  have bb := Sm.bare_cellsL body
  have be := Sm.bare_cellsL els
  obtain ⟨xk, xo, xt, xn, xv, xa⟩ := x
  obtain ⟨yk, yo, yt, yn, yv, ya⟩ := y
  have ba := Ex.bare_cellsL xa
  have bya := Ex.bare_cellsL ya
  simp only [Sm.cells, Ex.cells, Ex.cellsL, List.cons_append, List.nil_append, List.append_nil, List.map_cons, List.map_nil, List.length_cons, List.length_nil] at *
  generalize Ex.cellsL xa = ca at *
  generalize Ex.cellsL ya = cb at *
  generalize Sm.cellsL body = cc at *
  generalize Sm.cellsL els = cd at *
  unfold b217
  simp -dsimp -implicitDefEqProofs [hn0, hn, del_none, hop, hop2]
  refine call_wr (hs3) (by simp [AV.bareL, AV.bare, ba, bya, bb, be]) (pc_bump p0 _) fun s1 f1 g1 p1 => ?_
  simp -dsimp -implicitDefEqProofs [f1, g1, del_none, hop, hop2]
  refine call_wr (wr_name o n) (by simp [AV.bareL, AV.bare, ba, bya, bb, be]) (pc_bump p1 _) fun s2 f2 g2 p2 => ?_
  simp -dsimp -implicitDefEqProofs [f2, g2, del_none, hop, hop2]
  refine call_wr (wr_put o [[32, 61, 32]] (by simp)) (by simp [AV.bareL, AV.bare, strs, ba, bya, bb, be]) (pc_bump p2 _) fun s3 f3 g3 p3 => ?_
  simp -dsimp -implicitDefEqProofs [f3, g3, del_none, hop, hop2]
  refine call_of (d208 _) ?_
  simp -dsimp -implicitDefEqProofs [f3, g3, del_none, hop, hop2]
  refine call_wr (wr_pick o wCollects _) (by simp [AV.bareL, AV.bare, bare_210, subW, wCollects, strs, ba, bya, bb, be]) (pc_bump p3 _) fun s4 f4 g4 p4 => ?_
  simp -dsimp -implicitDefEqProofs [f4, g4, del_none, hop, hop2]
  refine call_wr (wl2) (by simp [AV.bareL, AV.bare, ba, bya, bb, be]) (pc_bump p4 _) fun s5 f5 g5 p5 => ?_
  simp -dsimp -implicitDefEqProofs [f5, g5, del_none, hop, hop2]
  exact pc_end0 p5
theorem wr_ot12b (hT : Tabs w0 base) (o : Nat) (op t b : Int) (n : Str) (x y : Ex) (body els : List Sm) (hx : x.ok) (hy : y.ok) (hop : (op == 4) = false) (hop2 : (op != 4) = true) :
    Wr w0 base 217 o [.agg (Sm.mk 12 op t b n x y body els).cells] (cats [([], spareP (Sm.mk 12 op t b n x y body els) true false false true true false false false), (n, !isNameP n), ([32, 61, 32], false), pickP wCollects (subW op 1), listP [exprP x]]) := by
  have wx := wr_expr hT o x hx
  have wy := wr_expr hT o y hy
  have wi := wr_index o x _ wx
  have wl2 := wr_list (w0 := w0) (base := base) o [x, y] exprP (by simp [wx, wy])
  have wl1 := wr_list (w0 := w0) (base := base) o [x] exprP (by simp [wx])
  refine wr_intro _ rfl fun st tk goal hn0 hn p0 => callW_fn Tryz.func217 r217 rfl ?_
  have hs1 := wr_spare_SZero (w0 := w0) (base := base) o (Sm.mk 12 op t b n x y body els)
  have hs2 := wr_spare_SFence (w0 := w0) (base := base) o (Sm.mk 12 op t b n x y body els)
  have hs3 := wr_spare_SAtom (w0 := w0) (base := base) o (Sm.mk 12 op t b n x y body els)
  have hs4 := wr_spare_SSub (w0 := w0) (base := base) o (Sm.mk 12 op t b n x y body els)
  have bb := Sm.bare_cellsL body
  have be := Sm.bare_cellsL els
  obtain ⟨xk, xo, xt, xn, xv, xa⟩ := x
  obtain ⟨yk, yo, yt, yn, yv, ya⟩ := y
  have ba := Ex.bare_cellsL xa
  have bya := Ex.bare_cellsL ya
  simp only [Sm.cells, Ex.cells, Ex.cellsL, List.cons_append, List.nil_append, List.append_nil, List.map_cons, List.map_nil, List.length_cons, List.length_nil] at *
  generalize Ex.cellsL xa = ca at *
  generalize Ex.cellsL ya = cb at *
  generalize Sm.cellsL body = cc at *
  generalize Sm.cellsL els = cd at *
  unfold b217
  simp -dsimp -implicitDefEqProofs [hn0, hn, del_none, hop, hop2]
  refine call_wr (hs4) (by simp [AV.bareL, AV.bare, ba, bya, bb, be]) (pc_bump p0 _) fun s1 f1 g1 p1 => ?_
  simp -dsimp -implicitDefEqProofs [f1, g1, del_none, hop, hop2]
  refine call_wr (wr_name o n) (by simp [AV.bareL, AV.bare, ba, bya, bb, be]) (pc_bump p1 _) fun s2 f2 g2 p2 => ?_
  simp -dsimp -implicitDefEqProofs [f2, g2, del_none, hop, hop2]
  refine call_wr (wr_put o [[32, 61, 32]] (by simp)) (by simp [AV.bareL, AV.bare, strs, ba, bya, bb, be]) (pc_bump p2 _) fun s3 f3 g3 p3 => ?_
  simp -dsimp -implicitDefEqProofs [f3, g3, del_none, hop, hop2]
  refine call_of (d208 _) ?_
  simp -dsimp -implicitDefEqProofs [f3, g3, del_none, hop, hop2]
  refine call_wr (wr_pick o wCollects _) (by simp [AV.bareL, AV.bare, bare_210, subW, wCollects, strs, ba, bya, bb, be]) (pc_bump p3 _) fun s4 f4 g4 p4 => ?_
  simp -dsimp -implicitDefEqProofs [f4, g4, del_none, hop, hop2]
  refine call_wr (wl1) (by simp [AV.bareL, AV.bare, ba, bya, bb, be]) (pc_bump p4 _) fun s5 f5 g5 p5 => ?_
  simp -dsimp -implicitDefEqProofs [f5, g5, del_none, hop, hop2]
  exact pc_end0 p5
end Go.Proofs.YthaekebedmoipaaGreatDoor.AM

/- Contracts: the printer's texts of statements. -/
set_option linter.unusedVariables false
set_option linter.unusedSimpArgs false
set_option maxRecDepth 100000
namespace Go.Proofs.YthaekebedmoipaaGreatDoor.AM
open Go Go.RowKit
variable {w0 : World} {base : Nat}

theorem wr_ot0 (o : Nat) (s : Sm) (hk : ∀ i : Int, (i = 4 ∨ (7 ≤ i ∧ i ≤ 12)) → s.kind ≠ i) : Wr w0 base 217 o [.agg s.cells] ([], true) := by
  refine wr_intro [([], true)] (by simp) fun st tk goal hn0 hn p0 => callW_fn Tryz.func217 r217 rfl ?_
  obtain ⟨u, w, bad, ho, hlt, hput⟩ := pc_look p0
  obtain ⟨k, op, t, b, n, x, y, body, els⟩ := s
  have b4 : (k == 4) = false := by simpa using hk 4 (by omega)
  have b7 : (k == 7) = false := by simpa using hk 7 (by omega)
  have b8 : (k == 8) = false := by simpa using hk 8 (by omega)
  have b9 : (k == 9) = false := by simpa using hk 9 (by omega)
  have b10 : (k == 10) = false := by simpa using hk 10 (by omega)
  have b11 : (k == 11) = false := by simpa using hk 11 (by omega)
  have b12 : (k == 12) = false := by simpa using hk 12 (by omega)
  clear hk
  obtain ⟨xk, xo, xt, xn, xv, xa⟩ := x
  obtain ⟨yk, yo, yt, yn, yv, ya⟩ := y
  simp only [Sm.cells, Ex.cells, List.cons_append, List.nil_append]
  generalize Ex.cellsL xa = ca at *
  generalize Ex.cellsL ya = cb at *
  generalize Sm.cellsL body = cc at *
  generalize Sm.cellsL els = cd at *
  unfold b217
  simp -dsimp -implicitDefEqProofs [hn0, hn, del_none, b4, b7, b8, b9, b10, b11, b12, ho]
  exact hold ⟨rfl, hput true [] _ true (by simp) (by simp)⟩

def otherP (s : Sm) : Str × Bool :=
  if s.kind = 7 ∨ s.kind = 8 ∨ s.kind = 9 ∨ s.kind = 10 then cats [([], spareP s false false false false false false false false), pickP wSimple (subW s.kind 7)]
  else if s.kind = 11 then cats [([], spareP s true false false false false false false false), ([102, 101, 110, 99, 101, 32], false), pickP wScopes (subW s.op 1)]
  else if s.kind = 4 then cats [([], spareP s true false false true true true false false), ([97, 116, 111, 109, 105, 99, 32], false), (s.name, !isNameP s.name), indexP' (exprP s.x), ([32], false), pickP wAtomics (indexP s.op wAtomOps), ([32], false), exprP s.y]
  else if s.kind = 12 then (if s.op = 4 then cats [([], spareP s true false false true true true false false), (s.name, !isNameP s.name), ([32, 61, 32], false), pickP wCollects (subW s.op 1), listP [exprP s.x, exprP s.y]]
    else cats [([], spareP s true false false true true false false false), (s.name, !isNameP s.name), ([32, 61, 32], false), pickP wCollects (subW s.op 1), listP [exprP s.x]])
  else ([], true)
theorem wr_other (hT : Tabs w0 base) (o : Nat) (s : Sm) (hx : s.x.ok) (hy : s.y.ok) : Wr w0 base 217 o [.agg s.cells] (otherP s) := by
  unfold otherP
  split
  · obtain ⟨k, op, t, b, n, x, y, body, els⟩ := s
    exact wr_ot7 hT o k (by assumption) op t b n x y body els hx hy
  split
  · obtain ⟨k, op, t, b, n, x, y, body, els⟩ := s
    rename_i e; obtain rfl : k = 11 := e
    exact wr_ot11 hT o op t b n x y body els hx hy
  split
  · obtain ⟨k, op, t, b, n, x, y, body, els⟩ := s
    rename_i e; obtain rfl : k = 4 := e
    exact wr_ot4 hT o op t b n x y body els hx hy
  split
  · obtain ⟨k, op, t, b, n, x, y, body, els⟩ := s
    rename_i e; obtain rfl : k = 12 := e
    split
    · rename_i e; obtain rfl : op = 4 := e
      exact wr_ot12a hT o 4 t b n x y body els hx hy (by simp) (by simp)
    · rename_i e
      exact wr_ot12b hT o op t b n x y body els hx hy (by simpa using e) (by simpa using e)
  · refine wr_ot0 o s fun i hi e => ?_
    omega

/-- Statements one behind the other. -/
def linesP (ind : Str) : List (Str × Bool) → List (Str × Bool)
  | [] => []
  | x :: l => (ind, false) :: x :: ([10], false) :: linesP ind l
theorem linesP_len (ind : Str) : ∀ l, l.length ≤ (cats (linesP ind l)).1.length
  | [] => by simp [linesP]
  | x :: l => by
    have := linesP_len ind l
    simp [linesP, cat]; omega
theorem wr_stmts (o : Nat) (l : List Sm) (ind : Str) (out : Sm → Str × Bool) (h : ∀ x ∈ l, Wr w0 base 195 o [.agg x.cells, .str ind] (out x)) : Wr w0 base 160 o [.sl (Sm.cellsL l) l.length .no, .str ind] (cats (linesP ind (l.map out))) := by
  refine wr_intro _ rfl fun st tk goal hn0 hn p0 => callW_fn Tryz.func160 r160 rfl ?_
  have hlen : l.length ≤ 140737488355328 := by
    have h1 := pc_len p0
    have h2 := linesP_len ind (l.map out)
    simp only [List.length_map] at h2
    omega
  have hrow := fun j x => @rowOf_at _ Sm.cells 19 Sm.cells_len l j x
  have hle := fun j x => @rowOf_le _ Sm.cells 19 Sm.cells_len l j x
  rw [Sm.cellsL_row] at *
  generalize rowOf Sm.cells l = ca at *
  unfold b160
  simp -dsimp -implicitDefEqProofs [hn0, hn, del_none]
  refine range_by (d := 11) (x := 10) (n := 9) (y := 25) l.length (fun j e s => Pc st tk o goal (linesP ind ((l.map out).drop j)) s) hlen rfl rfl (pc_bump p0 _) rfl (fun j e e' s k h _ => pc_bump h k) ?_ ?_
  · rintro j e s hj hf hx hI
    have e8 := hf 8 rfl
    have e0 := hf 0 rfl
    have e2 := hf 2 rfl
    simp at e8 e0 e2
    obtain ⟨y, hy⟩ : ∃ y, l[j]? = some y := ⟨_, List.getElem?_eq_getElem hj⟩
    have hr := hrow j y hy
    have hl := hle j y hy
    have hyl := Sm.cells_len y
    have hwy := h y (List.mem_of_getElem? hy)
    have hyt : y.cells.take 19 = y.cells := List.take_of_length_le (by omega)
    have hyb := Sm.bare_cells y
    generalize y.cells = yc at *
    have q0 := wf_none0 hI.wf
    have q := wf_none hI.wf
    have hdrop : (l.map out).drop j = out y :: (l.map out).drop (j + 1) := by
      have hj' : j < (l.map out).length := by simpa using hj
      have hy' : l[j] = y := by simpa [hj] using hy
      rw [List.drop_eq_getElem_cons hj', List.getElem_map, hy']
    rw [hdrop] at hI
    simp -dsimp -implicitDefEqProofs [e8, e0, e2, hx, hj, hr, hl, hyl, q0, q, del_none, hyt]
    refine call_wr (wr_put1 o ind) (by simp [AV.bareL, AV.bare, strs, e0]) (pc_bump hI _) fun s1 f1 g1 p1 => ?_
    simp -dsimp -implicitDefEqProofs [e0, e2, f1, g1, del_none, hyt, hyl]
    refine call_wr hwy (by simp [AV.bareL, AV.bare, e0, hyb]) (pc_bump p1 _) fun s2 f2 g2 p2 => ?_
    simp -dsimp -implicitDefEqProofs [e0, f2, g2, del_none]
    refine call_wr (wr_put o [[10]] (by simp)) (by simp [AV.bareL, AV.bare, strs, e0]) (pc_bump p2 _) fun s3 f3 g3 p3 => ?_
    simp -dsimp -implicitDefEqProofs [f3, g3, del_none]
    exact hold p3
  · rintro e s hf hI
    have hI' : Pc st tk o goal [] s := by simpa [linesP, List.drop_of_length_le] using hI
    simp -dsimp -implicitDefEqProofs
    exact pc_end0 hI'
def blockP (ind : Str) (x : Str × Bool) : Str × Bool := cats [([123, 10], false), x, (ind ++ [125], false)]
theorem wr_block (o : Nat) (l : List Sm) (ind : Str) (out : Sm → Str × Bool) (h : ∀ x ∈ l, Wr w0 base 195 o [.agg x.cells, .str (ind ++ [32, 32])] (out x)) :
    Wr w0 base 130 o [.sl (Sm.cellsL l) l.length .no, .str ind] (blockP ind (cats (linesP (ind ++ [32, 32]) (l.map out)))) := by
  have hs := wr_stmts o l (ind ++ [32, 32]) out h
  refine wr_intro _ rfl fun st tk goal hn0 hn p0 => callW_fn Tryz.func130 r130 rfl ?_
  have hlen : ind.length + 2 ≤ 9223372036854775807 := by
    have := pc_len p0
    simp [cat] at this
    omega
  have bl := Sm.bare_cellsL l
  clear h
  generalize Sm.cellsL l = ca at *
  have hput : Wr w0 base 122 o [.sl (strs [ind, [125]]) 2 .no] (ind ++ [125], false) := by
    have := wr_put (w0 := w0) (base := base) o [ind, [125]] (by simp)
    simpa using this
  unfold b130
  simp -dsimp -implicitDefEqProofs [hn0, hn, del_none, hlen]
  refine call_wr (wr_put o [[123, 10]] (by simp)) (by simp [AV.bareL, AV.bare, strs, bl]) (pc_bump p0 _) fun s1 f1 g1 p1 => ?_
  simp -dsimp -implicitDefEqProofs [f1, g1, del_none, hlen]
  refine call_wr (hs) (by simp [AV.bareL, AV.bare, bl]) (pc_bump p1 _) fun s2 f2 g2 p2 => ?_
  simp -dsimp -implicitDefEqProofs [f2, g2, del_none, hlen]
  refine call_wr (hput) (by simp [AV.bareL, AV.bare, strs, bl]) (pc_bump p2 _) fun s3 f3 g3 p3 => ?_
  simp -dsimp -implicitDefEqProofs [f3, g3, del_none, hlen]
  exact pc_end0 p3
end Go.Proofs.YthaekebedmoipaaGreatDoor.AM

/- Contracts: the printer's texts of statements, all kinds. -/
set_option linter.unusedVariables false
set_option linter.unusedSimpArgs false
set_option maxRecDepth 100000
namespace Go.Proofs.YthaekebedmoipaaGreatDoor.AM
open Go Go.RowKit
variable {w0 : World} {base : Nat}

theorem wr_st1 (hT : Tabs w0 base) (o : Nat) (op t b : Int) (n : Str) (x y : Ex) (body els : List Sm) (ind : Str) (bo eo : Str × Bool) (hx : x.ok) (hy : y.ok) :
    Wr w0 base 195 o [.agg (Sm.mk 1 op t b n x y body els).cells, .str ind] (cats [([], spareP (Sm.mk 1 op t b n x y body els) false true false true true false false false), ([118, 97, 114, 32], false), paramP n t, ([32, 61, 32], false), exprP x]) := by
  have wx := wr_expr hT o x hx
  have wy := wr_expr hT o y hy
  have wi := wr_index o x _ wx
  refine wr_intro _ rfl fun st tk goal hn0 hn p0 => callW_fn Tryz.func195 r195 rfl ?_
  have hs := wr_spare_SVar (w0 := w0) (base := base) o (Sm.mk 1 op t b n x y body els)
  have bb := Sm.bare_cellsL body
  have be := Sm.bare_cellsL els
  obtain ⟨xk, xo, xt, xn, xv, xa⟩ := x
  obtain ⟨yk, yo, yt, yn, yv, ya⟩ := y
  have ba := Ex.bare_cellsL xa
  have bya := Ex.bare_cellsL ya
  simp only [Sm.cells, Ex.cells, Ex.cellsL, List.cons_append, List.nil_append, List.append_nil] at *
  generalize Ex.cellsL xa = ca at *
  generalize Ex.cellsL ya = cb at *
  generalize Sm.cellsL body = cc at *
  generalize Sm.cellsL els = cd at *
  unfold b195
  simp -dsimp -implicitDefEqProofs [hn0, hn, del_none]
  refine call_wr (hs) (by simp [AV.bareL, AV.bare, ba, bya, bb, be]) (pc_bump p0 _) fun s1 f1 g1 p1 => ?_
  simp -dsimp -implicitDefEqProofs [f1, g1, del_none]
  refine call_wr (wr_put o [[118, 97, 114, 32]] (by simp)) (by simp [AV.bareL, AV.bare, strs, ba, bya, bb, be]) (pc_bump p1 _) fun s2 f2 g2 p2 => ?_
  simp -dsimp -implicitDefEqProofs [f2, g2, del_none]
  refine call_wr (wr_param o n t) (by simp [AV.bareL, AV.bare, ba, bya, bb, be]) (pc_bump p2 _) fun s3 f3 g3 p3 => ?_
  simp -dsimp -implicitDefEqProofs [f3, g3, del_none]
  refine call_wr (wr_put o [[32, 61, 32]] (by simp)) (by simp [AV.bareL, AV.bare, strs, ba, bya, bb, be]) (pc_bump p3 _) fun s4 f4 g4 p4 => ?_
  simp -dsimp -implicitDefEqProofs [f4, g4, del_none]
  refine call_wr (wx) (by simp [AV.bareL, AV.bare, ba, bya, bb, be]) (pc_bump p4 _) fun s5 f5 g5 p5 => ?_
  simp -dsimp -implicitDefEqProofs [f5, g5, del_none]
  exact pc_end0 p5
theorem wr_st2 (hT : Tabs w0 base) (o : Nat) (op t b : Int) (n : Str) (x y : Ex) (body els : List Sm) (ind : Str) (bo eo : Str × Bool) (hx : x.ok) (hy : y.ok) :
    Wr w0 base 195 o [.agg (Sm.mk 2 op t b n x y body els).cells, .str ind] (cats [([], spareP (Sm.mk 2 op t b n x y body els) false false false true true false false false), (n, !isNameP n), ([32, 61, 32], false), exprP x]) := by
  have wx := wr_expr hT o x hx
  have wy := wr_expr hT o y hy
  have wi := wr_index o x _ wx
  refine wr_intro _ rfl fun st tk goal hn0 hn p0 => callW_fn Tryz.func195 r195 rfl ?_
  have hs := wr_spare_SSet (w0 := w0) (base := base) o (Sm.mk 2 op t b n x y body els)
  have bb := Sm.bare_cellsL body
  have be := Sm.bare_cellsL els
  obtain ⟨xk, xo, xt, xn, xv, xa⟩ := x
  obtain ⟨yk, yo, yt, yn, yv, ya⟩ := y
  have ba := Ex.bare_cellsL xa
  have bya := Ex.bare_cellsL ya
  simp only [Sm.cells, Ex.cells, Ex.cellsL, List.cons_append, List.nil_append, List.append_nil] at *
  generalize Ex.cellsL xa = ca at *
  generalize Ex.cellsL ya = cb at *
  generalize Sm.cellsL body = cc at *
  generalize Sm.cellsL els = cd at *
  unfold b195
  simp -dsimp -implicitDefEqProofs [hn0, hn, del_none]
  refine call_wr (hs) (by simp [AV.bareL, AV.bare, ba, bya, bb, be]) (pc_bump p0 _) fun s1 f1 g1 p1 => ?_
  simp -dsimp -implicitDefEqProofs [f1, g1, del_none]
  refine call_wr (wr_name o n) (by simp [AV.bareL, AV.bare, ba, bya, bb, be]) (pc_bump p1 _) fun s2 f2 g2 p2 => ?_
  simp -dsimp -implicitDefEqProofs [f2, g2, del_none]
  refine call_wr (wr_put o [[32, 61, 32]] (by simp)) (by simp [AV.bareL, AV.bare, strs, ba, bya, bb, be]) (pc_bump p2 _) fun s3 f3 g3 p3 => ?_
  simp -dsimp -implicitDefEqProofs [f3, g3, del_none]
  refine call_wr (wx) (by simp [AV.bareL, AV.bare, ba, bya, bb, be]) (pc_bump p3 _) fun s4 f4 g4 p4 => ?_
  simp -dsimp -implicitDefEqProofs [f4, g4, del_none]
  exact pc_end0 p4
theorem wr_st3 (hT : Tabs w0 base) (o : Nat) (op t b : Int) (n : Str) (x y : Ex) (body els : List Sm) (ind : Str) (bo eo : Str × Bool) (hx : x.ok) (hy : y.ok) :
    Wr w0 base 195 o [.agg (Sm.mk 3 op t b n x y body els).cells, .str ind] (cats [([], spareP (Sm.mk 3 op t b n x y body els) false false false true true true false false), (n, !isNameP n), indexP' (exprP x), ([32, 61, 32], false), exprP y]) := by
  have wx := wr_expr hT o x hx
  have wy := wr_expr hT o y hy
  have wi := wr_index o x _ wx
  refine wr_intro _ rfl fun st tk goal hn0 hn p0 => callW_fn Tryz.func195 r195 rfl ?_
  have hs := wr_spare_SStore (w0 := w0) (base := base) o (Sm.mk 3 op t b n x y body els)
  have bb := Sm.bare_cellsL body
  have be := Sm.bare_cellsL els
  obtain ⟨xk, xo, xt, xn, xv, xa⟩ := x
  obtain ⟨yk, yo, yt, yn, yv, ya⟩ := y
  have ba := Ex.bare_cellsL xa
  have bya := Ex.bare_cellsL ya
  simp only [Sm.cells, Ex.cells, Ex.cellsL, List.cons_append, List.nil_append, List.append_nil] at *
  generalize Ex.cellsL xa = ca at *
  generalize Ex.cellsL ya = cb at *
  generalize Sm.cellsL body = cc at *
  generalize Sm.cellsL els = cd at *
  unfold b195
  simp -dsimp -implicitDefEqProofs [hn0, hn, del_none]
  refine call_wr (hs) (by simp [AV.bareL, AV.bare, ba, bya, bb, be]) (pc_bump p0 _) fun s1 f1 g1 p1 => ?_
  simp -dsimp -implicitDefEqProofs [f1, g1, del_none]
  refine call_wr (wr_name o n) (by simp [AV.bareL, AV.bare, ba, bya, bb, be]) (pc_bump p1 _) fun s2 f2 g2 p2 => ?_
  simp -dsimp -implicitDefEqProofs [f2, g2, del_none]
  refine call_wr (wi) (by simp [AV.bareL, AV.bare, ba, bya, bb, be]) (pc_bump p2 _) fun s3 f3 g3 p3 => ?_
  simp -dsimp -implicitDefEqProofs [f3, g3, del_none]
  refine call_wr (wr_put o [[32, 61, 32]] (by simp)) (by simp [AV.bareL, AV.bare, strs, ba, bya, bb, be]) (pc_bump p3 _) fun s4 f4 g4 p4 => ?_
  simp -dsimp -implicitDefEqProofs [f4, g4, del_none]
  refine call_wr (wy) (by simp [AV.bareL, AV.bare, ba, bya, bb, be]) (pc_bump p4 _) fun s5 f5 g5 p5 => ?_
  simp -dsimp -implicitDefEqProofs [f5, g5, del_none]
  exact pc_end0 p5
theorem wr_st5a (hT : Tabs w0 base) (o : Nat) (op t b : Int) (n : Str) (x y : Ex) (body els : List Sm) (ind : Str) (bo eo : Str × Bool) (hx : x.ok) (hy : y.ok) (hb : Wr w0 base 130 o [.sl (Sm.cellsL body) body.length .no, .str ind] bo) (he : Wr w0 base 130 o [.sl (Sm.cellsL els) els.length .no, .str ind] eo) (hl : 0 < els.length) :
    Wr w0 base 195 o [.agg (Sm.mk 5 op t b n x y body els).cells, .str ind] (cats [([], spareP (Sm.mk 5 op t b n x y body els) false false false false true false true true), ([105, 102, 32], false), exprP x, ([32], false), bo, ([32, 101, 108, 115, 101, 32], false), eo]) := by
  have wx := wr_expr hT o x hx
  have wy := wr_expr hT o y hy
  have wi := wr_index o x _ wx
  refine wr_intro _ rfl fun st tk goal hn0 hn p0 => callW_fn Tryz.func195 r195 rfl ?_
  have hs := wr_spare_SIf (w0 := w0) (base := base) o (Sm.mk 5 op t b n x y body els)
  have bb := Sm.bare_cellsL body
  have be := Sm.bare_cellsL els
  obtain ⟨xk, xo, xt, xn, xv, xa⟩ := x
  obtain ⟨yk, yo, yt, yn, yv, ya⟩ := y
  have ba := Ex.bare_cellsL xa
  have bya := Ex.bare_cellsL ya
  simp only [Sm.cells, Ex.cells, Ex.cellsL, List.cons_append, List.nil_append, List.append_nil] at *
  generalize Ex.cellsL xa = ca at *
  generalize Ex.cellsL ya = cb at *
  generalize Sm.cellsL body = cc at *
  generalize Sm.cellsL els = cd at *
  unfold b195
  simp -dsimp -implicitDefEqProofs [hn0, hn, del_none, hl]
  refine call_wr (hs) (by simp [AV.bareL, AV.bare, ba, bya, bb, be]) (pc_bump p0 _) fun s1 f1 g1 p1 => ?_
  simp -dsimp -implicitDefEqProofs [f1, g1, del_none, hl]
  refine call_wr (wr_put o [[105, 102, 32]] (by simp)) (by simp [AV.bareL, AV.bare, strs, ba, bya, bb, be]) (pc_bump p1 _) fun s2 f2 g2 p2 => ?_
  simp -dsimp -implicitDefEqProofs [f2, g2, del_none, hl]
  refine call_wr (wx) (by simp [AV.bareL, AV.bare, ba, bya, bb, be]) (pc_bump p2 _) fun s3 f3 g3 p3 => ?_
  simp -dsimp -implicitDefEqProofs [f3, g3, del_none, hl]
  refine call_wr (wr_put o [[32]] (by simp)) (by simp [AV.bareL, AV.bare, strs, ba, bya, bb, be]) (pc_bump p3 _) fun s4 f4 g4 p4 => ?_
  simp -dsimp -implicitDefEqProofs [f4, g4, del_none, hl]
  refine call_wr (hb) (by simp [AV.bareL, AV.bare, ba, bya, bb, be]) (pc_bump p4 _) fun s5 f5 g5 p5 => ?_
  simp -dsimp -implicitDefEqProofs [f5, g5, del_none, hl]
  refine call_wr (wr_put o [[32, 101, 108, 115, 101, 32]] (by simp)) (by simp [AV.bareL, AV.bare, strs, ba, bya, bb, be]) (pc_bump p5 _) fun s6 f6 g6 p6 => ?_
  simp -dsimp -implicitDefEqProofs [f6, g6, del_none, hl]
  refine call_wr (he) (by simp [AV.bareL, AV.bare, ba, bya, bb, be]) (pc_bump p6 _) fun s7 f7 g7 p7 => ?_
  simp -dsimp -implicitDefEqProofs [f7, g7, del_none, hl]
  exact pc_end0 p7
theorem wr_st5b (hT : Tabs w0 base) (o : Nat) (op t b : Int) (n : Str) (x y : Ex) (body els : List Sm) (ind : Str) (bo eo : Str × Bool) (hx : x.ok) (hy : y.ok) (hb : Wr w0 base 130 o [.sl (Sm.cellsL body) body.length .no, .str ind] bo) (hl : els.length = 0) :
    Wr w0 base 195 o [.agg (Sm.mk 5 op t b n x y body els).cells, .str ind] (cats [([], spareP (Sm.mk 5 op t b n x y body els) false false false false true false true true), ([105, 102, 32], false), exprP x, ([32], false), bo]) := by
  have wx := wr_expr hT o x hx
  have wy := wr_expr hT o y hy
  have wi := wr_index o x _ wx
  refine wr_intro _ rfl fun st tk goal hn0 hn p0 => callW_fn Tryz.func195 r195 rfl ?_
  have hs := wr_spare_SIf (w0 := w0) (base := base) o (Sm.mk 5 op t b n x y body els)
  have bb := Sm.bare_cellsL body
  have be := Sm.bare_cellsL els
  obtain ⟨xk, xo, xt, xn, xv, xa⟩ := x
  obtain ⟨yk, yo, yt, yn, yv, ya⟩ := y
  have ba := Ex.bare_cellsL xa
  have bya := Ex.bare_cellsL ya
  simp only [Sm.cells, Ex.cells, Ex.cellsL, List.cons_append, List.nil_append, List.append_nil] at *
  generalize Ex.cellsL xa = ca at *
  generalize Ex.cellsL ya = cb at *
  generalize Sm.cellsL body = cc at *
  generalize Sm.cellsL els = cd at *
  unfold b195
  simp -dsimp -implicitDefEqProofs [hn0, hn, del_none, hl]
  refine call_wr (hs) (by simp [AV.bareL, AV.bare, ba, bya, bb, be, hl]) (pc_bump p0 _) fun s1 f1 g1 p1 => ?_
  simp -dsimp -implicitDefEqProofs [f1, g1, del_none, hl]
  refine call_wr (wr_put o [[105, 102, 32]] (by simp)) (by simp [AV.bareL, AV.bare, strs, ba, bya, bb, be, hl]) (pc_bump p1 _) fun s2 f2 g2 p2 => ?_
  simp -dsimp -implicitDefEqProofs [f2, g2, del_none, hl]
  refine call_wr (wx) (by simp [AV.bareL, AV.bare, ba, bya, bb, be, hl]) (pc_bump p2 _) fun s3 f3 g3 p3 => ?_
  simp -dsimp -implicitDefEqProofs [f3, g3, del_none, hl]
  refine call_wr (wr_put o [[32]] (by simp)) (by simp [AV.bareL, AV.bare, strs, ba, bya, bb, be, hl]) (pc_bump p3 _) fun s4 f4 g4 p4 => ?_
  simp -dsimp -implicitDefEqProofs [f4, g4, del_none, hl]
  refine call_wr (hb) (by simp [AV.bareL, AV.bare, ba, bya, bb, be, hl]) (pc_bump p4 _) fun s5 f5 g5 p5 => ?_
  simp -dsimp -implicitDefEqProofs [f5, g5, del_none, hl]
  exact pc_end p5 _
theorem wr_st6 (hT : Tabs w0 base) (o : Nat) (op t b : Int) (n : Str) (x y : Ex) (body els : List Sm) (ind : Str) (bo eo : Str × Bool) (hx : x.ok) (hy : y.ok) (hb : Wr w0 base 130 o [.sl (Sm.cellsL body) body.length .no, .str ind] bo) (hb0 : -9223372036854775808 ≤ b) (hb1 : b ≤ 9223372036854775807) :
    Wr w0 base 195 o [.agg (Sm.mk 6 op t b n x y body els).cells, .str ind] (cats [([], spareP (Sm.mk 6 op t b n x y body els) false false true false true false true false), ([119, 104, 105, 108, 101, 32], false), exprP x, ([32, 109, 111, 115, 116, 32] ++ (Lib.itoa b ++ [32]), false), bo]) := by
  have wx := wr_expr hT o x hx
  have wy := wr_expr hT o y hy
  have wi := wr_index o x _ wx
  refine wr_intro _ rfl fun st tk goal hn0 hn p0 => callW_fn Tryz.func195 r195 rfl ?_
  have hs := wr_spare_SWhile (w0 := w0) (base := base) o (Sm.mk 6 op t b n x y body els)
  have bb := Sm.bare_cellsL body
  have be := Sm.bare_cellsL els
  obtain ⟨xk, xo, xt, xn, xv, xa⟩ := x
  obtain ⟨yk, yo, yt, yn, yv, ya⟩ := y
  have ba := Ex.bare_cellsL xa
  have bya := Ex.bare_cellsL ya
  simp only [Sm.cells, Ex.cells, Ex.cellsL, List.cons_append, List.nil_append, List.append_nil] at *
  generalize Ex.cellsL xa = ca at *
  generalize Ex.cellsL ya = cb at *
  generalize Sm.cellsL body = cc at *
  generalize Sm.cellsL els = cd at *
  unfold b195
  have hm : Wr w0 base 122 o [.sl (strs [[32, 109, 111, 115, 116, 32], Lib.itoa b, [32]]) 3 .no] ([32, 109, 111, 115, 116, 32] ++ (Lib.itoa b ++ [32]), false) := by
    have := wr_put (w0 := w0) (base := base) o [[32, 109, 111, 115, 116, 32], Lib.itoa b, [32]] (by simp)
    simpa using this
  simp -dsimp -implicitDefEqProofs [hn0, hn, del_none]
  refine call_wr (hs) (by simp [AV.bareL, AV.bare, ba, bya, bb, be]) (pc_bump p0 _) fun s1 f1 g1 p1 => ?_
  simp -dsimp -implicitDefEqProofs [f1, g1, del_none]
  refine call_wr (wr_put o [[119, 104, 105, 108, 101, 32]] (by simp)) (by simp [AV.bareL, AV.bare, strs, ba, bya, bb, be]) (pc_bump p1 _) fun s2 f2 g2 p2 => ?_
  simp -dsimp -implicitDefEqProofs [f2, g2, del_none]
  refine call_wr (wx) (by simp [AV.bareL, AV.bare, ba, bya, bb, be]) (pc_bump p2 _) fun s3 f3 g3 p3 => ?_
  simp -dsimp -implicitDefEqProofs [f3, g3, del_none]
  refine call_of (d124 hT _ b hb0 hb1) ?_
  simp -dsimp -implicitDefEqProofs [f3, g3, del_none]
  refine call_wr (hm) (by simp [AV.bareL, AV.bare, strs, ba, bya, bb, be]) (pc_bump p3 _) fun s4 f4 g4 p4 => ?_
  simp -dsimp -implicitDefEqProofs [f4, g4, del_none]
  refine call_wr (hb) (by simp [AV.bareL, AV.bare, ba, bya, bb, be]) (pc_bump p4 _) fun s5 f5 g5 p5 => ?_
  simp -dsimp -implicitDefEqProofs [f5, g5, del_none]
  exact pc_end0 p5
theorem wr_st0 (o : Nat) (s : Sm) (ind : Str) (out : Str × Bool) (h : Wr w0 base 217 o [.agg s.cells] out) (hk : ∀ i : Int, (i = 1 ∨ i = 2 ∨ i = 3 ∨ i = 5 ∨ i = 6) → s.kind ≠ i) : Wr w0 base 195 o [.agg s.cells, .str ind] out := by
  refine wr_intro [out] (by simp) fun st tk goal hn0 hn p0 => callW_fn Tryz.func195 r195 rfl ?_
  obtain ⟨k, op, t, b, n, x, y, body, els⟩ := s
  have b1 : (k == 1) = false := by simpa using hk 1 (by omega)
  have b2 : (k == 2) = false := by simpa using hk 2 (by omega)
  have b3 : (k == 3) = false := by simpa using hk 3 (by omega)
  have b5 : (k == 5) = false := by simpa using hk 5 (by omega)
  have b6 : (k == 6) = false := by simpa using hk 6 (by omega)
  clear hk
  have bb := Sm.bare_cellsL body
  have be := Sm.bare_cellsL els
  obtain ⟨xk, xo, xt, xn, xv, xa⟩ := x
  obtain ⟨yk, yo, yt, yn, yv, ya⟩ := y
  have ba := Ex.bare_cellsL xa
  have bya := Ex.bare_cellsL ya
  simp only [Sm.cells, Ex.cells, List.cons_append, List.nil_append] at *
  generalize Ex.cellsL xa = ca at *
  generalize Ex.cellsL ya = cb at *
  generalize Sm.cellsL body = cc at *
  generalize Sm.cellsL els = cd at *
  unfold b195
  simp -dsimp -implicitDefEqProofs [hn0, hn, del_none, b1, b2, b3, b5, b6]
  refine call_wr (h) (by simp [AV.bareL, AV.bare, ba, bya, bb, be]) (pc_bump p0 _) fun s1 f1 g1 p1 => ?_
  simp -dsimp -implicitDefEqProofs [f1, g1, del_none, b1, b2, b3, b5, b6]
  exact pc_end0 p1

mutual
/-- The text of a statement behind an indentation. -/
def stmtP : Sm → Str → Str × Bool
  | .mk k op t b n x y body els, ind =>
    if k = 1 then cats [([], spareP (Sm.mk k op t b n x y body els) false true false true true false false false), ([118, 97, 114, 32], false), paramP n t, ([32, 61, 32], false), exprP x]
    else if k = 2 then cats [([], spareP (Sm.mk k op t b n x y body els) false false false true true false false false), (n, !isNameP n), ([32, 61, 32], false), exprP x]
    else if k = 3 then cats [([], spareP (Sm.mk k op t b n x y body els) false false false true true true false false), (n, !isNameP n), indexP' (exprP x), ([32, 61, 32], false), exprP y]
    else if k = 5 then cats ([([], spareP (Sm.mk k op t b n x y body els) false false false false true false true true), ([105, 102, 32], false), exprP x, ([32], false), blockP ind (cats (linesP (ind ++ [32, 32]) (stmtsP body (ind ++ [32, 32]))))] ++
      (if els.length = 0 then [] else [([32, 101, 108, 115, 101, 32], false), blockP ind (cats (linesP (ind ++ [32, 32]) (stmtsP els (ind ++ [32, 32]))))]))
    else if k = 6 then cats [([], spareP (Sm.mk k op t b n x y body els) false false true false true false true false), ([119, 104, 105, 108, 101, 32], false), exprP x, ([32, 109, 111, 115, 116, 32] ++ (Lib.itoa b ++ [32]), false), blockP ind (cats (linesP (ind ++ [32, 32]) (stmtsP body (ind ++ [32, 32]))))]
    else otherP (.mk k op t b n x y body els)
def stmtsP : List Sm → Str → List (Str × Bool)
  | [], _ => []
  | s :: l, ind => stmtP s ind :: stmtsP l ind
end
theorem stmtsP_map (ind : Str) : ∀ l : List Sm, stmtsP l ind = l.map fun s => stmtP s ind
  | [] => by simp [stmtsP]
  | s :: l => by simp [stmtsP, stmtsP_map ind l]
theorem wr_stmt (hT : Tabs w0 base) (o : Nat) : ∀ s : Sm, s.ok → ∀ ind, Wr w0 base 195 o [.agg s.cells, .str ind] (stmtP s ind) := by
  refine Sm.ind ?_
  intro k op t b n x y body els ih1 ih2 hok ind
  simp only [Sm.ok] at hok
  obtain ⟨⟨hb0, hb1⟩, hx, hy, h1, h2⟩ := hok
  have wb := wr_block (w0 := w0) (base := base) o body ind (fun s => stmtP s (ind ++ [32, 32])) fun s hs => ih1 s hs ((Sm.okL_iff body).1 h1 s hs) _
  have we := wr_block (w0 := w0) (base := base) o els ind (fun s => stmtP s (ind ++ [32, 32])) fun s hs => ih2 s hs ((Sm.okL_iff els).1 h2 s hs) _
  simp only [stmtP, stmtsP_map]
  split
  · rename_i e; subst e; exact wr_st1 hT o op t b n x y body els ind ([], false) ([], false) hx hy
  split
  · rename_i e; subst e; exact wr_st2 hT o op t b n x y body els ind ([], false) ([], false) hx hy
  split
  · rename_i e; subst e; exact wr_st3 hT o op t b n x y body els ind ([], false) ([], false) hx hy
  split
  · rename_i e; subst e
    split
    · rename_i hl
      exact wr_st5b hT o op t b n x y body els ind _ ([], false) hx hy wb hl
    · rename_i hl
      exact wr_st5a hT o op t b n x y body els ind _ _ hx hy wb we (by omega)
  split
  · rename_i e; subst e; exact wr_st6 hT o op t b n x y body els ind _ ([], false) hx hy wb hb0 hb1
  · refine wr_st0 o _ ind _ (wr_other hT o _ hx hy) fun i hi e => ?_
    replace e : k = i := e
    omega
/-- A list of statements behind an indentation. -/
def bodyP (ind : Str) (l : List Sm) : Str × Bool := cats (linesP ind (stmtsP l ind))
theorem wr_body (hT : Tabs w0 base) (o : Nat) (l : List Sm) (hok : Sm.okL l) (ind : Str) : Wr w0 base 160 o [.sl (Sm.cellsL l) l.length .no, .str ind] (bodyP ind l) := by
  unfold bodyP
  rw [stmtsP_map]
  exact wr_stmts o l ind _ fun s hs => wr_stmt hT o s ((Sm.okL_iff l).1 hok s hs) ind
theorem wr_braces (hT : Tabs w0 base) (o : Nat) (l : List Sm) (hok : Sm.okL l) (ind : Str) : Wr w0 base 130 o [.sl (Sm.cellsL l) l.length .no, .str ind] (blockP ind (bodyP (ind ++ [32, 32]) l)) := by
  unfold bodyP
  rw [stmtsP_map]
  exact wr_block o l ind _ fun s hs => wr_stmt hT o s ((Sm.okL_iff l).1 hok s hs) _
end Go.Proofs.YthaekebedmoipaaGreatDoor.AM

/- Contracts: which statements may be in functions. -/
set_option linter.unusedVariables false
set_option linter.unusedSimpArgs false
set_option maxRecDepth 100000
namespace Go.Proofs.YthaekebedmoipaaGreatDoor.AM
open Go Go.RowKit
variable {w0 : World} {base : Nat}

def indexF {α : Type} (f : α → Bool) : List α → Int
  | [] => -1
  | y :: l => if f y then 0 else if indexF f l = -1 then -1 else indexF f l + 1
theorem indexF_drop {α : Type} (f : α → Bool) (l : List α) (j : Nat) (y : α) (h : l[j]? = some y) : indexF f (l.drop j) = if f y then 0 else if indexF f (l.drop (j + 1)) = -1 then -1 else indexF f (l.drop (j + 1)) + 1 := by
  obtain ⟨hlt, e⟩ := List.getElem?_eq_some_iff.1 h
  rw [List.drop_eq_getElem_cons hlt, e]
  rfl
theorem indexF_ge {α : Type} (f : α → Bool) (l : List α) : -1 ≤ indexF f l := by
  induction l with
  | nil => simp [indexF]
  | cons y l ih => simp only [indexF]; split <;> (try split) <;> omega
theorem indexF_any {α : Type} (f : α → Bool) : ∀ l : List α, decide (0 ≤ indexF f l) = l.any f
  | [] => by simp [indexF]
  | y :: l => by
    have ih := indexF_any f l
    have hg := indexF_ge f l
    simp only [indexF, List.any_cons]
    by_cases hf : f y = true
    · simp [hf]
    · simp only [hf, if_false, Bool.false_eq_true, Bool.false_or]
      rw [← ih]
      split
      · rename_i e; rw [e]
      · have h1 : 0 ≤ indexF f l + 1 := by omega
        have h2 : 0 ≤ indexF f l := by omega
        simp [h1, h2]
theorem d193 (st : St) (l : List Sm) (f : Sm → Bool) (h : ∀ s ∈ l, ∀ st, Det Tryz.prog w0 base 158 [.agg s.cells] st (.bool (f s)) st) :
    Det Tryz.prog w0 base 193 [.sl (Sm.cellsL l) l.length .no, .func (.func 158) [] []] st (vi (indexF f l)) st := by
  refine det_self (enters_fn Tryz.func193 r193) fun hwf hfit => det_fn Tryz.func193 r193 rfl ?_
  have hlen : l.length ≤ big := hfit.1.1
  unfold big at hlen
  clear hfit
  have hrow := fun j x => @rowOf_at _ Sm.cells 19 Sm.cells_len l j x
  have hle := fun j x => @rowOf_le _ Sm.cells 19 Sm.cells_len l j x
  rw [Sm.cellsL_row] at *
  generalize rowOf Sm.cells l = ca at *
  unfold b193
  simp -dsimp -implicitDefEqProofs
  refine range_by (d := 9) (x := 8) (n := 7) (y := 18) l.length (fun j e s => (indexF f l = if indexF f (l.drop j) = -1 then -1 else indexF f (l.drop j) + j) ∧ s.objs = st.objs) hlen rfl rfl ⟨by simp [indexF], rfl⟩ rfl (fun j e e' s k h _ => h) ?_ ?_
  · rintro j e s hj hf hx ⟨hI, hs⟩
    have e1 := hf 1 rfl
    have e0 := hf 0 rfl
    simp at e1 e0
    obtain ⟨y, hy⟩ : ∃ y, l[j]? = some y := ⟨_, List.getElem?_eq_getElem hj⟩
    have hr := hrow j y hy
    have hl := hle j y hy
    have hd := indexF_drop f l j y hy
    have hg := indexF_ge f (l.drop (j + 1))
    have hc := h y (List.mem_of_getElem? hy)
    have hyb := Sm.bare_cells y
    generalize y.cells = yc at *
    simp -dsimp -implicitDefEqProofs [e1, e0, hx, hj, hr, hl]
    refine call_bare (hc _) (by simp [AV.bareL, AV.bare, hyb]) ?_
    simp -dsimp -implicitDefEqProofs [e1, e0, hx, hj, hr, hl]
    refine Br_iff (fun hb => ?_) (fun hb => ?_)
    · simp -dsimp -implicitDefEqProofs [e1, e0, hx, hj]
      refine fin_pure hwf (fun p hp => ?_) ?_
      · simp [hs]
      · simp_all [eraseA]
    · simp -dsimp -implicitDefEqProofs
      refine hold ⟨?_, by simp [hs]⟩
      rw [hb] at hd
      rw [hI, hd]
      push_cast
      try simp only [Bool.false_eq_true, if_false]
      split <;> (try split) <;> (try split) <;> omega
  · rintro e s hf ⟨hI, hs⟩
    simp -dsimp -implicitDefEqProofs
    refine fin_pure hwf (fun p hp => ?_) ?_
    · simp [hs]
    · simp [indexF] at hI
      simp [hI, eraseA]
theorem d157 (st : St) (l : List Sm) (f : Sm → Bool) (h : ∀ s ∈ l, ∀ st, Det Tryz.prog w0 base 158 [.agg s.cells] st (.bool (f s)) st) :
    Det Tryz.prog w0 base 157 [.sl (Sm.cellsL l) l.length .no, .func (.func 158) [] []] st (.bool (l.any f)) st := by
  refine det_self (enters_fn Tryz.func157 r157) fun hwf hfit => det_fn Tryz.func157 r157 rfl ?_
  have hc := fun st => d193 (w0 := w0) (base := base) st l f h
  have bl := Sm.bare_cellsL l
  clear h hfit
  generalize Sm.cellsL l = ca at *
  unfold b157
  simp -dsimp -implicitDefEqProofs
  refine call_bare (hc _) (by simp [AV.bareL, AV.bare, bl]) ?_
  simp -dsimp -implicitDefEqProofs
  exact fin_bump hwf (by simp [eraseA, ← indexF_any])
def wPure : List Int := [1, 2, 5, 6, 7, 8]
mutual
/-- Is a statement one that a function must not have? -/
def impureP : Sm → Bool
  | .mk k _ _ _ _ _ _ body els => !decide (k ∈ wPure) || (anyImpure body || anyImpure els)
def anyImpure : List Sm → Bool
  | [] => false
  | s :: l => impureP s || anyImpure l
end
theorem anyImpure_any : ∀ l : List Sm, anyImpure l = l.any impureP
  | [] => by simp [anyImpure]
  | s :: l => by simp [anyImpure, anyImpure_any l]
theorem d128_of (st : St) (l : List Sm) (h : ∀ s ∈ l, ∀ st, Det Tryz.prog w0 base 158 [.agg s.cells] st (.bool (impureP s)) st) :
    Det Tryz.prog w0 base 128 [.sl (Sm.cellsL l) l.length .no] st (.bool (!anyImpure l)) st := by
  refine det_self (enters_fn Tryz.func128 r128) fun hwf hfit => det_fn Tryz.func128 r128 rfl ?_
  have hc := fun st => d157 (w0 := w0) (base := base) st l impureP h
  have bl := Sm.bare_cellsL l
  clear h hfit
  rw [anyImpure_any]
  generalize Sm.cellsL l = ca at *
  unfold b128
  simp -dsimp -implicitDefEqProofs
  refine call_bare (hc _) (by simp [AV.bareL, AV.bare, bl]) ?_
  simp -dsimp -implicitDefEqProofs
  exact fin_bump hwf (by simp [eraseA])
theorem d158 : ∀ (s : Sm) (st : St), Det Tryz.prog w0 base 158 [.agg s.cells] st (.bool (impureP s)) st := by
  refine Sm.ind ?_
  intro k op t b n x y body els ih1 ih2 st
  refine det_self (enters_fn Tryz.func158 r158) fun hwf hfit => det_fn Tryz.func158 r158 rfl ?_
  have h1 := fun st => d128_of (w0 := w0) (base := base) st body ih1
  have h2 := fun st => d128_of (w0 := w0) (base := base) st els ih2
  have bb := Sm.bare_cellsL body
  have be := Sm.bare_cellsL els
  have hn0 := wf_none0 hwf
  have hn := wf_none hwf
  clear ih1 ih2 hfit
  obtain ⟨xk, xo, xt, xn, xv, xa⟩ := x
  obtain ⟨yk, yo, yt, yn, yv, ya⟩ := y
  simp only [Sm.cells, Ex.cells, List.cons_append, List.nil_append, impureP] at *
  generalize Ex.cellsL xa = ca at *
  generalize Ex.cellsL ya = cb at *
  generalize Sm.cellsL body = cc at *
  generalize Sm.cellsL els = cd at *
  generalize anyImpure body = ib at *
  generalize anyImpure els = ie at *
  unfold b158
  simp -dsimp -implicitDefEqProofs [hn0, hn, del_none]
  refine call_bare (d159 _ wPure k) (by simp [AV.bareL, AV.bare, wPure]) ?_
  simp -dsimp -implicitDefEqProofs [hn0, hn, del_none]
  refine Br_iff (fun hb => ?_) (fun hb => ?_)
  · simp -dsimp -implicitDefEqProofs [hb]
    exact fin_bump hwf (by simp [eraseA, hb])
  · simp -dsimp -implicitDefEqProofs [hb]
    refine call_bare (h1 _) (by simp [AV.bareL, AV.bare, bb]) ?_
    cases ib
    · simp -dsimp -implicitDefEqProofs [hb]
      refine call_bare (h2 _) (by simp [AV.bareL, AV.bare, be]) ?_
      simp -dsimp -implicitDefEqProofs [hb]
      exact fin_bump hwf (by simp [eraseA, hb])
    · simp -dsimp -implicitDefEqProofs [hb]
      exact fin_bump hwf (by simp [eraseA, hb])
theorem d128 (st : St) (l : List Sm) : Det Tryz.prog w0 base 128 [.sl (Sm.cellsL l) l.length .no] st (.bool (!anyImpure l)) st := d128_of st l fun s _ => d158 s
end Go.Proofs.YthaekebedmoipaaGreatDoor.AM

/- The abstract logic, part 32: ranges whose marks have any numbers; one object that turns. -/
set_option linter.unusedVariables false
set_option linter.unusedSimpArgs false
namespace Go.Proofs.YthaekebedmoipaaGreatDoor.AM
open Go Go.RowKit

/-- The code of 'for .. := range ..' and 'for i := 0; i < n; i++'. -/
@[reducible] def rangeAt (ei bi d x n y : Nat) (body : SCode) : SCode :=
  .seq (.reg [⟨some d, none, .pe (.bin .int .lss (.tmp x) (.tmp n))⟩]) (.seq (.cond (.tmp d) .skip (.exit ei)) (.seq (.block bi body) (.reg [⟨some y, none, .pe (.bin .int .add (.tmp x) (.lit (.int .i64 1)))⟩, ⟨some x, none, .pe (.mov (.tmp y))⟩])))

/-- What is asked behind a round's body. -/
def nextAt (bi : Nat) (I : Env → St → Prop) (Q : CK) : CK := fun ex e d s => match ex with
  | .normal => Hold (I e s) .mk
  | .exit i => if i = bi then Hold (I e s) .mk else Q (.exit i) e d s
  | .ret => Q .ret e d s
@[simp ↓] theorem nextAt_normal (bi : Nat) (I : Env → St → Prop) (Q : CK) (e : Env) (d : List ADef) (s : St) : nextAt bi I Q .normal e d s = Hold (I e s) .mk := rfl
@[simp ↓] theorem nextAt_ret (bi : Nat) (I : Env → St → Prop) (Q : CK) (e : Env) (d : List ADef) (s : St) : nextAt bi I Q .ret e d s = Q .ret e d s := rfl
@[simp ↓] theorem nextAt_one (bi : Nat) (I : Env → St → Prop) (Q : CK) (e : Env) (d : List ADef) (s : St) : nextAt bi I Q (.exit bi) e d s = Hold (I e s) .mk := if_pos rfl
@[simp ↓] theorem nextAt_exit (bi : Nat) (I : Env → St → Prop) (Q : CK) (i : Nat) (h : i ≠ bi) (e : Env) (d : List ADef) (s : St) : nextAt bi I Q (.exit i) e d s = Q (.exit i) e d s := if_neg h

section
variable {P : Program} {w0 : World} {base : Nat}
/-- A range. The invariant may speak of temporaries that the round's own counting does not write, and of the store. -/
theorem range_at {ei bi d x n y : Nat} {body : SCode} {env : Env} {ds : List ADef} {st : St} {Q : CK} {l : Lock (rangeAt ei bi d x n y body, env, Q)} (N : Nat) (I : Nat → Env → St → Prop) (hN : N ≤ 140737488355328)
    (hn : env n = .int .i64 N) (hx : env x = .int .i64 0) (h0 : I 0 env st)
    (hw : (!wr n (rangeAt ei bi d x n y body) && !wr x body && !df (rangeAt ei bi d x n y body) && d != x && d != n && y != n && x != n && y != x) = true)
    (hs : ∀ j e e' s k, I j e s → (∀ t, t ≠ d → t ≠ x → t ≠ y → e' t = e t) → I j e' (s.bump k))
    (hbody : ∀ j e s, j < N → (∀ t, wr t (rangeAt ei bi d x n y body) = false → e t = env t) → e x = .int .i64 j → I j e s → awp P w0 base body e ds s (nextAt bi (I (j + 1)) Q))
    (hend : ∀ e s, (∀ t, wr t (rangeAt ei bi d x n y body) = false → e t = env t) → I N e s → Q (.exit ei) e ds s) : LoopL P w0 base (rangeAt ei bi d x n y body) env ds st Q l := by
  simp only [Bool.and_eq_true, Bool.not_eq_true', bne_iff_ne, ne_eq] at hw
  obtain ⟨⟨⟨⟨⟨⟨⟨w1, w2⟩, w3⟩, w4⟩, w5⟩, w6⟩, w7⟩, w8⟩ := hw
  have hdx : ∀ t, wr t (rangeAt ei bi d x n y body) = false → t ≠ d ∧ t ≠ x ∧ t ≠ y := by
    intro t ht
    simp only [rangeCode, wr, wrO, Bool.or_false, Bool.or_eq_false_iff, Bool.false_or] at ht
    refine ⟨?_, ?_, ?_⟩ <;> (rintro rfl; simp at ht)
  refine loop_by (fun m e s => ∃ j, j + m = N ∧ e x = .int .i64 j ∧ I j e s) N ⟨0, by omega, hx, h0⟩ w3 ?_
  rintro m e s hf ⟨j, hj, hex, hI⟩
  have hen := (hf n w1).trans hn
  by_cases hlt : j < N
  · simp -dsimp -implicitDefEqProofs [hex, hen, hlt]
    have hb := hbody j (e.put (some d) (.bool true)) (s.bump 1) hlt (fun t ht => by (try simp only [put_some]); rw [set_at, if_neg (hdx t ht).1]; exact hf t ht) (by (try simp only [put_some]); rw [set_at, if_neg (Ne.symm w4)]; exact hex)
      (hs j e _ s 1 hI (fun t h1 _ _ => by (try simp only [put_some]); rw [set_at, if_neg h1]))
    refine awp_mono body _ _ _ _ _ ?_ (awp_frame body _ _ _ _ hb)
    rintro ex e2 d2 s2 ⟨hq, g1, g2⟩
    have hx2 : e2 x = .int .i64 j := by rw [g1 x w2]; (try simp only [put_some]); rw [set_at, if_neg (Ne.symm w4)]; exact hex
    have hd2 : d2 = ds := g2 (by simp only [rangeCode, df, dfO, Bool.or_false, Bool.or_eq_false_iff, Bool.false_or] at w3; first | exact w3 | exact w3.1 | exact w3.2)
    subst hd2
    have hgo : I (j + 1) e2 s2 → awp P w0 base (.reg [⟨some y, none, .pe (.bin .int .add (.tmp x) (.lit (.int .i64 1)))⟩, ⟨some x, none, .pe (.mov (.tmp y))⟩]) e2 d2 s2 (nextRound (fun m e d s => ∃ j, j + m = N ∧ e x = .int .i64 j ∧ I j e s) m Q) := by
      intro hI2
      simp -dsimp -implicitDefEqProofs [hx2, wrap_up (show j < 9223372036854775807 by omega)]
      refine hold ⟨m - 1, by omega, j + 1, by omega, by simp, ?_⟩
      exact hs (j + 1) e2 _ s2 2 hI2 (fun t _ h2 h3 => by (try simp only [put_some]); rw [set_at, if_neg h2, set_at, if_neg h3])
    cases ex with
    | normal => exact hgo hq
    | ret => exact hq
    | exit i =>
      by_cases hi : i = bi
      · subst hi; rw [nextAt_one] at hq; simp -dsimp -implicitDefEqProofs only [inBlock_exit, andThen_normal]; exact hgo hq
      · simp -dsimp -implicitDefEqProofs only [inBlock_other bi i _ _ _ _ hi, andThen_exit, nextRound_exit]
        rw [nextAt_exit _ _ _ _ hi] at hq
        exact hq
  · simp -dsimp -implicitDefEqProofs [hex, hen, hlt]
    have : j = N := by omega
    subst this
    exact hend _ _ (fun t ht => by (try simp only [put_some]); rw [set_at, if_neg (hdx t ht).1]; exact hf t ht) (hs j e _ s 1 hI (fun t h1 _ _ => by (try simp only [put_some]); rw [set_at, if_neg h1]))
end

/-- One object of those that were has turned; what else was is as it was. -/
structure Own (st : St) (o : Nat) (x : AObj) (s : St) : Prop where
  wf : s.wf
  next : st.next ≤ s.next
  lt : o < st.next
  at_ : s.objs o = some x
  old : ∀ p, p < st.next → p ≠ o → s.objs p = st.objs p
theorem own_start {st : St} {o : Nat} {x : AObj} (h : st.wf) (ho : st.objs o = some x) : Own st o x st := ⟨h, Nat.le_refl _, h _ _ ho, ho, fun _ _ _ => rfl⟩
theorem own_bump {st s : St} {o : Nat} {x : AObj} (h : Own st o x s) (k : Nat) : Own st o x (s.bump k) := ⟨wf_bump h.wf, Nat.le_trans h.next (Nat.le_add_right _ _), h.lt, h.at_, h.old⟩
theorem own_put {st s : St} {o : Nat} {x : AObj} (h : Own st o x s) (y : AObj) : Own st o y (s.put o y) :=
  ⟨wf_put h.wf (Nat.lt_of_lt_of_le h.lt h.next), h.next, h.lt, by simp, fun p h1 h2 => by simp [h2, h.old p h1 h2]⟩
theorem own_new {st s : St} {o : Nat} {x : AObj} (h : Own st o x s) {k q : Nat} (y : AObj) (h1 : s.next ≤ q) (h2 : q < s.next + k) : Own st o x ((s.bump k).put q y) :=
  ⟨wf_put (wf_bump h.wf) h2, Nat.le_trans h.next (Nat.le_add_right _ _), h.lt, by have := h.lt; have := h.next; rw [put_objs, if_neg (by omega)]; exact h.at_, fun p g1 g2 => by have := h.next; rw [put_objs, if_neg (by omega)]; exact h.old p g1 g2⟩
theorem fin_own {st s : St} {o : Nat} {x : AObj} {r0 r : AV} (hwf : st.wf) (h : Own st o x s) (hx : x.under (· < st.next)) (e : eraseA st.next r0 = some r) : Fin st s r0 r (st.put o x) := by
  refine fin_put hwf h.lt (fun p hp => ?_) hx e
  by_cases hpo : p = o
  · subst hpo; simp [h.at_]
  · simp [hpo, h.old p hp hpo]
theorem det_put {P : Program} {w0 : World} {base : Nat} {f : FuncId} {args : List AV} {st : St} {r : AV} {o : Nat} {x y : AObj} (hE : Enters P f) (ho : st.objs o = some x) (h : st.wf → AV.fitL args → Det P w0 base f args st r (st.put o y)) : Det P w0 base f args st r (st.put o y) := by
  refine det_know hE (Nat.le_refl _) (fun p hp hn => ?_) h
  rw [put_objs]
  split
  · rename_i e; rw [e, ho] at hn; cases hn
  · exact hn

/-! #### counting that goes round -/
theorem wrap_def (a : Int) : IntKind.i64.wrap a = if 9223372036854775808 ≤ a % 18446744073709551616 then a % 18446744073709551616 - 18446744073709551616 else a % 18446744073709551616 := by
  simp [IntKind.wrap, IntKind.signed, IntKind.bits]
theorem wrap_dvd (a : Int) : ∃ c, IntKind.i64.wrap a = a + 18446744073709551616 * c := by
  rw [wrap_def]
  split
  · exact ⟨-(a / 18446744073709551616) - 1, by omega⟩
  · exact ⟨-(a / 18446744073709551616), by omega⟩
theorem wrap_shift (a c : Int) : IntKind.i64.wrap (a + 18446744073709551616 * c) = IntKind.i64.wrap a := by
  rw [wrap_def, wrap_def, Int.add_mul_emod_self_left]
theorem wrap_add (a b : Int) : IntKind.i64.wrap (IntKind.i64.wrap a + b) = IntKind.i64.wrap (a + b) := by
  obtain ⟨c, h⟩ := wrap_dvd a
  rw [h, show a + 18446744073709551616 * c + b = a + b + 18446744073709551616 * c by omega, wrap_shift]
end Go.Proofs.YthaekebedmoipaaGreatDoor.AM
