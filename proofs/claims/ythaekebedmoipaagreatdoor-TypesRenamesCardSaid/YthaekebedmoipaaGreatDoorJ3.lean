/- Part 3 of the proof: A23 A23b A24 A25 A26 A27 A28 A29 A30 A31. -/
import Derived.Test.YthaekebedmoipaaGreatDoorJ2
set_option linter.unusedVariables false
set_option linter.unusedSimpArgs false
set_option linter.unusedSectionVars false
set_option maxRecDepth 100000
namespace Go.Proofs.YthaekebedmoipaaGreatDoor.AM
open Go Go.RowKit
section
section
variable {P : Program} {w0 : World} {base N : Nat}
theorem wo : ∀ (c : Code) (sc : SCode), resCode P N c = some sc → ∀ (env : Env) (ds : List ADef) (st : St) (Q : CK), awp P w0 base sc env ds st Q → ∃ ex env' ds' st', DetC P w0 base N c env ds st ex env' ds' st' ∧ Q ex env' ds' st'
 | .skip, sc, hr, env, ds, st, Q, h => by
  cases hr
  exact ⟨.normal, env, ds, st, detC_stay fun Q a w hq => wp_skip hq, h⟩
 | .seq a b, sc, hr, env, ds, st, Q, h => by
  simp only [resCode] at hr
  split at hr
  ·rename_i sa sb ha hb
   cases hr
   obtain ⟨ex, e1, d1, s1, h1, h2⟩ := wo a sa ha env ds st _ h
   cases ex with
   | normal =>
    obtain ⟨ex, e2, d2, s2, h3, h4⟩ := wo b sb hb e1 d1 s1 Q h2
    exact ⟨ex, e2, d2, s2, detC_seq h1 h3, h4⟩
   | exit id => exact ⟨_, _, _, _, detC_seq_out (by simp) h1, h2⟩
   | ret => exact ⟨_, _, _, _, detC_seq_out (by simp) h1, h2⟩
  ·cases hr
 | .cond x a b, sc, hr, env, ds, st, Q, h => by
  simp only [resCode] at hr
  split at hr
  ·rename_i c sa sb hx ha hb
   cases hr
   simp only [awp] at h
   split at h
   ·rename_i t ht
    cases t with
    | true =>
     rw [if_pos rfl] at h
     obtain ⟨ex, e1, d1, s1, h1, h2⟩ := wo a sa ha env ds st _ h
     exact ⟨ex, e1, d1, s1, detC_cond hx ht h1, h2⟩
    | false =>
     rw [if_neg (by simp)] at h
     obtain ⟨ex, e1, d1, s1, h1, h2⟩ := wo b sb hb env ds st _ h
     exact ⟨ex, e1, d1, s1, detC_cond hx ht (by simpa using h1), h2⟩
   ·exact h.elim
  ·cases hr
 | .block id c, sc, hr, env, ds, st, Q, h => by
  simp only [resCode] at hr
  obtain ⟨sc', hc, rfl⟩ := Option.map_eq_some_iff.1 hr
  simp only [awp] at h
  obtain ⟨ex, e1, d1, s1, h1, h2⟩ := wo c sc' hc env ds st _ h
  refine ⟨_, e1, d1, s1, detC_block h1 rfl, ?_⟩
  cases ex with
  | normal => exact h2
  | ret => exact h2
  | exit i =>
   simp only at h2 ⊢
   split
   ·rename_i e; rwa [if_pos e] at h2
   ·rename_i e; rwa [if_neg e] at h2
 | .loop c, sc, hr, env, ds, st, Q, h => by
  simp only [resCode] at hr
  obtain ⟨sc', hc, rfl⟩ := Option.map_eq_some_iff.1 hr
  simp only [awp] at h
  obtain ⟨n, h⟩ := h
  exact iter_path (fun env ds st Q hb => wo c sc' hc env ds st Q hb) n env ds st h
 | .exit id, sc, hr, env, ds, st, Q, h => by
  cases hr
  exact ⟨.exit id, env, ds, st, detC_stay fun Q a w hq => wp_exit hq, h⟩
 | .ret, sc, hr, env, ds, st, Q, h => by
  cases hr
  exact ⟨.ret, env, ds, st, detC_stay fun Q a w hq => wp_ret hq, h⟩
 | .region id ops draw, sc, hr, env, ds, st, Q, h => by
  simp only [resCode] at hr
  split at hr
  ·rename_i ss hss
   cases draw with
   | false =>
    simp only [Bool.false_eq_true, if_false, Option.some.injEq] at hr
    subst hr
    simp only [awp] at h
    obtain ⟨env', ds', st', h1, h2⟩ := awpOps_run ss _ _ _ _ h
    exact ⟨.normal, env', ds', st', detC_reg (by rw [plain_of_list _ _ _ hss]; exact hss) h1, h2⟩
   | true =>
    simp only [if_true] at hr
    split at hr
    ·rename_i hd
     rw [Bool.and_eq_true] at hd
     cases hr
     simp only [awp] at h
     obtain ⟨env', st', h1, h2⟩ := detC_draw (ds := ds) hd.2 hss hd.1 h.1 h.2
     exact ⟨.normal, env', ds, st', h2, h1⟩
    ·cases hr
  ·cases hr
 | .rangeFunc .., sc, hr, env, ds, st, Q, h => by cases hr
 | .scope .., sc, hr, env, ds, st, Q, h => by cases hr
 | .label .., sc, hr, env, ds, st, Q, h => by cases hr
 | .goto .., sc, hr, env, ds, st, Q, h => by cases hr
 | .refuse .., sc, hr, env, ds, st, Q, h => by cases hr
inductive SRes where
 | tmp (t : Nat)
 | cell (t n : Nat) (agg : Bool)
def resRes (P : Program) : ResultVar → Option SRes
 | .tmp t => some (.tmp t)
 | .cell t ty => match sizeT P ty with
  | some n => if (P.underlying ty).isSome then some (.cell t n (aggT P ty)) else none
  | none => none
def SRes.eval (env : Env) (st : St) : SRes → Option AV
 | .tmp t => some (env t)
 | .cell t n agg => match env t with
  | .ptr o off => match st.data o with
   | some cs => loadA n agg cs off
   | none => none
  | _ => none
structure SFunc where
 N : Nat
 results : List SRes
 body : SCode
def resAll (P : Program) : List ResultVar → Option (List SRes)
 | [] => some []
 | r :: l => match resRes P r, resAll P l with
  | some r, some l => some (r :: l)
  | _, _ => none
def resFunc (P : Program) (fn : Func) : Option SFunc :=
 if fn.name == "runtime.NumGoroutine" then none else
 match fn.body with
 | some c => match resCode P fn.ntmps c, resAll P fn.results.toList with
  | some sc, some rs => some ⟨fn.ntmps, rs, sc⟩
  | _, _ => none
 | none => none
def evalRes (env : Env) (st : St) : List SRes → Option (List AV)
 | [] => some []
 | r :: l => match r.eval env st, evalRes env st l with
  | some v, some vs => some (v :: vs)
  | _, _ => none
def packRes : List AV → AV
 | [v] => v
 | vs => .tuple vs
def initEnv (args : List AV) : Env := fun i => args.getD i .undef
theorem initEnv_rep {G : Gh} {w : World} {args : List AV} {vs : List Value} (h : RepL G w args vs) (N : Nat) (hl : args.length ≤ N) : RepFr G w N (initEnv args) [] { tmps := ⟨vs⟩ ++ Array.replicate (N - vs.length) undef, defers := [] } := by
 have hlen := repL_length h
 refine ⟨by simp; omega, fun i => ?_, rfl⟩
 by_cases hi : i < args.length
 ·have h1 : initEnv args i = args[i] := by simp [initEnv, hi]
  obtain ⟨u, hu, hr⟩ := repL_get h i args[i] (by simp [hi])
  have h2 : (⟨vs⟩ ++ Array.replicate (N - vs.length) undef : Array Value).getD i undef = u := by
   obtain ⟨hlt, e⟩ := List.getElem?_eq_some_iff.1 hu
   rw [Array.getD_eq_getD_getElem?, Array.getElem?_append_left (by simpa using hlt)]
   simp [hlt, e]
  simp only at h2 ⊢
  rw [h1, h2]; exact hr
 ·have h1 : initEnv args i = .undef := by simp [initEnv, List.getElem?_eq_none (by omega : args.length ≤ i)]
  rw [h1]; trivial
def resVal (tmps : Array Value) : ResultVar → Sem Value
 | .tmp t => pure (tmps.getD t undef)
 | .cell p t => do loadVar t (← asAddr (tmps.getD p undef))
theorem results_eq (fn : Func) (tmps : Array Value) : results fn tmps = (do
  let vs ← fn.results.mapM (resVal tmps)
  pure (if h : vs.size = 1 then vs[0] else .tuple vs)) := by
 unfold results
 congr 1
theorem run_resRes {G : Gh} {w : World} {st : St} {env : Env} {a : Act} (hI : Inv w0 base G st w) (hR : RepEnv G w env a) {r : ResultVar} {s : SRes} (hr : resRes P r = some s) {v : AV} (hv : s.eval env st = some v) :
  ∃ u, (resVal a.tmps r).run P w = .ok u w ∧ Rep G w v u := by
 cases r with
 | tmp t => cases hr; cases hv; exact ⟨_, rfl, hR t⟩
 | cell t ty =>
  simp only [resRes] at hr
  split at hr
  ·rename_i n hn
   split at hr
   ·rename_i hu
    cases hr
    simp only [SRes.eval] at hv
    split at hv
    ·rename_i o off heq
     split at hv
     ·rename_i cs hd
      have h1 := hR t
      rw [heq] at h1
      obtain ⟨u, hu1, hu2⟩ := load_sound (P := P) hI (x := .ptr o off) h1 hu hn rfl (.inr ⟨o, off, cs, rfl, hd, hv⟩)
      obtain ⟨_, ad, had, _⟩ := h1
      refine ⟨u, ?_, hu2⟩
      rw [had] at hu1
      show (do loadVar ty (← asAddr (a.tmps.getD t undef)) : Sem Value).run P w = _
      rw [had]
      simpa [Instr.loadAt, Instr.sureAddr, asAddr] using hu1
     ·cases hv
    ·cases hv
   ·cases hr
  ·cases hr
theorem run_results {G : Gh} {w : World} {st : St} {env : Env} {a : Act} (hI : Inv w0 base G st w) (hR : RepEnv G w env a) {fn : Func} {rs : List SRes} (hr : resAll P fn.results.toList = some rs) {vs : List AV} (hv : evalRes env st rs = some vs) :
  ∃ u, (results fn a.tmps).run P w = .ok u w ∧ Rep G w (packRes vs) u := by
 have key : ∀ (l : List ResultVar) (rs : List SRes) (vs : List AV), resAll P l = some rs → evalRes env st rs = some vs →
   ∃ us, (l.mapM (resVal a.tmps)).run P w = .ok us w ∧ RepL G w vs us := by
  intro l
  induction l with
  | nil => intro rs vs h1 h2; cases h1; cases h2; exact ⟨[], by simp, rfl⟩
  | cons r l ih =>
   intro rs vs h1 h2
   simp only [resAll] at h1
   split at h1
   ·rename_i s rs' hs hrs
    cases h1
    simp only [evalRes] at h2
    split at h2
    ·rename_i v vs' hv hvs
     cases h2
     obtain ⟨u, q1, q2⟩ := run_resRes hI hR hs hv
     obtain ⟨us, q3, q4⟩ := ih rs' vs' hrs hvs
     refine ⟨u :: us, ?_, u, us, rfl, q2, q4⟩
     rw [List.mapM_cons]
     simp only [Sem.run_bind, q1, Result.andThen_ok, q3, Sem.run_pure]
    ·cases h2
   ·cases h1
 obtain ⟨us, q1, q2⟩ := key fn.results.toList rs vs hr hv
 have hlen := repL_length q2
 have hrun : (results fn a.tmps).run P w = .ok (if h : us.toArray.size = 1 then us.toArray[0] else .tuple us.toArray) w := by
  rw [results_eq, Array.mapM_eq_mapM_toList]
  simp only [Sem.run_bind, Sem.run_map, q1, Result.andThen_ok, Sem.run_pure]
 refine ⟨_, hrun, ?_⟩
 cases vs with
 | nil => cases q2; exact ⟨[], rfl, rfl⟩
 | cons v vs =>
  cases vs with
  | nil =>
   obtain ⟨u, us', rfl, h1, h2⟩ := q2
   cases h2
   simpa [packRes] using h1
  | cons v2 vs =>
   obtain ⟨u, us', rfl, h1, u2, us2, rfl, h2, h3⟩ := q2
   have : ¬ ((u :: u2 :: us2).toArray.size = 1) := by simp
   rw [dif_neg this]
   exact ⟨_, rfl, u, _, rfl, h1, u2, _, rfl, h2, h3⟩
end
end
section
section
variable {P : Program} {w0 : World} {base N : Nat} {G : Gh} {w : World}
def Gh.froze (G : Gh) (o b n : Nat) : Gh := { G with blk := upd G.blk o none, own := upd G.own b none, lim := upd G.lim b n }
theorem froze_ext {o b n : Nat} (hl : G.lim b = 0) : Ext base G w (G.froze o b n) w := by
 refine ⟨Below.refl _ _, fun _ h => h, fun p hp => ?_, fun _ _ => .inl ⟨rfl, rfl, rfl⟩, fun _ _ => rfl, fun b' off u g1 g2 => ⟨?_, g2⟩⟩
 ·by_cases e : p = o
  ·subst e; exact .inr (zd _ _ _)
  ·exact .inl (zl _ _ _ _ e)
 ·show off < upd G.lim b n b'
  by_cases e : b' = b
  ·subst e; omega
  ·rw [zl _ _ _ _ e]; exact g1
theorem froze_inv {s : St} {X : Nat → Option AObj} {o b n : Nat} {x : AObj} (hX : ∀ o, X o ≠ none → s.objs o = none) (hI : Inv w0 base G (s.add X) w) (ho : s.objs o = some x) (hl : G.lim b = 0) (hown : G.own b = some o) :
  Inv w0 base (G.froze o b n) ((s.del o).add X) w := by
 have hX0 : X o = none := by
  cases h : X o with
  | none => rfl
  | some y => have := hX o (by simp [h]); rw [ho] at this; cases this
 refine ⟨hI.old, hI.scope, fun p y hy => ?_, fun b' hb' => ?_, hI.size⟩
 ·have hpo : p ≠ o := by
   rintro rfl
   simp [St.add, St.del, hX0] at hy
  have hy' : (s.add X).objs p = some y := by
   simp only [St.add, St.del, if_neg hpo] at hy ⊢; exact hy
  obtain ⟨g1, g2⟩ := hI.objs p y hy'
  refine ⟨g1, x6 (froze_ext hl) ⟨zl _ _ _ _ hpo, rfl, rfl, rfl, rfl, fun b' _ hb' => ?_⟩ g2⟩
  have : b' ≠ b := by rintro rfl; rw [hown] at hb'; exact hpo (Option.some.inj hb').symm
  exact ⟨zl _ _ _ _ this, zl _ _ _ _ this, rfl⟩
 ·obtain ⟨g1, g2⟩ := hI.fresh b' hb'
  have : b' ≠ b := by have := hI.own_lt hown; omega
  exact ⟨(zl _ _ _ _ this).trans g1, (zl _ _ _ _ this).trans g2⟩
theorem frz1_sound {s : St} {X : Nat → Option AObj} {e : Env} {ds : List ADef} {a : Act} (t : Nat) (hX : ∀ o, X o ≠ none → s.objs o = none) (hI : Inv w0 base G (s.add X) w) (hR : RepFr G w N e ds a) :
  (∃ G', Ext base G w G' w ∧ (∀ o, G'.used o → G.used o) ∧ Inv w0 base G' ((frz1 t e s).2.add X) w ∧ RepFr G' w N (frz1 t e s).1 ds a) := by
 have hid : ∃ G', Ext base G w G' w ∧ (∀ o, G'.used o → G.used o) ∧ Inv w0 base G' (s.add X) w ∧ RepFr G' w N e ds a := ⟨G, Ext.refl _ _ _, fun _ h => h, hI, hR⟩
 have hset : ∀ {G' : Gh} {v : AV}, Ext base G w G' w → Rep G' w v (a.tmps.getD t undef) → RepFr G' w N (e.set t v) ds a := by
  intro G' v hE hv
  refine ⟨hR.size, fun i => ?_, repDs_mono hE hR.defers⟩
  by_cases h : i = t
  ·subst h; have : (e.set i v) i = v := if_pos rfl
   rw [this]; exact hv
  ·have : (e.set t v) i = e i := if_neg h
   rw [this]; exact v8 hE _ _ (hR.env i)
 unfold frz1
 split
 ·rename_i o heq
  split
  ·rename_i T cs ho
   have h1 := hR.env t
   rw [heq] at h1
   obtain ⟨hu, ad, hv, hb⟩ := h1
   obtain ⟨-, b, vs, q1, q2, q3, q4, q5, q6, q7⟩ := hI.objs o _ (xd (X := X) ho)
   have hE : Ext base G w (G.froze o b cs.length) w := froze_ext q4
   refine ⟨_, hE, fun _ h => h, froze_inv hX hI ho q4 q2, hset hE ?_⟩
   have hlen := yw q6
   refine ⟨_, ⟨b, 0, none⟩, yd hE _ _ q6, ?_, ?_⟩
   ·refine held_new (n := 0) q5 _ (by rw [hlen]) ?_
    show _ ≤ upd G.lim b cs.length b
    rw [zd, hlen]; exact Nat.le_refl _
   ·rw [hv, hb b q1]; rfl
  ·exact hid
 ·rename_i o len heq
  split
  ·rename_i ty size cs ho
   have h1 := hR.env t
   rw [heq] at h1
   obtain ⟨hu, ad, c, hv, l1, l2, l3, hb⟩ := h1
   obtain ⟨-, b, vs, q1, q2, q3, q4, q5, q6, q7, q8, q9⟩ := hI.objs o _ (xd (X := X) ho)
   have hE : Ext base G w (G.froze o b cs.length) w := froze_ext q4
   refine ⟨_, hE, fun _ h => h, froze_inv hX hI ho q4 q2, hset hE ?_⟩
   have hlen := yw q6
   refine ⟨_, some ⟨b, 0, none⟩, c, yd hE _ _ q6, ?_, ?_, l1, l2, l3, by simp, by simp, by simp⟩
   ·refine held_new (n := 0) q5 _ (by rw [hlen]) ?_
    show _ ≤ upd G.lim b cs.length b
    rw [zd, hlen]; exact Nat.le_refl _
   ·rw [hv, (hb b q1).1]
  ·exact hid
 ·exact hid
theorem frz1_next (t : Nat) (e : Env) (s : St) : (frz1 t e s).2.next = s.next := by
 unfold frz1
 split
 ·split <;> rfl
 ·split <;> rfl
 ·rfl
theorem frz1_none (t : Nat) (e : Env) (s : St) (o : Nat) (h : s.objs o = none) : (frz1 t e s).2.objs o = none := by
 unfold frz1
 split
 ·split
  ·simp only [St.del]; split
   ·rfl
   ·exact h
  ·exact h
 ·split
  ·simp only [St.del]; split
   ·rfl
   ·exact h
  ·exact h
 ·exact h
theorem frzs_sound {X : Nat → Option AObj} {ds : List ADef} {a : Act} : ∀ (ts : List Nat) {G : Gh} {s : St} {e : Env}, (∀ o, X o ≠ none → s.objs o = none) → Inv w0 base G (s.add X) w → RepFr G w N e ds a →
  (∃ G', Ext base G w G' w ∧ (∀ o, G'.used o → G.used o) ∧ Inv w0 base G' ((frzs ts e s).2.add X) w ∧ RepFr G' w N (frzs ts e s).1 ds a)
 | [], G, s, e, hX, hI, hR => ⟨G, Ext.refl _ _ _, fun _ h => h, hI, hR⟩
 | t :: ts, G, s, e, hX, hI, hR => by
  obtain ⟨G1, h1, h2, h3, h4⟩ := frz1_sound t hX hI hR
  obtain ⟨G2, k1, k2, k3, k4⟩ := frzs_sound ts (fun o ho => frz1_none t e s o (hX o ho)) h3 h4
  exact ⟨G2, h1.trans k1, fun o ho => h2 o (k2 o ho), k3, k4⟩
theorem frzs_next : ∀ (ts : List Nat) (e : Env) (s : St), (frzs ts e s).2.next = s.next
 | [], e, s => rfl
 | t :: ts, e, s => (frzs_next ts _ _).trans (frz1_next t e s)
theorem frzs_none : ∀ (ts : List Nat) (e : Env) (s : St) (o : Nat), s.objs o = none → (frzs ts e s).2.objs o = none
 | [], e, s, o, h => h
 | t :: ts, e, s, o, h => frzs_none ts _ _ o (frz1_none t e s o h)
theorem detC_frz {c : Code} {env env' : Env} {ds ds' : List ADef} {st st' : St} {ex : AEx} (ts : List Nat) (h : DetC P w0 base N c env ds st ex env' ds' st') : DetC P w0 base N c env ds st ex (frzs ts env' st').1 ds' (frzs ts env' st').2 where
 next := by rw [frzs_next]; exact h.next
 keep := fun o ho hn => frzs_none ts _ _ o (h.keep o ho hn)
 wp := fun X G w a hX hI hR => by
  have hXs : ∀ o, X o ≠ none → o < st.next := fun o ho => by
   cases hx : X o with
   | none => exact absurd hx ho
   | some x => exact hI.scope o (hI.objs o x (by simp [St.add, hX o ho, hx])).1
  refine wp_mono (h.wp X G w a hX hI hR) ?_
  rintro e a' w' ⟨rfl, G', h1, h2, h3, h4⟩
  obtain ⟨G2, k1, k2, k3, k4⟩ := frzs_sound ts (fun o ho => h.keep o (hXs o ho) (hX o ho)) h3 h4
  exact ⟨rfl, G2, h1.trans k1, fun o ho hu => h2 o ho (k2 o hu), k3, k4⟩
theorem res_seq {c : Code} {x y : SCode} (h : resCode P N c = some (.seq x y)) : ∃ a b, c = .seq a b ∧ resCode P N a = some x ∧ resCode P N b = some y := by
 cases c <;> simp only [resCode] at h
 all_goals (repeat' split at h) <;> simp_all
 exact ⟨_, _, ⟨rfl, rfl⟩, ‹_›, ‹_›⟩
theorem res_cond {c : Code} {o : Opd} {x y : SCode} (h : resCode P N c = some (.cond o x y)) : ∃ z a b, c = .cond z a b ∧ resO z = some o ∧ resCode P N a = some x ∧ resCode P N b = some y := by
 cases c <;> simp only [resCode] at h
 all_goals (repeat' split at h) <;> simp_all
 exact ⟨_, _, _, ⟨rfl, rfl, rfl⟩, ‹_›, ‹_›, ‹_›⟩
theorem res_block {c : Code} {id : Nat} {x : SCode} (h : resCode P N c = some (.block id x)) : ∃ a, c = .block id a ∧ resCode P N a = some x := by
 cases c <;> simp only [resCode] at h
 all_goals (repeat' split at h) <;> simp_all
theorem res_loop {c : Code} {x : SCode} (h : resCode P N c = some (.loop x)) : ∃ a, c = .loop a ∧ resCode P N a = some x := by
 cases c <;> simp only [resCode] at h
 all_goals (repeat' split at h) <;> simp_all
theorem res_reg {c : Code} {ss : List SOper} (h : resCode P N c = some (.reg ss)) : ∃ id ops, c = .region id ops false ∧ resList P N ops 0 ops.toList = some ss := by
 cases c with
 | region id ops draw =>
  simp only [resCode] at h
  split at h
  ·rename_i ss' hss
   cases draw with
   | false => simp at h; subst h; exact ⟨id, ops, rfl, hss⟩
   | true =>
    simp only [if_true] at h
    split at h
    ·cases h
    ·cases h
  ·cases h
 | _ =>
  simp only [resCode] at h
  (repeat' split at h) <;> simp_all
theorem vh : ∀ (sc : SCode) (c : Code), resCode P N c = some sc.strip → ∀ (env : Env) (ds : List ADef) (st : St) (Q : CK), awp P w0 base sc env ds st Q → ∃ ex env' ds' st', DetC P w0 base N c env ds st ex env' ds' st' ∧ Q ex env' ds' st'
 | .skip, c, hr, env, ds, st, Q, h => wo c _ hr env ds st Q h
 | .exit id, c, hr, env, ds, st, Q, h => wo c _ hr env ds st Q h
 | .ret, c, hr, env, ds, st, Q, h => wo c _ hr env ds st Q h
 | .reg ss, c, hr, env, ds, st, Q, h => by
  obtain ⟨id, ops, rfl, hss⟩ := res_reg hr
  simp only [awp] at h
  obtain ⟨env', ds', st', h1, h2⟩ := awpOps_run ss _ _ _ _ h
  exact ⟨.normal, env', ds', st', detC_reg hss h1, h2⟩
 | .draw ms ord ss, c, hr, env, ds, st, Q, h => wo c _ hr env ds st Q h
 | .frz ts s, c, hr, env, ds, st, Q, h => by
  obtain ⟨ex, e1, d1, s1, h1, h2⟩ := vh s c hr env ds st _ h
  exact ⟨ex, _, d1, _, detC_frz ts h1, h2⟩
 | .seq x y, c, hr, env, ds, st, Q, h => by
  obtain ⟨a, b, rfl, ha, hb⟩ := res_seq hr
  obtain ⟨ex, e1, d1, s1, h1, h2⟩ := vh x a ha env ds st _ h
  cases ex with
  | normal =>
   obtain ⟨ex, e2, d2, s2, h3, h4⟩ := vh y b hb e1 d1 s1 Q h2
   exact ⟨ex, e2, d2, s2, detC_seq h1 h3, h4⟩
  | exit id => exact ⟨_, _, _, _, detC_seq_out (by simp) h1, h2⟩
  | ret => exact ⟨_, _, _, _, detC_seq_out (by simp) h1, h2⟩
 | .cond o x y, c, hr, env, ds, st, Q, h => by
  obtain ⟨z, a, b, rfl, hz, ha, hb⟩ := res_cond hr
  simp only [awp] at h
  split at h
  ·rename_i t ht
   cases t with
   | true =>
    rw [if_pos rfl] at h
    obtain ⟨ex, e1, d1, s1, h1, h2⟩ := vh x a ha env ds st _ h
    exact ⟨ex, e1, d1, s1, detC_cond hz ht h1, h2⟩
   | false =>
    rw [if_neg (by simp)] at h
    obtain ⟨ex, e1, d1, s1, h1, h2⟩ := vh y b hb env ds st _ h
    exact ⟨ex, e1, d1, s1, detC_cond hz ht (by simpa using h1), h2⟩
  ·exact h.elim
 | .block id x, c, hr, env, ds, st, Q, h => by
  obtain ⟨a, rfl, ha⟩ := res_block hr
  simp only [awp] at h
  obtain ⟨ex, e1, d1, s1, h1, h2⟩ := vh x a ha env ds st _ h
  refine ⟨_, e1, d1, s1, detC_block h1 rfl, ?_⟩
  cases ex with
  | normal => exact h2
  | ret => exact h2
  | exit i =>
   simp only at h2 ⊢
   split
   ·rename_i e; rwa [if_pos e] at h2
   ·rename_i e; rwa [if_neg e] at h2
 | .loop x, c, hr, env, ds, st, Q, h => by
  obtain ⟨a, rfl, ha⟩ := res_loop hr
  simp only [awp] at h
  obtain ⟨n, h⟩ := h
  exact iter_path (fun env ds st Q hb => vh x a ha env ds st Q hb) n env ds st h
end
end
section
mutual
def eraseA (n : Nat) : AV → Option AV
 | .sl cs len p => match eraseL n cs with
  | some cs => some (.sl cs len (match p with | .tok t => if t < n then .tok t else .no | p => p))
  | none => none
 | .iptr cs off => match eraseL n cs with
  | some cs => some (.iptr cs off)
  | none => none
 | .ptr o off => if o < n then some (.ptr o off) else none
 | .row o len => if o < n then some (.row o len) else none
 | .map o => if o < n then some (.map o) else none
 | .func fn a b => match eraseL n a, eraseL n b with
  | some a, some b => some (.func fn a b)
  | _, _ => none
 | .iface t x => match eraseA n x with
  | some x => some (.iface t x)
  | none => none
 | .agg cs => match eraseL n cs with
  | some cs => some (.agg cs)
  | none => none
 | .tuple cs => match eraseL n cs with
  | some cs => some (.tuple cs)
  | none => none
 | x => some x
def eraseL (n : Nat) : List AV → Option (List AV)
 | [] => some []
 | x :: l => match eraseA n x, eraseL n l with
  | some x, some l => some (x :: l)
  | _, _ => none
end
mutual
def AV.under (U : Nat → Prop) : AV → Prop
 | .sl cs _ p => AV.underL U cs ∧ ∀ t, p = .tok t → U t
 | .iptr cs _ => AV.underL U cs
 | .ptr o _ | .row o _ | .map o => U o
 | .func _ a b => AV.underL U a ∧ AV.underL U b
 | .iface _ x => AV.under U x
 | .agg cs | .tuple cs => AV.underL U cs
 | _ => True
def AV.underL (U : Nat → Prop) : List AV → Prop
 | [] => True
 | x :: l => AV.under U x ∧ AV.underL U l
end
def Gh.only (G : Gh) (U : Nat → Prop) : Gh := { G with used := fun o => G.used o ∧ U o }
section
variable {G : Gh} {w : World} {n : Nat} {U V : Nat → Prop}
mutual
theorem rep_under : ∀ (a : AV) (v : Value), Rep G w a v → a.under G.used
 | .undef, _, _ => trivial
 | .bool _, _, _ => trivial
 | .int _ _, _, _ => trivial
 | .str _, _, _ => trivial
 | .nilp, _, _ => trivial
 | .ptr o off, _, h => h.1
 | .iptr cs off, _, h => by obtain ⟨vs, ad, h1, _⟩ := h; exact repC_under cs vs h1
 | .sl cs len p, _, h => by
  obtain ⟨vs, ad, cap, h1, _, _, _, _, _, _, h8, _⟩ := h
  exact ⟨repC_under cs vs h1, fun t ht => (h8 t ht).1⟩
 | .row o len, _, h => h.1
 | .nilmap, _, _ => trivial
 | .map o, _, h => h.1
 | .func fn a b, _, h => by obtain ⟨x, y, _, h1, h2⟩ := h; exact ⟨repL_under a x h1, repL_under b y h2⟩
 | .nilFunc, _, _ => trivial
 | .iface t x, _, h => by obtain ⟨u, _, h1⟩ := h; exact rep_under x u h1
 | .nilIface, _, _ => trivial
 | .agg cs, _, h => by obtain ⟨vs, _, h1⟩ := h; exact repC_under cs vs h1
 | .tuple cs, _, h => by obtain ⟨vs, _, h1⟩ := h; exact repL_under cs vs h1
theorem repC_under : ∀ (cs : List AV) (vs : List Value), RepC G w cs vs → AV.underL G.used cs
 | [], _, _ => trivial
 | c :: cs, _, h => by obtain ⟨u, us, _, _, h1, h2⟩ := h; exact ⟨rep_under c u h1, repC_under cs us h2⟩
theorem repL_under : ∀ (cs : List AV) (vs : List Value), RepL G w cs vs → AV.underL G.used cs
 | [], _, _ => trivial
 | c :: cs, _, h => by obtain ⟨u, us, _, h1, h2⟩ := h; exact ⟨rep_under c u h1, repL_under cs us h2⟩
end
mutual
theorem ws (h : ∀ o, U o → V o) : ∀ (a : AV), a.under U → a.under V
 | .undef, _ => trivial
 | .bool _, _ => trivial
 | .int _ _, _ => trivial
 | .str _, _ => trivial
 | .nilp, _ => trivial
 | .ptr o off, h1 => h o h1
 | .iptr cs off, h1 => xg h cs h1
 | .sl cs len p, h1 => ⟨xg h cs h1.1, fun t ht => h t (h1.2 t ht)⟩
 | .row o len, h1 => h o h1
 | .nilmap, _ => trivial
 | .map o, h1 => h o h1
 | .func fn a b, h1 => ⟨xg h a h1.1, xg h b h1.2⟩
 | .nilFunc, _ => trivial
 | .iface t x, h1 => ws h x h1
 | .nilIface, _ => trivial
 | .agg cs, h1 => xg h cs h1
 | .tuple cs, h1 => xg h cs h1
theorem xg (h : ∀ o, U o → V o) : ∀ (cs : List AV), AV.underL U cs → AV.underL V cs
 | [], _ => trivial
 | c :: cs, h1 => ⟨ws h c h1.1, xg h cs h1.2⟩
end
mutual
theorem rep_only : ∀ (a : AV) (v : Value), Rep G w a v → a.under U → Rep (G.only U) w a v
 | .undef, _, h, _ => h
 | .bool _, _, h, _ => h
 | .int _ _, _, h, _ => h
 | .str _, _, h, _ => h
 | .nilp, _, h, _ => h
 | .ptr o off, _, h, hu => ⟨⟨h.1, hu⟩, h.2⟩
 | .iptr cs off, _, h, hu => by obtain ⟨vs, ad, h1, h2, h3⟩ := h; exact ⟨vs, ad, repC_only cs vs h1 hu, h2, h3⟩
 | .sl cs len p, _, h, hu => by
  obtain ⟨vs, ad, cap, h1, h2, h3, h4, h5, h6, h7, h8, h9⟩ := h
  exact ⟨vs, ad, cap, repC_only cs vs h1 hu.1, h2, h3, h4, h5, h6, h7, fun t ht => ⟨⟨(h8 t ht).1, hu.2 t ht⟩, (h8 t ht).2⟩, h9⟩
 | .row o len, _, h, hu => ⟨⟨h.1, hu⟩, h.2⟩
 | .nilmap, _, h, _ => h
 | .map o, _, h, hu => ⟨⟨h.1, hu⟩, h.2⟩
 | .func fn a b, _, h, hu => by obtain ⟨x, y, e, h1, h2⟩ := h; exact ⟨x, y, e, repL_only a x h1 hu.1, repL_only b y h2 hu.2⟩
 | .nilFunc, _, h, _ => h
 | .iface t x, _, h, hu => by obtain ⟨u, e, h1⟩ := h; exact ⟨u, e, rep_only x u h1 hu⟩
 | .nilIface, _, h, _ => h
 | .agg cs, _, h, hu => by obtain ⟨vs, e, h1⟩ := h; exact ⟨vs, e, repC_only cs vs h1 hu⟩
 | .tuple cs, _, h, hu => by obtain ⟨vs, e, h1⟩ := h; exact ⟨vs, e, repL_only cs vs h1 hu⟩
theorem repC_only : ∀ (cs : List AV) (vs : List Value), RepC G w cs vs → AV.underL U cs → RepC (G.only U) w cs vs
 | [], _, h, _ => h
 | c :: cs, _, h, hu => by obtain ⟨u, us, e, h0, h1, h2⟩ := h; exact ⟨u, us, e, h0, rep_only c u h1 hu.1, repC_only cs us h2 hu.2⟩
theorem repL_only : ∀ (cs : List AV) (vs : List Value), RepL G w cs vs → AV.underL U cs → RepL (G.only U) w cs vs
 | [], _, h, _ => h
 | c :: cs, _, h, hu => by obtain ⟨u, us, e, h1, h2⟩ := h; exact ⟨u, us, e, rep_only c u h1 hu.1, repL_only cs us h2 hu.2⟩
end
mutual
theorem erase_rep : ∀ (a a' : AV) (v : Value), eraseA n a = some a' → Rep G w a v → Rep G w a' v ∧ a'.under (· < n)
 | .undef, _, _, h, hr => by cases h; exact ⟨hr, trivial⟩
 | .bool _, _, _, h, hr => by cases h; exact ⟨hr, trivial⟩
 | .int _ _, _, _, h, hr => by cases h; exact ⟨hr, trivial⟩
 | .str _, _, _, h, hr => by cases h; exact ⟨hr, trivial⟩
 | .nilp, _, _, h, hr => by cases h; exact ⟨hr, trivial⟩
 | .ptr o off, _, _, h, hr => by
  simp only [eraseA] at h
  split at h
  ·rename_i hlt; cases h; exact ⟨hr, hlt⟩
  ·cases h
 | .iptr cs off, _, _, h, hr => by
  simp only [eraseA] at h
  split at h
  ·rename_i cs' hc
   cases h
   obtain ⟨vs, ad, h1, h2, h3⟩ := hr
   obtain ⟨h4, h5⟩ := erase_repC cs cs' vs hc h1
   exact ⟨⟨vs, ad, h4, h2, h3⟩, h5⟩
  ·cases h
 | .sl cs len p, _, _, h, hr => by
  simp only [eraseA] at h
  split at h
  ·rename_i cs' hc
   cases h
   obtain ⟨vs, ad, cap, h1, h2, h3, h4, h5, h6, h7, h8, h9⟩ := hr
   obtain ⟨g1, g2⟩ := erase_repC cs cs' vs hc h1
   have hlen : cs'.length = cs.length := (yw g1).symm.trans (yw h1)
   cases p with
   | no => exact ⟨⟨vs, ad, cap, g1, h2, h3, h4, h5, h6, fun h => (by cases h), fun t ht => (by cases ht), h9⟩, g2, fun t ht => by cases ht⟩
   | full =>
    refine ⟨⟨vs, ad, cap, g1, h2, h3, h4, h5, h6, fun _ => ⟨(h7 rfl).1, fun h0 => ?_⟩, fun t ht => (by cases ht), h9⟩, g2, fun t ht => by cases ht⟩
    have := (h7 rfl).2 h0
    rw [this] at hlen
    exact List.eq_nil_of_length_eq_zero (by simpa using hlen)
   | tok t =>
    simp only
    by_cases ht : t < n
    ·rw [if_pos ht]
     exact ⟨⟨vs, ad, cap, g1, h2, h3, h4, h5, h6, fun h => (by cases h), h8, h9⟩, g2, fun t' ht' => by cases ht'; exact ht⟩
    ·rw [if_neg ht]
     exact ⟨⟨vs, ad, cap, g1, h2, h3, h4, h5, h6, fun h => (by cases h), fun t ht => (by cases ht), h9⟩, g2, fun t ht => by cases ht⟩
  ·cases h
 | .row o len, _, _, h, hr => by
  simp only [eraseA] at h
  split at h
  ·rename_i hlt; cases h; exact ⟨hr, hlt⟩
  ·cases h
 | .nilmap, _, _, h, hr => by cases h; exact ⟨hr, trivial⟩
 | .map o, _, _, h, hr => by
  simp only [eraseA] at h
  split at h
  ·rename_i hlt; cases h; exact ⟨hr, hlt⟩
  ·cases h
 | .func fn a b, _, _, h, hr => by
  simp only [eraseA] at h
  split at h
  ·rename_i a' b' ha hb
   cases h
   obtain ⟨x, y, e, h1, h2⟩ := hr
   obtain ⟨g1, g2⟩ := erase_repL a a' x ha h1
   obtain ⟨g3, g4⟩ := erase_repL b b' y hb h2
   exact ⟨⟨x, y, e, g1, g3⟩, g2, g4⟩
  ·cases h
 | .nilFunc, _, _, h, hr => by cases h; exact ⟨hr, trivial⟩
 | .iface t x, _, _, h, hr => by
  simp only [eraseA] at h
  split at h
  ·rename_i x' hx
   cases h
   obtain ⟨u, e, h1⟩ := hr
   obtain ⟨g1, g2⟩ := erase_rep x x' u hx h1
   exact ⟨⟨u, e, g1⟩, g2⟩
  ·cases h
 | .nilIface, _, _, h, hr => by cases h; exact ⟨hr, trivial⟩
 | .agg cs, _, _, h, hr => by
  simp only [eraseA] at h
  split at h
  ·rename_i cs' hc
   cases h
   obtain ⟨vs, e, h1⟩ := hr
   obtain ⟨g1, g2⟩ := erase_repC cs cs' vs hc h1
   exact ⟨⟨vs, e, g1⟩, g2⟩
  ·cases h
 | .tuple cs, _, _, h, hr => by
  simp only [eraseA] at h
  split at h
  ·rename_i cs' hc
   cases h
   obtain ⟨vs, e, h1⟩ := hr
   obtain ⟨g1, g2⟩ := erase_repL cs cs' vs hc h1
   exact ⟨⟨vs, e, g1⟩, g2⟩
  ·cases h
theorem erase_repC : ∀ (cs cs' : List AV) (vs : List Value), eraseL n cs = some cs' → RepC G w cs vs → RepC G w cs' vs ∧ AV.underL (· < n) cs'
 | [], _, _, h, hr => by cases h; exact ⟨hr, trivial⟩
 | c :: cs, _, _, h, hr => by
  simp only [eraseL] at h
  split at h
  ·rename_i c' cs' hc hcs
   cases h
   obtain ⟨u, us, e, h0, h1, h2⟩ := hr
   obtain ⟨g1, g2⟩ := erase_rep c c' u hc h1
   obtain ⟨g3, g4⟩ := erase_repC cs cs' us hcs h2
   exact ⟨⟨u, us, e, h0, g1, g3⟩, g2, g4⟩
  ·cases h
theorem erase_repL : ∀ (cs cs' : List AV) (vs : List Value), eraseL n cs = some cs' → RepL G w cs vs → RepL G w cs' vs ∧ AV.underL (· < n) cs'
 | [], _, _, h, hr => by cases h; exact ⟨hr, trivial⟩
 | c :: cs, _, _, h, hr => by
  simp only [eraseL] at h
  split at h
  ·rename_i c' cs' hc hcs
   cases h
   obtain ⟨u, us, e, h1, h2⟩ := hr
   obtain ⟨g1, g2⟩ := erase_rep c c' u hc h1
   obtain ⟨g3, g4⟩ := erase_repL cs cs' us hcs h2
   exact ⟨⟨u, us, e, g1, g3⟩, g2, g4⟩
  ·cases h
end
end
def AObj.under (U : Nat → Prop) : AObj → Prop
 | .cells _ cs | .row _ _ cs => AV.underL U cs
 | .tip _ _ _ => True
 | .map es => AV.underL U (es.map (·.1)) ∧ AV.underL U (es.map (·.2))
section
variable {P : Program} {w0 : World} {base : Nat} {G : Gh} {w : World} {U : Nat → Prop}
theorem objrep_under {o : Nat} : ∀ {x : AObj}, ObjRep base G w o x → x.under G.used
 | .cells T cs, ⟨b, vs, _, _, _, _, _, h, _⟩ => repC_under _ _ h
 | .row e n cs, ⟨b, vs, _, _, _, _, _, h, _⟩ => repC_under _ _ h
 | .tip _ s n, _ => trivial
 | .map es, ⟨b, ms, c, _, _, _, _, _, h1, h2⟩ => ⟨repL_under _ _ h1, repL_under _ _ h2⟩
theorem objrep_only {o : Nat} : ∀ {x : AObj}, ObjRep base G w o x → x.under U → ObjRep base (G.only U) w o x
 | .cells T cs, ⟨b, vs, h1, h2, h3, h4, h5, h, h6⟩, hu => ⟨b, vs, h1, h2, h3, h4, h5, repC_only _ _ h hu, h6⟩
 | .row e n cs, ⟨b, vs, h1, h2, h3, h4, h5, h, h6⟩, hu => ⟨b, vs, h1, h2, h3, h4, h5, repC_only _ _ h hu, h6⟩
 | .tip _ s n, h, _ => h
 | .map es, ⟨b, ms, c, h1, h2, h3, h4, h5, h6, h7⟩, hu => ⟨b, ms, c, h1, h2, h3, h4, h5, repL_only _ _ h6 hu.1, repL_only _ _ h7 hu.2⟩
theorem obj_under_mono {U V : Nat → Prop} (h : ∀ o, U o → V o) : ∀ {x : AObj}, x.under U → x.under V
 | .cells T cs, h1 => xg h _ h1
 | .row e n cs, h1 => xg h _ h1
 | .tip _ s n, _ => trivial
 | .map es, h1 => ⟨xg h _ h1.1, xg h _ h1.2⟩
theorem ext_only {G' : Gh} {w' : World} (h : Ext base G w G' w') (hU : ∀ o, G.used o → U o) : Ext base G w (G'.only U) w' :=
 ⟨h.below, fun o ho => ⟨h.used o ho, hU o ho⟩, h.blk, h.tok, h.rcap, h.imm⟩
structure Back (st s st' : St) : Prop where
 next : st'.next = st.next
 objs : ∀ o x, st'.objs o = some x → s.objs o = some x ∧ o < st.next ∧ (st.objs o = some x ∨ x.under (· < st.next))
theorem inv_back {st s st' : St} {X : Nat → Option AObj} {G' : Gh} {w' : World} (hI : Inv w0 base G (st.add X) w) (hX : ∀ o, X o ≠ none → st.objs o = none) (hkeep : ∀ o, o < st.next → st.objs o = none → s.objs o = none) (he : Ext base G w G' w') (hI' : Inv w0 base G' (s.add X) w') (hb : Back st s st') :
  Inv w0 base (G'.only (· < st.next)) (st'.add X) w' := by
 have hlt : ∀ o, G.used o → o < st.next := hI.scope
 refine ⟨hI'.old, fun o ho => by simp only [St.add]; rw [hb.next]; exact ho.2, fun o x hx => ?_, hI'.fresh, hI'.size⟩
 simp only [St.add] at hx
 split at hx
 ·rename_i y hy
  cases hx
  obtain ⟨h1, h2, h3⟩ := hb.objs o x hy
  obtain ⟨g1, g2⟩ := hI'.objs o x (xd h1)
  refine ⟨⟨g1, h2⟩, objrep_only g2 ?_⟩
  rcases h3 with h3 | h3
  ·exact obj_under_mono hlt (objrep_under (hI.objs o x (xd h3)).2)
  ·exact h3
 ·have hn := hX o (by rw [hx]; simp)
  have hxs : (st.add X).objs o = some x := by simp [St.add, hn, hx]
  obtain ⟨g3, g4⟩ := hI.objs o x hxs
  have hs := hkeep o (hlt o g3) hn
  obtain ⟨g1, g2⟩ := hI'.objs o x (by simp [St.add, hs, hx])
  exact ⟨⟨g1, hlt o g3⟩, objrep_only g2 (obj_under_mono hlt (objrep_under g4))⟩
def Post (w0 : World) (base : Nat) (X : Nat → Option AObj) (G : Gh) (w : World) (n : Nat) (r : AV) (st' : St) (e : Ending) (w' : World) : Prop :=
 ∃ v G', e = .returned v ∧ Ext base G w G' w' ∧ (∀ o, o < n → G'.used o → G.used o) ∧ Inv w0 base G' (st'.add X) w' ∧ Rep G' w' r v
inductive Fin (st : St) (s : St) (r0 : AV) (r : AV) (st' : St) : Prop
 | keep (h : Forget s st') (e : r = r0) : Fin st s r0 r st'
 | back (h : Back st s st') (e : eraseA st.next r0 = some r) : Fin st s r0 r st'
theorem fin_next {st s st' : St} {r0 r : AV} (h : Fin st s r0 r st') (hn : st.next ≤ s.next) : st.next ≤ st'.next := by
 cases h with
 | keep h e => rw [h.next]; exact hn
 | back h e => rw [h.next]; exact Nat.le_refl _
theorem fin_keep {st s st' : St} {r0 r : AV} (h : Fin st s r0 r st') (hk : ∀ o, o < st.next → st.objs o = none → s.objs o = none) : ∀ o, o < st.next → st.objs o = none → st'.objs o = none := by
 intro o ho hn
 cases hx : st'.objs o with
 | none => rfl
 | some x =>
  have := hk o ho hn
  cases h with
  | keep h e => rw [h.objs o x hx] at this; cases this
  | back h e => rw [(h.objs o x hx).1] at this; cases this
theorem fin_post {st s st' : St} {r0 r : AV} {X : Nat → Option AObj} {G' : Gh} {w' : World} {v : Value} (h : Fin st s r0 r st') (hI : Inv w0 base G (st.add X) w) (hX : ∀ o, X o ≠ none → st.objs o = none) (hkeep : ∀ o, o < st.next → st.objs o = none → s.objs o = none)
  (he : Ext base G w G' w') (hu : ∀ o, o < st.next → G'.used o → G.used o) (hI' : Inv w0 base G' (s.add X) w') (hr : Rep G' w' r0 v) : Post w0 base X G w st.next r st' (.returned v) w' := by
 cases h with
 | keep h e =>
  subst e
  refine ⟨v, G', rfl, he, hu, inv_forget hI' (fun o x hx => ?_) (by simp only [St.add]; rw [h.next]; exact Nat.le_refl _), hr⟩
  simp only [St.add] at hx ⊢
  split at hx
  ·rename_i hy; cases hx; rw [h.objs o x hy]
  ·have hn := hX o (by rw [hx]; simp)
   have hxs : (st.add X).objs o = some x := by simp [St.add, hn, hx]
   have hlt := hI.scope o (hI.objs o x hxs).1
   rw [hkeep o hlt hn]; exact hx
 | back h e =>
  obtain ⟨h1, h2⟩ := erase_rep _ _ v e hr
  exact ⟨v, _, rfl, ext_only he hI.scope, fun o ho hq => hu o ho hq.1, inv_back (st := st) (s := s) (X := X) hI hX hkeep he hI' h, rep_only _ _ h1 h2⟩
theorem body_wp {fn : Func} {c : Code} {sf : SFunc} (hc : fn.body = some c) (hs : resFunc P fn = some sf) {args : List AV} {st st' : St} {r : AV} (hl : args.length ≤ sf.N)
  (h : awp P w0 base sf.body (initEnv args) [] st fun ex env ds s => (match ex with | .exit _ => False | _ => True) ∧ ds = [] ∧ ∃ vs, evalRes env s sf.results = some vs ∧ Fin st s (packRes vs) r st') :
  (st.next ≤ st'.next ∧ ∀ o, o < st.next → st.objs o = none → st'.objs o = none) ∧
  ∀ (X : Nat → Option AObj) (G : Gh) (w : World) (us : List Value), (∀ o, X o ≠ none → st.objs o = none) → Inv w0 base G (st.add X) w → RepL G w args us →
   c.wp P (bodyPost P fn (Post w0 base X G w st.next r st')) { tmps := ⟨us⟩ ++ Array.replicate (fn.ntmps - us.length) undef, defers := [] } w := by
 unfold resFunc at hs
 split at hs
 ·cases hs
 ·rw [hc] at hs
  simp only at hs
  split at hs
  ·rename_i sc rs hsc hrs
   cases hs
   simp only at hl h
   obtain ⟨ex, env', ds', s, hd, hex, rfl, vs, hvs, hfin⟩ := wo c sc hsc _ _ _ _ h
   refine ⟨⟨fin_next hfin hd.next, fin_keep hfin hd.keep⟩, fun X G w us hX hI hR => ?_⟩
   have hF := initEnv_rep hR fn.ntmps hl
   refine wp_mono (hd.wp X G w _ hX hI hF) ?_
   rintro e a' w' ⟨rfl, G', h1, h2, h3, h4⟩
   obtain ⟨u, q1, q2⟩ := run_results h3 h4.env hrs (vs := vs) (by
    have key : ∀ (rs : List SRes) (vs : List AV), evalRes env' s rs = some vs → evalRes env' (s.add X) rs = some vs := by
     intro rs
     induction rs with
     | nil => intro vs h; exact h
     | cons r rs ih =>
      intro vs h
      simp only [evalRes] at h ⊢
      split at h
      ·rename_i v vs' hv hvs'
       cases h
       have : r.eval env' (s.add X) = some v := by
        cases r with
        | tmp t => exact hv
        | cell t n agg =>
         simp only [SRes.eval] at hv ⊢
         split at hv
         ·rename_i o off heq
          split at hv
          ·rename_i cs hcs; simp only [add_data hcs]; exact hv
          ·cases hv
         ·cases hv
       rw [this, ih _ hvs']
      ·cases h
    exact key rs vs hvs)
   have hdef : a'.defers = [] := h4.defers
   have hpost := fin_post hfin hI hX hd.keep h1 h2 h3 q2
   cases ex with
   | normal => exact ⟨hdef, u, q1, hpost⟩
   | ret => exact ⟨hdef, u, q1, hpost⟩
   | exit id => exact hex.elim
  ·cases hs
theorem enters_of {f : FuncId} {fn : Func} {sf : SFunc} (hf : P.funcs[f]? = some fn) (hs : resFunc P fn = some sf) : Enters P f ∧ ∃ c, fn.body = some c := by
 unfold resFunc at hs
 split at hs
 ·cases hs
 ·rename_i hn
  split at hs
  ·rename_i c hc
   exact ⟨⟨fn, hf, by simp [hc], by simpa using hn⟩, c, hc⟩
  ·cases hs
structure DetD (P : Program) (w0 : World) (base : Nat) (f : FuncId) (args : List AV) (st st' : St) : Prop where
 enters : Enters P f
 next : st.next ≤ st'.next
 keep : ∀ o, o < st.next → st.objs o = none → st'.objs o = none
 calls : ∀ (X : Nat → Option AObj) (G : Gh) (w : World) (vs : List Value) (u : FrameMode), (∀ o, X o ≠ none → st.objs o = none) → Inv w0 base G (st.add X) w → RepL G w args vs →
  CallsD P f ⟨vs⟩ u w fun e u' w' => u' = u ∧ ∃ v G', e = .returned v ∧ Ext base G w G' w' ∧ (∀ o, o < st.next → G'.used o → G.used o) ∧ Inv w0 base G' (st'.add X) w'
theorem detD_body {f : FuncId} {fn : Func} {sf : SFunc} (hf : P.funcs[f]? = some fn) (hs : resFunc P fn = some sf) {args : List AV} {st st' : St} {r : AV} (hl : args.length ≤ sf.N)
  (h : awp P w0 base sf.body (initEnv args) [] st fun ex env ds s => (match ex with | .exit _ => False | _ => True) ∧ ds = [] ∧ ∃ vs, evalRes env s sf.results = some vs ∧ Fin st s (packRes vs) r st') :
  DetD P w0 base f args st st' := by
 obtain ⟨hE, c, hc⟩ := enters_of hf hs
 obtain ⟨⟨h1, h2⟩, h3⟩ := body_wp hc hs hl h
 refine ⟨hE, h1, h2, fun X G w us u hX hI hR => (callsD_of_wp hf hc (h3 X G w us hX hI hR)).mono ?_⟩
 rintro e u' w' ⟨rfl, v, G', rfl, q1, q2, q3, q4⟩
 exact ⟨rfl, v, G', rfl, q1, q2, q3⟩
end
end
section
inductive RunDs (P : Program) (w0 : World) (base : Nat) : List ADef → St → St → Prop
 | nil (s : St) : RunDs P w0 base [] s s
 | cons (f : FuncId) (cap args : List AV) (ds : List ADef) (s s1 s' : St) (h : DetD P w0 base f (args ++ cap) s s1) (h' : RunDs P w0 base ds s1 s') : RunDs P w0 base ((.func f, cap, args) :: ds) s s'
def runDs (P : Program) (w0 : World) (base : Nat) : List ADef → St → (St → Prop) → Prop
 | [], s, K => K s
 | (.func f, cap, args) :: ds, s, K => ∃ s1, DetD P w0 base f (args ++ cap) s s1 ∧ runDs P w0 base ds s1 K
 | _ :: _, _, _ => False
section
variable {P : Program} {w0 : World} {base : Nat} {G : Gh} {w : World}
theorem runDs_spec {K : St → Prop} : ∀ {ds : List ADef} {s : St}, runDs P w0 base ds s K → ∃ s', RunDs P w0 base ds s s' ∧ K s'
 | [], s, h => ⟨s, .nil s, h⟩
 | (.func f, cap, args) :: ds, s, h => by
  obtain ⟨s1, h1, h2⟩ := h
  obtain ⟨s', h3, h4⟩ := runDs_spec h2
  exact ⟨s', .cons f cap args ds s s1 s' h1 h3, h4⟩
 | (.method _, _, _) :: _, _, h => h.elim
 | (.methodOf _ _, _, _) :: _, _, h => h.elim
theorem runDs_keep {ds : List ADef} {s s' : St} (h : RunDs P w0 base ds s s') : s.next ≤ s'.next ∧ ∀ o, o < s.next → s.objs o = none → s'.objs o = none := by
 induction h with
 | nil s => exact ⟨Nat.le_refl _, fun _ _ h => h⟩
 | cons f cap args ds s s1 s' h h' ih => exact ⟨Nat.le_trans h.next ih.1, fun o ho hn => ih.2 o (Nat.lt_of_lt_of_le ho h.next) (h.keep o ho hn)⟩
theorem repL_app {xs ys : List AV} {us vs : List Value} (h1 : RepL G w xs us) (h2 : RepL G w ys vs) : RepL G w (xs ++ ys) (us ++ vs) := by
 induction xs generalizing us with
 | nil => cases h1; exact h2
 | cons x xs ih =>
  obtain ⟨u, us', rfl, hu, hus⟩ := h1
  exact ⟨u, us' ++ vs, rfl, hu, ih hus⟩
theorem leaves_of {fn : Func} {a : Act} {X : Nat → Option AObj} {R : Ending → World → Prop} {env : Env} {ds : List ADef} {s s' : St} (h : RunDs P w0 base ds s s') :
  ∀ (G : Gh) (w : World) (cs : List Deferred), (∀ o, X o ≠ none → s.objs o = none) → Inv w0 base G (s.add X) w → RepEnv G w env a → RepDs G w ds cs →
   (∀ G' w', Ext base G w G' w' → (∀ o, o < s.next → G'.used o → G.used o) → Inv w0 base G' (s'.add X) w' → RepEnv G' w' env a → ∃ v, (results fn a.tmps).run P w' = .ok v w' ∧ R (.returned v) w') →
   Leaves P fn a.tmps R cs .returning w := by
 induction h with
 | nil s => intro G w cs hX hI hE hD hK; cases hD; exact hK G w (Ext.refl _ _ _) (fun _ _ h => h) hI hE
 | cons f cap args ds s s1 s' h h' ih =>
  intro G w cs hX hI hE hD hK
  obtain ⟨c, cs', rfl, ⟨vcap, vargs, rfl, h1, h2⟩, h3⟩ := hD
  obtain ⟨fn', g1, g2, g3⟩ := h.enters
  have hXs : ∀ o, X o ≠ none → o < s.next := fun o ho => by
   cases hx : X o with
   | none => exact absurd hx ho
   | some x => exact hI.scope o (hI.objs o x (by simp [St.add, hX o ho, hx])).1
  refine leaves_cons (f := f) (args := ⟨vargs ++ vcap⟩) (by simp) ?_ ?_
  ·simp only [invoke, callFunc, Sem.run_bind, Sem.run_pure, Result.andThen_ok, run_program, g1, g3, g2, if_false, Bool.false_eq_true]
   simp
  ·refine (h.calls X G w (vargs ++ vcap) .returning hX hI (repL_app h2 h1)).mono ?_
   rintro e u' w' ⟨rfl, v, G1, rfl, q1, q2, q3⟩
   refine ih G1 w' cs' (fun o ho => h.keep o (hXs o ho) (hX o ho)) q3 (fun i => v8 q1 _ _ (hE i)) (repDs_mono q1 h3) ?_
   intro G' w2 r1 r2 r3 r4
   exact hK G' w2 (q1.trans r1) (fun o ho hu => q2 o ho (r2 o (Nat.lt_of_lt_of_le ho h.next) hu)) r3 r4
def Done (P : Program) (w0 : World) (base : Nat) (sf : SFunc) (st : St) (r : AV) (st' : St) : CK := fun ex env ds s =>
 (match ex with | .exit _ => False | _ => True) ∧ runDs P w0 base ds s fun s' => ∃ vs, evalRes env s' sf.results = some vs ∧ Fin st s' (packRes vs) r st'
theorem evalRes_add {env : Env} {s : St} {X : Nat → Option AObj} : ∀ (rs : List SRes) (vs : List AV), evalRes env s rs = some vs → evalRes env (s.add X) rs = some vs := by
 intro rs
 induction rs with
 | nil => intro vs h; exact h
 | cons r rs ih =>
  intro vs h
  simp only [evalRes] at h ⊢
  split at h
  ·rename_i v vs' hv hvs'
   cases h
   have : r.eval env (s.add X) = some v := by
    cases r with
    | tmp t => exact hv
    | cell t n agg =>
     simp only [SRes.eval] at hv ⊢
     split at hv
     ·rename_i o off heq
      split at hv
      ·rename_i cs hcs; simp only [add_data hcs]; exact hv
      ·cases hv
     ·cases hv
   rw [this, ih _ hvs']
  ·cases h
theorem fun_wp {fn : Func} {c : Code} {sf : SFunc} {b : SCode} (hc : fn.body = some c) (hs : resFunc P fn = some sf) (hb : b.strip = sf.body) {args : List AV} {st st' : St} {r : AV} (hl : args.length ≤ sf.N)
  (h : awp P w0 base b (initEnv args) [] st (Done P w0 base sf st r st')) :
  (st.next ≤ st'.next ∧ ∀ o, o < st.next → st.objs o = none → st'.objs o = none) ∧
  ∀ (X : Nat → Option AObj) (G : Gh) (w : World) (us : List Value), (∀ o, X o ≠ none → st.objs o = none) → Inv w0 base G (st.add X) w → RepL G w args us →
   c.wp P (bodyPostD P fn (Post w0 base X G w st.next r st')) { tmps := ⟨us⟩ ++ Array.replicate (fn.ntmps - us.length) undef, defers := [] } w := by
 unfold resFunc at hs
 split at hs
 ·cases hs
 ·rw [hc] at hs
  simp only at hs
  split at hs
  ·rename_i sc rs hsc hrs
   cases hs
   simp only at hl h hb
   obtain ⟨ex, env', ds', s, hd, hex, hrun⟩ := vh b c (hb ▸ hsc) _ _ _ _ h
   obtain ⟨s', hR', vs, hvs, hfin⟩ := runDs_spec hrun
   obtain ⟨k1, k2⟩ := runDs_keep hR'
   have hkeep : ∀ o, o < st.next → st.objs o = none → s'.objs o = none := fun o ho hn => k2 o (Nat.lt_of_lt_of_le ho hd.next) (hd.keep o ho hn)
   refine ⟨⟨fin_next hfin (Nat.le_trans hd.next k1), fin_keep hfin hkeep⟩, fun X G w us hX hI hR => ?_⟩
   have hXs : ∀ o, X o ≠ none → o < st.next := fun o ho => by
    cases hx : X o with
    | none => exact absurd hx ho
    | some x => exact hI.scope o (hI.objs o x (by simp [St.add, hX o ho, hx])).1
   have hF := initEnv_rep hR fn.ntmps hl
   refine wp_mono (hd.wp X G w _ hX hI hF) ?_
   rintro e a' w' ⟨rfl, G', h1, h2, h3, h4⟩
   have hleave : Leaves P fn a'.tmps (Post w0 base X G w st.next r st') a'.defers .returning w' := by
    refine leaves_of hR' G' w' a'.defers (fun o ho => hd.keep o (hXs o ho) (hX o ho)) h3 h4.env h4.defers ?_
    intro G2 w2 r1 r2 r3 r4
    obtain ⟨u, q1, q2⟩ := run_results r3 r4 hrs (vs := vs) (evalRes_add _ _ hvs)
    exact ⟨u, q1, fin_post hfin hI hX hkeep (h1.trans r1) (fun o ho hu => h2 o ho (r2 o (Nat.lt_of_lt_of_le ho hd.next) hu)) r3 q2⟩
   cases ex with
   | normal => exact hleave
   | ret => exact hleave
   | exit id => exact hex.elim
  ·cases hs
theorem det_fun {f : FuncId} {fn : Func} {sf : SFunc} {b : SCode} (hf : P.funcs[f]? = some fn) (hs : resFunc P fn = some sf) (hb : b.strip = sf.body) {args : List AV} {st st' : St} {r : AV} (hl : args.length ≤ sf.N)
  (h : awp P w0 base b (initEnv args) [] st (Done P w0 base sf st r st')) : Det P w0 base f args st r st' := by
 obtain ⟨hE, c, hc⟩ := enters_of hf hs
 obtain ⟨⟨h1, h2⟩, h3⟩ := fun_wp hc hs hb hl h
 exact ⟨hE, h1, h2, fun X G w us hX hI hR => calls_of_wp_defers hf hc (h3 X G w us hX hI hR)⟩
def St.wf (st : St) : Prop := ∀ o x, st.objs o = some x → o < st.next
end
end
section
section
variable {P : Program} {w0 : World} {base r : Nat} {env : Env} {st : St} {ds : List ADef}
theorem onGuard_mono {s : SOper} {a b c d : Prop} (h1 : a → c) (h2 : b → d) (h : onGuard s env a b) : onGuard s env c d := by
 unfold onGuard at h ⊢
 split
 ·rename_i hg; rw [hg] at h; exact h1 h
 ·rename_i x y hg
  rw [hg] at h
  simp only at h
  split at h
  ·rename_i b' hb
   split at h
   ·rename_i e; rw [if_pos e]; exact h1 h
   ·rename_i e; rw [if_neg e]; exact h2 h
  ·exact h2 h
  ·exact h.elim
theorem um {K K' : AV → St → Prop} (hk : ∀ v s, K v s → K' v s) : ∀ {op : SOp}, goOp P w0 base r env st K op → goOp P w0 base r env st K' op := by
 intro op h
 have hstep : (match op.step r env st with | some (v, st') => K v st' | none => False) → (match op.step r env st with | some (v, st') => K' v st' | none => False) := by
  intro h
  split at h
  ·exact hk _ _ h
  ·exact h
 cases op with
 | call f args => obtain ⟨v, s, h1, h2⟩ := h; exact ⟨v, s, h1, hk _ _ h2⟩
 | callV x args =>
  simp only [goOp] at h ⊢
  split at h
  ·obtain ⟨v, s, h1, h2⟩ := h; exact ⟨v, s, h1, hk _ _ h2⟩
  ·exact h
 | defer x args => exact h
 | _ => exact hstep h
theorem awpOps_mono {K K' : Env → List ADef → St → Prop} (hk : ∀ e d s, K e d s → K' e d s) : ∀ {l : List SOper} {env : Env} {ds : List ADef} {st : St}, awpOps P w0 base r l env ds st K → awpOps P w0 base r l env ds st K'
 | [], _, _, _, h => hk _ _ _ h
 | s :: l, env, ds, st, h => by
  simp only [awpOps] at h ⊢
  refine onGuard_mono ?_ (awpOps_mono hk) h
  intro h
  by_cases hdef : ∃ x args, s.op = .defer x args
  ·obtain ⟨x, args, hop⟩ := hdef
   rw [hop] at h ⊢
   simp only at h ⊢
   split at h
   ·exact awpOps_mono hk h
   ·exact h
  ·cases hop : s.op <;> rw [hop] at h <;> first | exact um (fun v s h => awpOps_mono hk h) h | exact absurd ⟨_, _, hop⟩ hdef
theorem awpD_mono {ss : List SOper} {un : Nat → Nat → Bool} {K K' : Env → St → Prop} (hk : ∀ e s, K e s → K' e s) : ∀ {l : List Nat} {env : Env} {st : St} {L : Log}, awpD P w0 base r ss un l env st L K → awpD P w0 base r ss un l env st L K'
 | [], _, _, _, h => hk _ _ h
 | i :: l, env, st, L, h => by
  simp only [awpD] at h ⊢
  split at h
  ·exact h
  ·refine onGuard_mono ?_ (awpD_mono hk) h
   intro h
   split at h
   ·exact ⟨h.1, um (fun v s h => awpD_mono hk h) h.2⟩
   ·exact um (fun v s h => ⟨h.1, awpD_mono hk h.2⟩) h
   ·exact um (fun v s h => awpD_mono hk h) h
theorem iter_mono {B : Env → List ADef → St → CK → Prop} (hB : ∀ env ds st (Q Q' : CK), (∀ ex e d s, Q ex e d s → Q' ex e d s) → B env ds st Q → B env ds st Q') {Q Q' : CK} (hq : ∀ ex e d s, Q ex e d s → Q' ex e d s) :
  ∀ {n : Nat} {env : Env} {ds : List ADef} {st : St}, iter B Q n env ds st → iter B Q' n env ds st
 | 0, _, _, _, h => h
 | n + 1, env, ds, st, h => hB _ _ _ _ _ (fun ex e d s h => by
   cases ex with
   | normal => exact iter_mono hB hq h
   | exit i => exact hq _ _ _ _ h
   | ret => exact hq _ _ _ _ h) h
theorem xp : ∀ (c : SCode) (env : Env) (ds : List ADef) (st : St) (Q Q' : CK), (∀ ex e d s, Q ex e d s → Q' ex e d s) → awp P w0 base c env ds st Q → awp P w0 base c env ds st Q'
 | .skip, _, _, _, _, _, hq, h => hq _ _ _ _ h
 | .seq a b, _, _, _, _, _, hq, h => xp a _ _ _ _ _ (fun ex e d s h => by
   cases ex with
   | normal => exact xp b _ _ _ _ _ hq h
   | exit i => exact hq _ _ _ _ h
   | ret => exact hq _ _ _ _ h) h
 | .cond c a b, env, _, _, _, _, hq, h => by
  simp only [awp] at h ⊢
  split at h
  ·split at h
   ·rename_i e; rw [if_pos e]; exact xp a _ _ _ _ _ hq h
   ·rename_i e; rw [if_neg e]; exact xp b _ _ _ _ _ hq h
  ·exact h
 | .block id c, _, _, _, _, _, hq, h => xp c _ _ _ _ _ (fun ex e d s h => by
   cases ex with
   | normal => exact hq _ _ _ _ h
   | exit i =>
    simp only at h ⊢
    split at h
    ·rename_i e; rw [if_pos e]; exact hq _ _ _ _ h
    ·rename_i e; rw [if_neg e]; exact hq _ _ _ _ h
   | ret => exact hq _ _ _ _ h) h
 | .loop c, _, _, _, _, _, hq, h => by
  obtain ⟨n, h⟩ := h
  exact ⟨n, iter_mono (fun env ds st Q Q' => xp c env ds st Q Q') hq h⟩
 | .exit id, _, _, _, _, _, hq, h => hq _ _ _ _ h
 | .ret, _, _, _, _, _, hq, h => hq _ _ _ _ h
 | .reg ss, _, _, _, _, _, hq, h => awpOps_mono (fun e d s h => hq _ _ _ _ h) h
 | .draw ms ord ss, _, _, _, _, _, hq, h => ⟨h.1, awpD_mono (fun e s h => hq _ _ _ _ h) h.2⟩
 | .frz ts c, _, _, _, _, _, hq, h => xp c _ _ _ _ _ (fun ex e d s h => hq _ _ _ _ h) h
inductive Lock.{u} {α : Sort u} (a : α) : Type
 | mk
def Hold (p : Prop) (_ : Lock p) : Prop := p
theorem hold {p : Prop} (h : p) : Hold p .mk := h
def nextRound (I : Nat → Env → List ADef → St → Prop) (n : Nat) (Q : CK) : CK := fun ex e d s => match ex with
 | .normal => Hold (∃ m, m < n ∧ I m e d s) .mk
 | ex => Q ex e d s
@[simp ↓] theorem nextRound_normal (I : Nat → Env → List ADef → St → Prop) (n : Nat) (Q : CK) (e : Env) (d : List ADef) (s : St) : nextRound I n Q .normal e d s = Hold (∃ m, m < n ∧ I m e d s) .mk := rfl
@[simp ↓] theorem nextRound_ret (I : Nat → Env → List ADef → St → Prop) (n : Nat) (Q : CK) (e : Env) (d : List ADef) (s : St) : nextRound I n Q .ret e d s = Q .ret e d s := rfl
@[simp ↓] theorem nextRound_exit (I : Nat → Env → List ADef → St → Prop) (n : Nat) (Q : CK) (i : Nat) (e : Env) (d : List ADef) (s : St) : nextRound I n Q (.exit i) e d s = Q (.exit i) e d s := rfl
theorem loop_inv {c : SCode} {Q : CK} (I : Nat → Env → List ADef → St → Prop) {n : Nat} (h0 : I n env ds st)
  (h : ∀ n env ds st, I n env ds st → awp P w0 base c env ds st (nextRound I n Q)) : LoopW (awp P w0 base c) env ds st Q := by
 have key : ∀ k n env ds st, n < k → I n env ds st → iter (awp P w0 base c) Q k env ds st := by
  intro k
  induction k with
  | zero => intro n _ _ _ hn; omega
  | succ k ih =>
   intro n env ds st hn hI
   refine xp c _ _ _ _ _ ?_ (h n env ds st hI)
   intro ex e d s hq
   cases ex with
   | normal => obtain ⟨m, hm, hI'⟩ := hq; exact ih m e d s (by omega) hI'
   | exit i => exact hq
   | ret => exact hq
 exact ⟨n + 1, key (n + 1) n env ds st (by omega) h0⟩
end
mutual
def AV.bare : AV → AV
 | .sl cs len _ => .sl (AV.bareL cs) len .no
 | .iptr cs off => .iptr (AV.bareL cs) off
 | .func fn a b => .func fn (AV.bareL a) (AV.bareL b)
 | .iface t x => .iface t (AV.bare x)
 | .agg cs => .agg (AV.bareL cs)
 | .tuple cs => .tuple (AV.bareL cs)
 | x => x
def AV.bareL : List AV → List AV
 | [] => []
 | x :: l => AV.bare x :: AV.bareL l
end
theorem bareL_map : ∀ (l : List AV), AV.bareL l = l.map AV.bare
 | [] => by simp [AV.bareL]
 | x :: l => by simp [AV.bareL, bareL_map l]
theorem zm (a b : List AV) : AV.bareL (a ++ b) = AV.bareL a ++ AV.bareL b := by simp [bareL_map]
section
variable {G : Gh} {w : World}
mutual
theorem rep_bare : ∀ (a : AV) (v : Value), Rep G w a v → Rep G w a.bare v
 | .undef, _, h => h
 | .bool _, _, h => h
 | .int _ _, _, h => h
 | .str _, _, h => h
 | .nilp, _, h => h
 | .ptr o off, _, h => h
 | .iptr cs off, _, h => by obtain ⟨vs, ad, h1, h2, h3⟩ := h; exact ⟨vs, ad, repC_bare cs vs h1, h2, h3⟩
 | .sl cs len p, _, h => by
  obtain ⟨vs, ad, cap, h1, h2, h3, h4, h5, h6, h7, h8, h9⟩ := h
  exact ⟨vs, ad, cap, repC_bare cs vs h1, h2, h3, h4, h5, h6, (fun h => (by cases h)), (fun t ht => (by cases ht)), h9⟩
 | .row o len, _, h => h
 | .nilmap, _, h => h
 | .map o, _, h => h
 | .func fn a b, _, h => by obtain ⟨x, y, e, h1, h2⟩ := h; exact ⟨x, y, e, repL_bare a x h1, repL_bare b y h2⟩
 | .nilFunc, _, h => h
 | .iface t x, _, h => by obtain ⟨u, e, h1⟩ := h; exact ⟨u, e, rep_bare x u h1⟩
 | .nilIface, _, h => h
 | .agg cs, _, h => by obtain ⟨vs, e, h1⟩ := h; exact ⟨vs, e, repC_bare cs vs h1⟩
 | .tuple cs, _, h => by obtain ⟨vs, e, h1⟩ := h; exact ⟨vs, e, repL_bare cs vs h1⟩
theorem repC_bare : ∀ (cs : List AV) (vs : List Value), RepC G w cs vs → RepC G w (AV.bareL cs) vs
 | [], _, h => h
 | c :: cs, _, h => by obtain ⟨u, us, e, h0, h1, h2⟩ := h; exact ⟨u, us, e, h0, rep_bare c u h1, repC_bare cs us h2⟩
theorem repL_bare : ∀ (cs : List AV) (vs : List Value), RepL G w cs vs → RepL G w (AV.bareL cs) vs
 | [], _, h => h
 | c :: cs, _, h => by obtain ⟨u, us, e, h1, h2⟩ := h; exact ⟨u, us, e, rep_bare c u h1, repL_bare cs us h2⟩
end
end
theorem det_bare {P : Program} {w0 : World} {base : Nat} {f : FuncId} {args : List AV} {st st' : St} {r : AV} (h : Det P w0 base f (AV.bareL args) st r st') : Det P w0 base f args st r st' :=
 ⟨h.enters, h.next, h.keep, fun X G w us hX hI hR => h.calls X G w us hX hI (repL_bare _ _ hR)⟩
section
variable {P : Program} {w0 : World} {base r : Nat}
def Br (c : Bool) (a b : Prop) (_ : Lock (a, b)) : Prop := match c with
 | true => a
 | false => b
@[simp] theorem Br_true (a b : Prop) (l : Lock (a, b)) : Br true a b l = a := rfl
@[simp] theorem Br_false (a b : Prop) (l : Lock (a, b)) : Br false a b l = b := rfl
theorem Br_iff {c : Bool} {a b : Prop} {l : Lock (a, b)} (h1 : c = true → a) (h2 : c = false → b) : Br c a b l := by
 cases c
 ·exact h2 rfl
 ·exact h1 rfl
def Got (x : Option AV) (K : AV → Prop) (_ : Lock K) : Prop := match x with
 | some v => K v
 | none => False
@[simp] theorem Got_some (v : AV) (K : AV → Prop) (l : Lock K) : Got (some v) K l = K v := rfl
def Got2 (x : Option (AV × St)) (K : AV → St → Prop) (_ : Lock K) : Prop := match x with
 | some (v, s) => K v s
 | none => False
@[simp] theorem Got2_some (v : AV) (s : St) (K : AV → St → Prop) (l : Lock K) : Got2 (some (v, s)) K l = K v s := rfl
def CallL (P : Program) (w0 : World) (base : Nat) (f : FuncId) (args : List AV) (st : St) (K : AV → St → Prop) (_ : Lock K) : Prop := CallW P w0 base f args st K
def LoopL (P : Program) (w0 : World) (base : Nat) (c : SCode) (env : Env) (ds : List ADef) (st : St) (Q : CK) (_ : Lock (c, env, Q)) : Prop := LoopW (awp P w0 base c) env ds st Q
theorem zt {f : FuncId} {args : List AV} {st st' : St} {v : AV} {K : AV → St → Prop} {l : Lock K} (h : Det P w0 base f args st v st') (hk : K v st') : CallL P w0 base f args st K l := ⟨v, st', h, hk⟩
theorem zo {f : FuncId} {args args' : List AV} {st st' : St} {v : AV} {K : AV → St → Prop} {l : Lock K} (h : Det P w0 base f args' st v st') (he : AV.bareL args = args') (hk : K v st') : CallL P w0 base f args st K l :=
 ⟨v, st', det_bare (he ▸ h), hk⟩
theorem loop_of {c : SCode} {env : Env} {ds : List ADef} {st : St} {Q : CK} {l : Lock (c, env, Q)} (I : Nat → Env → List ADef → St → Prop) (n : Nat) (h0 : I n env ds st)
  (h : ∀ n env ds st, I n env ds st → awp P w0 base c env ds st (nextRound I n Q)) : LoopL P w0 base c env ds st Q l := loop_inv I h0 h
@[simp ↓] theorem awp_skip (env : Env) (ds : List ADef) (st : St) (Q : CK) : awp P w0 base .skip env ds st Q = Q .normal env ds st := rfl
@[simp ↓] theorem awp_exit (id : Nat) (env : Env) (ds : List ADef) (st : St) (Q : CK) : awp P w0 base (.exit id) env ds st Q = Q (.exit id) env ds st := rfl
@[simp ↓] theorem awp_ret (env : Env) (ds : List ADef) (st : St) (Q : CK) : awp P w0 base .ret env ds st Q = Q .ret env ds st := rfl
@[simp ↓] theorem awp_loop (c : SCode) (env : Env) (ds : List ADef) (st : St) (Q : CK) : awp P w0 base (.loop c) env ds st Q = LoopL P w0 base c env ds st Q .mk := rfl
def andThen (P : Program) (w0 : World) (base : Nat) (b : SCode) (Q : CK) : CK := fun ex e d s => match ex with
 | .normal => awp P w0 base b e d s Q
 | ex => Q ex e d s
def inBlock (id : Nat) (Q : CK) : CK := fun ex e d s => match ex with
 | .exit i => if i = id then Q .normal e d s else Q (.exit i) e d s
 | ex => Q ex e d s
@[simp ↓] theorem yr (a b : SCode) (env : Env) (ds : List ADef) (st : St) (Q : CK) : awp P w0 base (.seq a b) env ds st Q = awp P w0 base a env ds st (andThen P w0 base b Q) := rfl
@[simp ↓] theorem awp_block (id : Nat) (c : SCode) (env : Env) (ds : List ADef) (st : St) (Q : CK) : awp P w0 base (.block id c) env ds st Q = awp P w0 base c env ds st (inBlock id Q) := rfl
@[simp ↓] theorem andThen_normal (b : SCode) (Q : CK) (e : Env) (d : List ADef) (s : St) : andThen P w0 base b Q .normal e d s = awp P w0 base b e d s Q := rfl
@[simp ↓] theorem andThen_ret (b : SCode) (Q : CK) (e : Env) (d : List ADef) (s : St) : andThen P w0 base b Q .ret e d s = Q .ret e d s := rfl
@[simp ↓] theorem andThen_exit (b : SCode) (Q : CK) (e : Env) (d : List ADef) (s : St) (i : Nat) : andThen P w0 base b Q (.exit i) e d s = Q (.exit i) e d s := rfl
@[simp ↓] theorem inBlock_normal (id : Nat) (Q : CK) (e : Env) (d : List ADef) (s : St) : inBlock id Q .normal e d s = Q .normal e d s := rfl
@[simp ↓] theorem inBlock_ret (id : Nat) (Q : CK) (e : Env) (d : List ADef) (s : St) : inBlock id Q .ret e d s = Q .ret e d s := rfl
@[simp ↓] theorem inBlock_exit (id : Nat) (Q : CK) (e : Env) (d : List ADef) (s : St) : inBlock id Q (.exit id) e d s = Q .normal e d s := if_pos rfl
@[simp ↓] theorem inBlock_other (id i : Nat) (Q : CK) (e : Env) (d : List ADef) (s : St) (h : i ≠ id) : inBlock id Q (.exit i) e d s = Q (.exit i) e d s := if_neg h
def Test (x : AV) (a b : Prop) (_ : Lock (a, b)) : Prop := match x with
 | .bool t => Br t a b .mk
 | _ => False
@[simp] theorem Test_bool (t : Bool) (a b : Prop) (l : Lock (a, b)) : Test (.bool t) a b l = Br t a b .mk := rfl
@[simp ↓] theorem awp_cond (c : Opd) (a b : SCode) (env : Env) (ds : List ADef) (st : St) (Q : CK) : awp P w0 base (.cond c a b) env ds st Q = Test (c.ev env) (awp P w0 base a env ds st Q) (awp P w0 base b env ds st Q) .mk := by
 simp only [awp, Test]
 cases c.ev env <;> simp only
 rename_i t
 cases t <;> simp [Br]
def St.bump (st : St) (k : Nat) : St := ⟨st.objs, st.next + k⟩
@[simp ↓] theorem awp_reg (ss : List SOper) (env : Env) (ds : List ADef) (st : St) (Q : CK) : awp P w0 base (.reg ss) env ds st Q = awpOps P w0 base st.next ss env ds (st.bump ss.length) (fun e d s => Q .normal e d s) := rfl
@[simp ↓] theorem awp_draw (ms ord : List Nat) (ss : List SOper) (env : Env) (ds : List ADef) (st : St) (Q : CK) : awp P w0 base (.draw ms ord ss) env ds st Q =
  (noneAt st ss 0 ∧ awpD P w0 base st.next ss (unB ms) ord env (st.bump ss.length) ⟨[], []⟩ fun e s => Q .normal e ds s) := rfl
def FrzL (ts : List Nat) (e : Env) (s : St) (K : Env → St → Prop) (_ : Lock K) : Prop := K (frzs ts e s).1 (frzs ts e s).2
def FrzO (t : Nat) (x : Option AObj) (o : Nat) (e : Env) (s : St) (K : Env → St → Prop) (_ : Lock K) : Prop := match x with
 | some (.cells _ cs) => K (e.set t (.iptr cs 0)) (s.del o)
 | _ => K e s
def FrzR (t : Nat) (x : Option AObj) (o len : Nat) (e : Env) (s : St) (K : Env → St → Prop) (_ : Lock K) : Prop := match x with
 | some (.row _ _ cs) => K (e.set t (.sl cs len .no)) (s.del o)
 | _ => K e s
def FrzV (t : Nat) (v : AV) (e : Env) (s : St) (K : Env → St → Prop) (_ : Lock K) : Prop := match v with
 | .ptr o 0 => FrzO t (s.objs o) o e s K .mk
 | .row o len => FrzR t (s.objs o) o len e s K .mk
 | _ => K e s
@[simp ↓] theorem FrzL_nil (e : Env) (s : St) (K : Env → St → Prop) (l : Lock K) : FrzL [] e s K l = K e s := rfl
@[simp ↓] theorem FrzL_cons (t : Nat) (ts : List Nat) (e : Env) (s : St) (K : Env → St → Prop) (l : Lock K) : FrzL (t :: ts) e s K l = FrzV t (e t) e s (fun e s => FrzL ts e s K .mk) .mk := by
 simp only [FrzL, frzs, FrzV, frz1]
 cases hv : e t with
 | ptr o off =>
  cases off with
  | zero =>
   simp only [FrzO]
   cases s.objs o with
   | none => rfl
   | some x => cases x <;> rfl
  | succ k => rfl
 | row o len =>
  simp only [FrzR]
  cases s.objs o with
  | none => rfl
  | some x => cases x <;> rfl
 | _ => rfl
@[simp] theorem FrzV_ptr (t o : Nat) (e : Env) (s : St) (K : Env → St → Prop) (l : Lock K) : FrzV t (.ptr o 0) e s K l = FrzO t (s.objs o) o e s K .mk := rfl
@[simp] theorem FrzV_row (t o len : Nat) (e : Env) (s : St) (K : Env → St → Prop) (l : Lock K) : FrzV t (.row o len) e s K l = FrzR t (s.objs o) o len e s K .mk := rfl
@[simp] theorem FrzV_undef (t : Nat) (e : Env) (s : St) (K : Env → St → Prop) (l : Lock K) : FrzV t .undef e s K l = K e s := rfl
@[simp] theorem FrzO_cells (t o : Nat) (T : TypeId) (cs : List AV) (e : Env) (s : St) (K : Env → St → Prop) (l : Lock K) : FrzO t (some (.cells T cs)) o e s K l = K (e.set t (.iptr cs 0)) (s.del o) := rfl
@[simp] theorem FrzR_row (t o len T n : Nat) (cs : List AV) (e : Env) (s : St) (K : Env → St → Prop) (l : Lock K) : FrzR t (some (.row T n cs)) o len e s K l = K (e.set t (.sl cs len .no)) (s.del o) := rfl
def inFrz (ts : List Nat) (Q : CK) : CK := fun ex e d s => FrzL ts e s (fun e s => Q ex e d s) .mk
@[simp ↓] theorem awp_frz (ts : List Nat) (c : SCode) (env : Env) (ds : List ADef) (st : St) (Q : CK) : awp P w0 base (.frz ts c) env ds st Q = awp P w0 base c env ds st (inFrz ts Q) := rfl
@[simp ↓] theorem inFrz_at (ts : List Nat) (Q : CK) (ex : AEx) (e : Env) (d : List ADef) (s : St) : inFrz ts Q ex e d s = FrzL ts e s (fun e s => Q ex e d s) .mk := rfl
@[simp ↓] theorem awpOps_nil (env : Env) (ds : List ADef) (st : St) (K : Env → List ADef → St → Prop) : awpOps P w0 base r [] env ds st K = K env ds st := rfl
def opW (P : Program) (w0 : World) (base r : Nat) (op : SOp) (env : Env) (ds : List ADef) (st : St) (K : AV → List ADef → St → Prop) : Prop := match op with
 | .defer x args => match x.ev env with
  | .func fn first cap => K .undef ((fn, cap, first ++ args.map (·.ev env)) :: ds) st
  | _ => False
 | op => goOp P w0 base r env st (fun v st' => K v ds st') op
theorem awpOps_cons (s : SOper) (l : List SOper) (env : Env) (ds : List ADef) (st : St) (K : Env → List ADef → St → Prop) :
  awpOps P w0 base r (s :: l) env ds st K = onGuard s env (opW P w0 base r s.op env ds st fun v ds st => awpOps P w0 base r l (env.put s.dst v) ds st K) (awpOps P w0 base r l (env.put s.dst (.tuple [])) ds st K) := by
 simp only [awpOps, opW]
 cases s.op <;> rfl
@[simp ↓] theorem awpOps_one (d : Option Nat) (op : SOp) (l : List SOper) (env : Env) (ds : List ADef) (st : St) (K : Env → List ADef → St → Prop) :
  awpOps P w0 base r (⟨d, none, op⟩ :: l) env ds st K = opW P w0 base r op env ds st fun v ds st => awpOps P w0 base r l (env.put d v) ds st K := by
 rw [awpOps_cons]; rfl
def Grd (x : AV) (a b c : Prop) (_ : Lock (a, b, c)) : Prop := match x with
 | .bool t => Br t a b .mk
 | .tuple [] => c
 | _ => False
@[simp] theorem Grd_bool (t : Bool) (a b c : Prop) (l : Lock (a, b, c)) : Grd (.bool t) a b c l = Br t a b .mk := rfl
@[simp] theorem Grd_skip (a b c : Prop) (l : Lock (a, b, c)) : Grd (.tuple []) a b c l = c := rfl
theorem onGuard_true {d : Option Nat} {g : Nat} {op : SOp} {env : Env} {a b : Prop} : onGuard ⟨d, some (g, true), op⟩ env a b = Grd (env g) a b b .mk := by
 simp only [onGuard, Grd]
 cases env g with
 | bool t => cases t <;> simp [Br]
 | tuple l => cases l <;> rfl
 | _ => rfl
theorem onGuard_false {d : Option Nat} {g : Nat} {op : SOp} {env : Env} {a b : Prop} : onGuard ⟨d, some (g, false), op⟩ env a b = Grd (env g) b a b .mk := by
 simp only [onGuard, Grd]
 cases env g with
 | bool t => cases t <;> simp [Br]
 | tuple l => cases l <;> rfl
 | _ => rfl
@[simp ↓] theorem awpOps_gt (d : Option Nat) (g : Nat) (op : SOp) (l : List SOper) (env : Env) (ds : List ADef) (st : St) (K : Env → List ADef → St → Prop) :
  awpOps P w0 base r (⟨d, some (g, true), op⟩ :: l) env ds st K = Grd (env g) (opW P w0 base r op env ds st fun v ds st => awpOps P w0 base r l (env.put d v) ds st K) (awpOps P w0 base r l (env.put d (.tuple [])) ds st K) (awpOps P w0 base r l (env.put d (.tuple [])) ds st K) .mk := by
 rw [awpOps_cons, onGuard_true]
@[simp ↓] theorem awpOps_gf (d : Option Nat) (g : Nat) (op : SOp) (l : List SOper) (env : Env) (ds : List ADef) (st : St) (K : Env → List ADef → St → Prop) :
  awpOps P w0 base r (⟨d, some (g, false), op⟩ :: l) env ds st K = Grd (env g) (awpOps P w0 base r l (env.put d (.tuple [])) ds st K) (opW P w0 base r op env ds st fun v ds st => awpOps P w0 base r l (env.put d v) ds st K) (awpOps P w0 base r l (env.put d (.tuple [])) ds st K) .mk := by
 rw [awpOps_cons, onGuard_false]
def GotF (x : AV) (K : FuncId → List AV → List AV → Prop) (_ : Lock K) : Prop := match x with
 | .func (.func f) a b => K f a b
 | _ => False
@[simp] theorem GotF_func (f : FuncId) (a b : List AV) (K : FuncId → List AV → List AV → Prop) (l : Lock K) : GotF (.func (.func f) a b) K l = K f a b := rfl
def GotD (x : AV) (K : Fn → List AV → List AV → Prop) (_ : Lock K) : Prop := match x with
 | .func f a b => K f a b
 | _ => False
@[simp] theorem GotD_func (f : Fn) (a b : List AV) (K : Fn → List AV → List AV → Prop) (l : Lock K) : GotD (.func f a b) K l = K f a b := rfl
section
variable (env : Env) (ds : List ADef) (st : St) (K : AV → List ADef → St → Prop)
@[simp ↓] theorem opW_pe (e : PE) : opW P w0 base r (.pe e) env ds st K = Got (e.eval env) (fun v => K v ds st) .mk := by
 simp only [opW, goOp, SOp.step, Got]
 cases e.eval env <;> rfl
theorem ue (op : SOp) (h1 : ∀ f a, op ≠ .call f a) (h2 : ∀ x a, op ≠ .callV x a) (h3 : ∀ x a, op ≠ .defer x a) : opW P w0 base r op env ds st K = Got2 (op.step r env st) (fun v s => K v ds s) .mk := by
 cases op <;> first | rfl | exact absurd rfl (h1 _ _) | exact absurd rfl (h2 _ _) | exact absurd rfl (h3 _ _)
@[simp ↓] theorem opW_load (n : Nat) (agg : Bool) (x : Opd) : opW P w0 base r (.load n agg x) env ds st K = Got2 ((SOp.load n agg x).step r env st) (fun v s => K v ds s) .mk := ue _ _ _ _ _ (by simp) (by simp) (by simp)
@[simp ↓] theorem opW_store (n : Nat) (x v : Opd) : opW P w0 base r (.store n x v) env ds st K = Got2 ((SOp.store n x v).step r env st) (fun v s => K v ds s) .mk := ue _ _ _ _ _ (by simp) (by simp) (by simp)
@[simp ↓] theorem opW_alloc (T : TypeId) (z : AV) (k : Nat) : opW P w0 base r (.alloc T z k) env ds st K = Got2 ((SOp.alloc T z k).step r env st) (fun v s => K v ds s) .mk := ue _ _ _ _ _ (by simp) (by simp) (by simp)
@[simp ↓] theorem opW_box (T : TypeId) (x : Opd) (k : Nat) : opW P w0 base r (.box T x k) env ds st K = Got2 ((SOp.box T x k).step r env st) (fun v s => K v ds s) .mk := ue _ _ _ _ _ (by simp) (by simp) (by simp)
@[simp ↓] theorem opW_append (str : Bool) (T : TypeId) (size bytes : Nat) (x y : Opd) (k : Nat) : opW P w0 base r (.append str T size bytes x y k) env ds st K = Got2 ((SOp.append str T size bytes x y k).step r env st) (fun v s => K v ds s) .mk := ue _ _ _ _ _ (by simp) (by simp) (by simp)
@[simp ↓] theorem opW_lookup (kk : BK) (z : AV) (ok : Bool) (m key : Opd) : opW P w0 base r (.lookup kk z ok m key) env ds st K = Got2 ((SOp.lookup kk z ok m key).step r env st) (fun v s => K v ds s) .mk := ue _ _ _ _ _ (by simp) (by simp) (by simp)
@[simp ↓] theorem opW_mapUpd (kk : BK) (m key v : Opd) : opW P w0 base r (.mapUpd kk m key v) env ds st K = Got2 ((SOp.mapUpd kk m key v).step r env st) (fun v s => K v ds s) .mk := ue _ _ _ _ _ (by simp) (by simp) (by simp)
@[simp ↓] theorem opW_mkMap (k : Nat) : opW P w0 base r (.mkMap k) env ds st K = Got2 ((SOp.mkMap k).step r env st) (fun v s => K v ds s) .mk := ue _ _ _ _ _ (by simp) (by simp) (by simp)
@[simp ↓] theorem opW_call (f : FuncId) (args : List Opd) : opW P w0 base r (.call f args) env ds st K = CallL P w0 base f (args.map (·.ev env)) st (fun v s => K v ds s) .mk := rfl
@[simp ↓] theorem opW_callV (x : Opd) (args : List Opd) : opW P w0 base r (.callV x args) env ds st K = GotF (x.ev env) (fun f first cap => CallL P w0 base f (first ++ args.map (·.ev env) ++ cap) st (fun v s => K v ds s) .mk) .mk := by
 simp only [opW, goOp, GotF, CallL]
 split <;> first | rfl | (split <;> first | rfl | (rename_i h _ _; simp_all))
@[simp ↓] theorem opW_defer (x : Opd) (args : List Opd) : opW P w0 base r (.defer x args) env ds st K = GotD (x.ev env) (fun f first cap => K .undef ((f, cap, first ++ args.map (·.ev env)) :: ds) st) .mk := by
 simp only [opW, GotD]
end
end
end
section
@[reducible] def t (n : Nat) : Opd := .tmp n
@[reducible] def i (k : Int) : Opd := .lit (.int .i64 k)
@[reducible] def m (d x : Nat) : SOper := ⟨some d, none, .pe (.mov (.tmp x))⟩
@[reducible] def pE (d : Nat) (e : PE) : SOper := ⟨some d, none, .pe e⟩
@[reducible] def oS (d : Nat) (e : SOp) : SOper := ⟨some d, none, e⟩
@[reducible] def pG (d g : Nat) (b : Bool) (e : PE) : SOper := ⟨some d, some (g, b), .pe e⟩
@[reducible] def oG (d g : Nat) (b : Bool) (e : SOp) : SOper := ⟨some d, some (g, b), e⟩
@[simp] theorem x7 (e : Env) (d : Nat) (a : AV) (i : Nat) : (e.set d a) i = if i = d then a else e i := rfl
@[simp] theorem xu (e : Env) (d : Nat) (a : AV) : e.put (some d) a = e.set d a := rfl
@[simp] theorem put_none (e : Env) (a : AV) : e.put none a = e := rfl
@[simp] theorem ev_tmp (e : Env) (n : Nat) : (Opd.tmp n).ev e = e n := rfl
@[simp] theorem ev_lit (e : Env) (a : AV) : (Opd.lit a).ev e = a := rfl
@[simp] theorem init_zero (a : AV) (l : List AV) : initEnv (a :: l) 0 = a := rfl
@[simp] theorem init_succ (a : AV) (l : List AV) (n : Nat) : initEnv (a :: l) (n + 1) = initEnv l n := rfl
@[simp] theorem bump_objs (st : St) (k : Nat) : (st.bump k).objs = st.objs := rfl
@[simp] theorem bump_next (st : St) (k : Nat) : (st.bump k).next = st.next + k := rfl
@[simp] theorem bump_bump (st : St) (a b : Nat) : (st.bump a).bump b = st.bump (a + b) := by show St.mk _ _ = St.mk _ _; rw [bump_objs, bump_next, Nat.add_assoc]
@[simp] theorem put_next (st : St) (o : Nat) (x : AObj) : (st.put o x).next = st.next := rfl
@[simp] theorem bump_put (st : St) (o : Nat) (x : AObj) (k : Nat) : (st.put o x).bump k = (st.bump k).put o x := rfl
@[simp] theorem yh (st : St) (o : Nat) (x : AObj) (o' : Nat) : (st.put o x).objs o' = if o' = o then some x else st.objs o' := rfl
@[simp] theorem put_put (st : St) (o : Nat) (x y : AObj) : (st.put o x).put o y = st.put o y := by
 simp only [St.put]; congr 1; funext j; simp only [upd]; split <;> rfl
@[simp] theorem data_def (st : St) (o : Nat) : st.data o = (st.objs o).bind dataOf := rfl
@[simp] theorem data_of_cells (T : TypeId) (cs : List AV) : dataOf (.cells T cs) = some cs := rfl
@[simp] theorem data_of_row (e n : Nat) (cs : List AV) : dataOf (.row e n cs) = some cs := rfl
@[simp] theorem with_cells (T : TypeId) (cs ds : List AV) : withData (.cells T cs) ds = .cells T ds := rfl
@[simp] theorem with_row (e n : Nat) (cs ds : List AV) : withData (.row e n cs) ds = .row e n ds := rfl
@[simp] theorem del_objs (st : St) (o o' : Nat) : (st.del o).objs o' = if o' = o then none else st.objs o' := rfl
@[simp] theorem del_next (st : St) (o : Nat) : (st.del o).next = st.next := rfl
@[simp] theorem del_bump (st : St) (o k : Nat) : (st.del o).bump k = (st.bump k).del o := rfl
@[simp] theorem del_put (st : St) (o : Nat) (x : AObj) : (st.put o x).del o = st.del o := by
 simp only [St.del, St.put, upd]; congr 1; funext j; split <;> rfl
theorem zx {o n k : Nat} (h : o < n) : (o = n + k) = False := by simp; omega
theorem zy {o n : Nat} (h : o < n) : (o = n) = False := by simp; omega
theorem zu {o n k : Nat} (h : o < n) : (n + k = o) = False := by simp; omega
theorem zw {o n : Nat} (h : o < n) : (n = o) = False := by simp; omega
attribute [simp] Nat.add_assoc setMany PE.eval AV.solid AV.cells loadA findA leafEq srcA binA intA strA eqA unA cvA boundA fillA litsA noneAt SOp.kd packRes
def lookF (z : AV) (ok : Bool) (st : St) (l : Bool) : Option (Option (Nat × AV)) → Option (AV × St)
 | some (some (_, v)) => some (if ok then .tuple [v, .bool true] else v, st)
 | some none => if l then some (if ok then .tuple [z, .bool false] else z, st) else none
 | none => none
@[simp] theorem lookF_ok (z : AV) (st : St) (x : Option (Nat × AV)) : lookF z true st true (some x) = some (.tuple [(x.map (·.2)).getD z, .bool x.isSome], st) := by cases x <;> rfl
@[simp] theorem lookF_one (z : AV) (st : St) (x : Option (Nat × AV)) : lookF z false st true (some x) = some ((x.map (·.2)).getD z, st) := by cases x <;> rfl
def lookO (kk : BK) (z : AV) (ok : Bool) (key : AV) (st : St) : Option AObj → Option (AV × St)
 | some (.map es) => lookF z ok st (leafEq kk key key).isSome (findA kk key es 0)
 | _ => none
@[simp] theorem lookO_map (kk : BK) (z : AV) (ok : Bool) (key : AV) (st : St) (es : List (AV × AV)) : lookO kk z ok key st (some (.map es)) = lookF z ok st (leafEq kk key key).isSome (findA kk key es 0) := rfl
def lookM (kk : BK) (z : AV) (ok : Bool) (key : AV) (st : St) : AV → Option (AV × St)
 | .nilmap => if key.solid then some (if ok then .tuple [z, .bool false] else z, st) else none
 | .map o => lookO kk z ok key st (st.objs o)
 | _ => none
@[simp] theorem lookM_map (kk : BK) (z : AV) (ok : Bool) (key : AV) (st : St) (o : Nat) : lookM kk z ok key st (.map o) = lookO kk z ok key st (st.objs o) := rfl
@[simp] theorem lookM_nil (kk : BK) (z : AV) (ok : Bool) (key : AV) (st : St) : lookM kk z ok key st .nilmap = if key.solid then some (if ok then .tuple [z, .bool false] else z, st) else none := rfl
@[simp] theorem step_lookup (r : Nat) (env : Env) (st : St) (kk : BK) (z : AV) (ok : Bool) (m key : Opd) : SOp.step r env st (.lookup kk z ok m key) = lookM kk z ok (key.ev env) st (m.ev env) := by
 simp only [SOp.step, lookM, lookO, lookF]
 split
 ·rename_i h; simp only [h]
 ·rename_i h
  simp only [h]
  split
  ·rename_i h; simp only [h]; split <;> (rename_i h; simp only [h])
  ·rename_i h; split <;> first | rfl | (rename_i h'; exact absurd h' (h _))
 ·rename_i h1 h2
  split <;> first | rfl | (rename_i h; first | exact absurd h h1 | exact absurd h (h2 _))
def updF (o : Nat) (key v : AV) (es : List (AV × AV)) (st : St) (l : Bool) : Option (Option (Nat × AV)) → Option (AV × St)
 | some (some (i, _)) => some (.undef, st.put o (.map (es.set i (key, v))))
 | some none => if l then some (.undef, st.put o (.map (es ++ [(key, v)]))) else none
 | none => none
@[simp] theorem updF_old (o : Nat) (key v : AV) (es : List (AV × AV)) (st : St) (l : Bool) (i : Nat) (x : AV) : updF o key v es st l (some (some (i, x))) = some (.undef, st.put o (.map (es.set i (key, v)))) := rfl
@[simp] theorem updF_new (o : Nat) (key v : AV) (es : List (AV × AV)) (st : St) : updF o key v es st true (some none) = some (.undef, st.put o (.map (es ++ [(key, v)]))) := rfl
def updO (kk : BK) (o : Nat) (key v : AV) (st : St) : Option AObj → Option (AV × St)
 | some (.map es) => updF o key v es st (leafEq kk key key).isSome (findA kk key es 0)
 | _ => none
@[simp] theorem updO_map (kk : BK) (o : Nat) (key v : AV) (st : St) (es : List (AV × AV)) : updO kk o key v st (some (.map es)) = updF o key v es st (leafEq kk key key).isSome (findA kk key es 0) := rfl
def updM (kk : BK) (key v : AV) (st : St) : AV → Option (AV × St)
 | .map o => updO kk o key v st (st.objs o)
 | _ => none
@[simp] theorem updM_map (kk : BK) (key v : AV) (st : St) (o : Nat) : updM kk key v st (.map o) = updO kk o key v st (st.objs o) := rfl
@[simp] theorem step_upd (r : Nat) (env : Env) (st : St) (kk : BK) (m key v : Opd) : SOp.step r env st (.mapUpd kk m key v) = updM kk (key.ev env) (v.ev env) st (m.ev env) := by
 simp only [SOp.step, updM, updO, updF]
 split
 ·rename_i h
  simp only [h]
  split
  ·rename_i h; simp only [h]; split <;> (rename_i h; simp only [h])
  ·rename_i h; split <;> first | rfl | (rename_i h'; exact absurd h' (h _))
 ·rename_i h2
  split <;> first | rfl | (rename_i h; exact absurd h (h2 _))
@[simp] theorem step_load (r : Nat) (env : Env) (st : St) (n : Nat) (agg : Bool) (x : Opd) : SOp.step r env st (.load n agg x) = match x.ev env with
  | .iptr cs off => (loadA n agg cs off).map fun v => (v, st)
  | .ptr o off => match st.data o with
   | some cs => (loadA n agg cs off).map fun v => (v, st)
   | none => none
  | _ => none := rfl
@[simp] theorem step_store (r : Nat) (env : Env) (st : St) (n : Nat) (x v : Opd) : SOp.step r env st (.store n x v) = match x.ev env with
  | .ptr o off => match st.objs o with
   | some ob => match dataOf ob with
    | some cs => if (v.ev env).solid ∧ (v.ev env).cells.length = n ∧ off + n ≤ cs.length then some (.undef, st.put o (withData ob (setMany cs off (v.ev env).cells))) else none
    | none => none
   | none => none
  | _ => none := rfl
@[simp] theorem step_alloc (r : Nat) (env : Env) (st : St) (T : TypeId) (z : AV) (k : Nat) : SOp.step r env st (.alloc T z k) = some (.ptr (r + k) 0, st.put (r + k) (.cells T z.cells)) := rfl
@[simp] theorem step_box (r : Nat) (env : Env) (st : St) (T : TypeId) (x : Opd) (k : Nat) : SOp.step r env st (.box T x k) = if (x.ev env).solid then some (.ptr (r + k) 0, st.put (r + k) (.cells T (x.ev env).cells)) else none := rfl
@[simp] theorem step_mkMap (r : Nat) (env : Env) (st : St) (k : Nat) : SOp.step r env st (.mkMap k) = some (.map (r + k), st.put (r + k) (.map [])) := rfl
def tokF (t : Nat) (T : TypeId) (size len : Nat) (cs ds : List AV) (n : Nat) (st : St) : Option AObj → Option (AV × St)
 | some (.tip T' s' l') => if T' = T ∧ s' = size ∧ l' = len then some (.sl (cs ++ ds) (len + n) (.tok t), st.put t (.tip T size (len + n))) else none
 | _ => none
@[simp] theorem tokF_tip (t : Nat) (T : TypeId) (size len : Nat) (cs ds : List AV) (n : Nat) (st : St) : tokF t T size len cs ds n st (some (.tip T size len)) = some (.sl (cs ++ ds) (len + n) (.tok t), st.put t (.tip T size (len + n))) := by simp [tokF]
def appP (r k : Nat) (T : TypeId) (size len : Nat) (cs ds : List AV) (n : Nat) (st : St) : Perm → Option (AV × St)
 | .full => some (.sl (cs ++ ds) (len + n) (.tok (r + k)), st.put (r + k) (.tip T size (len + n)))
 | .tok t => tokF t T size len cs ds n st (st.objs t)
 | .no => none
@[simp] theorem appP_full (r k : Nat) (T : TypeId) (size len : Nat) (cs ds : List AV) (n : Nat) (st : St) : appP r k T size len cs ds n st .full = some (.sl (cs ++ ds) (len + n) (.tok (r + k)), st.put (r + k) (.tip T size (len + n))) := rfl
@[simp] theorem appP_tok (r k : Nat) (T : TypeId) (size len : Nat) (cs ds : List AV) (n : Nat) (st : St) (t : Nat) : appP r k T size len cs ds n st (.tok t) = tokF t T size len cs ds n st (st.objs t) := rfl
def appS (r k : Nat) (T : TypeId) (size bytes : Nat) (st : St) : AV → Option (Nat × List AV) → Option (AV × St)
 | .sl cs len p, some (n, ds) => if n = 0 then some (.sl cs len p, st) else if cs.length = len * size ∧ (len + n) * bytes ≤ big ∧ len + n ≤ big then appP r k T size len cs ds n st p else none
 | _, _ => none
@[simp] theorem appS_sl (r k : Nat) (T : TypeId) (size bytes : Nat) (st : St) (cs : List AV) (len : Nat) (p : Perm) (n : Nat) (ds : List AV) : appS r k T size bytes st (.sl cs len p) (some (n, ds)) =
  if n = 0 then some (.sl cs len p, st) else if cs.length = len * size ∧ (len + n) * bytes ≤ big ∧ len + n ≤ big then appP r k T size len cs ds n st p else none := rfl
@[simp] theorem step_append (r : Nat) (env : Env) (st : St) (str : Bool) (T : TypeId) (size bytes : Nat) (s x : Opd) (k : Nat) : SOp.step r env st (.append str T size bytes s x k) = appS r k T size bytes st (s.ev env) (srcA str size (x.ev env)) := by
 simp only [SOp.step]
 split
 ·rename_i cs len p n ds h1 h2
  rw [h1, h2]
  simp only [appS]
  split
  ·rfl
  ·split
   ·cases p with
    | no => rfl
    | full => rfl
    | tok t =>
     simp only [appP, tokF]
     split <;> rename_i h <;> simp only [h]
   ·rfl
 ·rename_i h
  unfold appS
  split
  ·rename_i cs len p n ds h1 h2; exact absurd h2 (h _ _ _ _ _ h1)
  ·rfl
section
variable {P : Program} {w0 : World} {base r : Nat} {ss : List SOper} {un : Nat → Nat → Bool}
def logR (L : Log) (i : Nat) (o : Option Rd) : Log := ⟨(i, o) :: L.rd, L.ef⟩
def logE (L : Log) (i : Nat) (s0 s1 : St) : Log := ⟨L.rd, (i, s0, s1) :: L.ef⟩
@[simp] theorem logR_rd (L : Log) (i : Nat) (o : Option Rd) : (logR L i o).rd = (i, o) :: L.rd := rfl
@[simp] theorem logR_ef (L : Log) (i : Nat) (o : Option Rd) : (logR L i o).ef = L.ef := rfl
@[simp] theorem logE_rd (L : Log) (i : Nat) (s0 s1 : St) : (logE L i s0 s1).rd = L.rd := rfl
@[simp] theorem logE_ef (L : Log) (i : Nat) (s0 s1 : St) : (logE L i s0 s1).ef = (i, s0, s1) :: L.ef := rfl
def opD (P : Program) (w0 : World) (base r : Nat) (un : Nat → Nat → Bool) (i : Nat) (op : SOp) (env : Env) (st : St) (L : Log) (K : AV → St → Log → Prop) : Prop := match op.kd with
 | .read => oblQ un i (op.rd env) L.ef ∧ goOp P w0 base r env st (fun v st' => K v st' (logR L i (op.rd env))) op
 | .eff => goOp P w0 base r env st (fun v st' => oblR un i st st' L.rd ∧ K v st' (logE L i st st')) op
 | _ => goOp P w0 base r env st (fun v st' => K v st' L) op
def atD (P : Program) (w0 : World) (base r : Nat) (un : Nat → Nat → Bool) (i : Nat) (s : SOper) (env : Env) (st : St) (L : Log) (K : Env → St → Log → Prop) : Prop := onGuard s env (opD P w0 base r un i s.op env st L fun v st L => K (env.put s.dst v) st L) (K (env.put s.dst (.tuple [])) st (logR L i none))
def GotS (s : Option SOper) (K : SOper → Prop) (_ : Lock K) : Prop := match s with
 | some s => K s
 | none => False
@[simp] theorem GotS_some (s : SOper) (K : SOper → Prop) (l : Lock K) : GotS (some s) K l = K s := rfl
@[simp ↓] theorem awpD_nil (env : Env) (st : St) (L : Log) (K : Env → St → Prop) : awpD P w0 base r ss un [] env st L K = K env st := rfl
@[simp ↓] theorem awpD_cons (i : Nat) (l : List Nat) (env : Env) (st : St) (L : Log) (K : Env → St → Prop) :
  awpD P w0 base r ss un (i :: l) env st L K = GotS ss[i]? (fun s => atD P w0 base r un i s env st L fun env st L => awpD P w0 base r ss un l env st L K) .mk := by
 simp only [awpD, GotS, atD]
 cases ss[i]? with
 | none => rfl
 | some s =>
  simp only [opD]
  cases s.op <;> rfl
@[simp ↓] theorem atD_one (i : Nat) (d : Option Nat) (op : SOp) (env : Env) (st : St) (L : Log) (K : Env → St → Log → Prop) :
  atD P w0 base r un i ⟨d, none, op⟩ env st L K = opD P w0 base r un i op env st L fun v st L => K (env.put d v) st L := rfl
@[simp ↓] theorem atD_gt (i : Nat) (d : Option Nat) (g : Nat) (op : SOp) (env : Env) (st : St) (L : Log) (K : Env → St → Log → Prop) :
  atD P w0 base r un i ⟨d, some (g, true), op⟩ env st L K = Grd (env g) (opD P w0 base r un i op env st L fun v st L => K (env.put d v) st L) (K (env.put d (.tuple [])) st (logR L i none)) (K (env.put d (.tuple [])) st (logR L i none)) .mk := onGuard_true (d := d) (op := op)
@[simp ↓] theorem atD_gf (i : Nat) (d : Option Nat) (g : Nat) (op : SOp) (env : Env) (st : St) (L : Log) (K : Env → St → Log → Prop) :
  atD P w0 base r un i ⟨d, some (g, false), op⟩ env st L K = Grd (env g) (K (env.put d (.tuple [])) st (logR L i none)) (opD P w0 base r un i op env st L fun v st L => K (env.put d v) st L) (K (env.put d (.tuple [])) st (logR L i none)) .mk := onGuard_false (d := d) (op := op)
section
variable (i : Nat) (env : Env) (st : St) (L : Log) (K : AV → St → Log → Prop)
@[simp ↓] theorem opD_pe (e : PE) : opD P w0 base r un i (.pe e) env st L K = Got (e.eval env) (fun v => K v st L) .mk := by
 simp only [opD, SOp.kd, goOp, SOp.step, Got]
 cases e.eval env <;> rfl
@[simp ↓] theorem opD_load (n : Nat) (agg : Bool) (x : Opd) : opD P w0 base r un i (.load n agg x) env st L K =
  (oblQ un i ((SOp.load n agg x).rd env) L.ef ∧ Got2 ((SOp.load n agg x).step r env st) (fun v s => K v s (logR L i ((SOp.load n agg x).rd env))) .mk) := rfl
@[simp ↓] theorem opD_lookup (kk : BK) (z : AV) (ok : Bool) (m key : Opd) : opD P w0 base r un i (.lookup kk z ok m key) env st L K =
  (oblQ un i ((SOp.lookup kk z ok m key).rd env) L.ef ∧ Got2 ((SOp.lookup kk z ok m key).step r env st) (fun v s => K v s (logR L i ((SOp.lookup kk z ok m key).rd env))) .mk) := rfl
@[simp ↓] theorem opD_alloc (T : TypeId) (z : AV) (k : Nat) : opD P w0 base r un i (.alloc T z k) env st L K = Got2 ((SOp.alloc T z k).step r env st) (fun v s => K v s L) .mk := rfl
@[simp ↓] theorem opD_box (T : TypeId) (x : Opd) (k : Nat) : opD P w0 base r un i (.box T x k) env st L K = Got2 ((SOp.box T x k).step r env st) (fun v s => K v s L) .mk := rfl
@[simp ↓] theorem opD_mkMap (k : Nat) : opD P w0 base r un i (.mkMap k) env st L K = Got2 ((SOp.mkMap k).step r env st) (fun v s => K v s L) .mk := rfl
@[simp ↓] theorem opD_store (n : Nat) (x v : Opd) : opD P w0 base r un i (.store n x v) env st L K = Got2 ((SOp.store n x v).step r env st) (fun v s => oblR un i st s L.rd ∧ K v s (logE L i st s)) .mk := rfl
@[simp ↓] theorem opD_append (str : Bool) (T : TypeId) (size bytes : Nat) (x y : Opd) (k : Nat) : opD P w0 base r un i (.append str T size bytes x y k) env st L K = Got2 ((SOp.append str T size bytes x y k).step r env st) (fun v s => oblR un i st s L.rd ∧ K v s (logE L i st s)) .mk := rfl
@[simp ↓] theorem opD_mapUpd (kk : BK) (m key v : Opd) : opD P w0 base r un i (.mapUpd kk m key v) env st L K = Got2 ((SOp.mapUpd kk m key v).step r env st) (fun v s => oblR un i st s L.rd ∧ K v s (logE L i st s)) .mk := rfl
@[simp ↓] theorem opD_call (f : FuncId) (args : List Opd) : opD P w0 base r un i (.call f args) env st L K = CallL P w0 base f (args.map (·.ev env)) st (fun v s => oblR un i st s L.rd ∧ K v s (logE L i st s)) .mk := rfl
@[simp ↓] theorem opD_callV (x : Opd) (args : List Opd) : opD P w0 base r un i (.callV x args) env st L K = GotF (x.ev env) (fun f first cap => CallL P w0 base f (first ++ args.map (·.ev env) ++ cap) st (fun v s => oblR un i st s L.rd ∧ K v s (logE L i st s)) .mk) .mk := by
 simp only [opD, SOp.kd, goOp, GotF, CallL]
 split <;> first | rfl | (split <;> first | rfl | (rename_i h _ _; simp_all))
end
end
attribute [simp] oblR oblE oblQ SOp.rd Rd.id Rd.same unB depB Nat.testBit
def Ends (P : Program) (w0 : World) (base : Nat) (rs : List SRes) (st : St) (r : AV) (st' : St) : CK := fun ex env ds s =>
 (match ex with | .exit _ => False | _ => True) ∧ runDs P w0 base ds s fun s' => ∃ vs, evalRes env s' rs = some vs ∧ Fin st s' (packRes vs) r st'
def GotR (x : Option (List AV)) (K : List AV → Prop) (_ : Lock K) : Prop := match x with
 | some v => K v
 | none => False
@[simp] theorem GotR_some (v : List AV) (K : List AV → Prop) (l : Lock K) : GotR (some v) K l = K v := rfl
theorem gotR_iff (x : Option (List AV)) (K : List AV → Prop) : (∃ v, x = some v ∧ K v) ↔ GotR x K .mk := by cases x <;> simp [GotR]
def RunL (P : Program) (w0 : World) (base : Nat) (ds : List ADef) (s : St) (K : St → Prop) (_ : Lock K) : Prop := runDs P w0 base ds s K
@[simp ↓] theorem ends_ret {P : Program} {w0 : World} {base : Nat} (rs : List SRes) (st : St) (r : AV) (st' : St) (env : Env) (ds : List ADef) (s : St) :
  Ends P w0 base rs st r st' .ret env ds s = RunL P w0 base ds s (fun s' => GotR (evalRes env s' rs) (fun vs => Fin st s' (packRes vs) r st') .mk) .mk := by
 simp only [Ends, gotR_iff, true_and, RunL]
@[simp ↓] theorem ends_normal {P : Program} {w0 : World} {base : Nat} (rs : List SRes) (st : St) (r : AV) (st' : St) (env : Env) (ds : List ADef) (s : St) :
  Ends P w0 base rs st r st' .normal env ds s = RunL P w0 base ds s (fun s' => GotR (evalRes env s' rs) (fun vs => Fin st s' (packRes vs) r st') .mk) .mk := by
 simp only [Ends, gotR_iff, true_and, RunL]
@[simp] theorem runL_nil {P : Program} {w0 : World} {base : Nat} (s : St) (K : St → Prop) (l : Lock K) : RunL P w0 base [] s K l = K s := rfl
theorem runL_cons {P : Program} {w0 : World} {base : Nat} {f : FuncId} {cap args : List AV} {ds : List ADef} {s s1 : St} {K : St → Prop} {l : Lock K} (h : DetD P w0 base f (args ++ cap) s s1) (h' : RunL P w0 base ds s1 K .mk) : RunL P w0 base ((.func f, cap, args) :: ds) s K l := ⟨s1, h, h'⟩
attribute [simp] evalRes SRes.eval
theorem z6 {P : Program} {w0 : World} {base : Nat} {f : FuncId} {fn : Func} {N : Nat} {rs : List SRes} {b : SCode} (hf : P.funcs[f]? = some fn) (hs : resFunc P fn = some ⟨N, rs, b.strip⟩) {args : List AV} {st st' : St} {r : AV} (hl : Nat.ble args.length N = true)
  (h : awp P w0 base b (initEnv args) [] st (Ends P w0 base rs st r st')) : Det P w0 base f args st r st' := det_fun hf hs rfl (Nat.le_of_ble_eq_true hl) h
theorem zp {P : Program} {f : FuncId} {fn : Func} {sf : SFunc} (hf : P.funcs[f]? = some fn) (hs : resFunc P fn = some sf) : Enters P f := (enters_of hf hs).1
theorem zg {st s : St} {r0 r : AV} (hwf : st.wf) (h : ∀ o, o < st.next → s.objs o = st.objs o) (e : eraseA st.next r0 = some r) : Fin st s r0 r st :=
 .back ⟨rfl, fun o x hx => ⟨by rw [h o (hwf o x hx)]; exact hx, hwf o x hx, .inl hx⟩⟩ e
theorem fin_put {st s : St} {r0 r : AV} {p : Nat} {y : AObj} (hwf : st.wf) (hp : p < st.next) (h : ∀ o, o < st.next → s.objs o = (st.put p y).objs o) (hy : y.under (· < st.next)) (e : eraseA st.next r0 = some r) : Fin st s r0 r (st.put p y) := by
 refine .back ⟨rfl, fun o x hx => ?_⟩ e
 have hlt : o < st.next := by
  simp only [yh] at hx
  split at hx
  ·rename_i e; rw [e]; exact hp
  ·exact hwf o x hx
 refine ⟨by rw [h o hlt]; exact hx, hlt, ?_⟩
 simp only [yh] at hx
 split at hx
 ·cases hx; exact .inr hy
 ·exact .inl hx
end
section
def wrO (t : Nat) : List SOper → Bool
 | [] => false
 | s :: l => s.dst == some t || wrO t l
def wr (t : Nat) : SCode → Bool
 | .frz ts c => ts.contains t || wr t c
 | .seq a b | .cond _ a b => wr t a || wr t b
 | .block _ c | .loop c => wr t c
 | .reg ss | .draw _ _ ss => wrO t ss
 | _ => false
def dfO : List SOper → Bool
 | [] => false
 | s :: l => (match s.op with | .defer _ _ => true | _ => false) || dfO l
def df : SCode → Bool
 | .frz _ c => df c
 | .seq a b | .cond _ a b => df a || df b
 | .block _ c | .loop c => df c
 | .reg ss => dfO ss
 | _ => false
section
variable {P : Program} {w0 : World} {base r : Nat}
theorem put_frame {env : Env} {d : Option Nat} {v : AV} {t : Nat} (h : (d == some t) = false) : env.put d v t = env t := by
 cases d with
 | none => rfl
 | some d =>
  have : t ≠ d := by rintro rfl; simp at h
  exact if_neg this
theorem awpOps_frame {K : Env → List ADef → St → Prop} : ∀ {l : List SOper} {env : Env} {ds : List ADef} {st : St}, awpOps P w0 base r l env ds st K →
  awpOps P w0 base r l env ds st fun e d s => K e d s ∧ (∀ t, wrO t l = false → e t = env t) ∧ (dfO l = false → d = ds)
 | [], env, ds, st, h => ⟨h, fun _ _ => rfl, fun _ => rfl⟩
 | s :: l, env, ds, st, h => by
  have key : ∀ {v : AV} {ds' : List ADef} {st' : St}, (dfO (s :: l) = false → ds' = ds) → awpOps P w0 base r l (env.put s.dst v) ds' st' K → awpOps P w0 base r l (env.put s.dst v) ds' st' fun e d s' => K e d s' ∧ (∀ t, wrO t (s :: l) = false → e t = env t) ∧ (dfO (s :: l) = false → d = ds) := by
   intro v ds' st' hds h
   refine awpOps_mono ?_ (awpOps_frame h)
   rintro e d s' ⟨h1, h2, h3⟩
   refine ⟨h1, fun t ht => ?_, fun hd => ?_⟩
   ·simp only [wrO, Bool.or_eq_false_iff] at ht
    rw [h2 t ht.2, put_frame ht.1]
   ·rw [h3 (by simp only [dfO, Bool.or_eq_false_iff] at hd; exact hd.2), hds hd]
  rw [awpOps_cons] at h ⊢
  refine onGuard_mono ?_ (key fun _ => rfl) h
  intro h
  by_cases hdef : ∃ x args, s.op = .defer x args
  ·obtain ⟨x, args, hop⟩ := hdef
   simp only [opW, hop] at h ⊢
   split at h
   ·rename_i fn first cap hx
    refine key (fun hd => ?_) h
    simp [dfO, hop] at hd
   ·exact h
  ·have e : ∀ (K : AV → List ADef → St → Prop), opW P w0 base r s.op env ds st K = goOp P w0 base r env st (fun v st' => K v ds st') s.op := by
    intro K
    cases hop : s.op <;> first | rfl | exact absurd ⟨_, _, hop⟩ hdef
   rw [e] at h ⊢
   exact um (fun v st' h => key (fun _ => rfl) h) h
theorem awpD_frame {ss : List SOper} {un : Nat → Nat → Bool} {K : Env → St → Prop} : ∀ {l : List Nat} {env : Env} {st : St} {L : Log}, awpD P w0 base r ss un l env st L K →
  awpD P w0 base r ss un l env st L fun e s => K e s ∧ (∀ t, wrO t ss = false → e t = env t)
 | [], env, st, L, h => ⟨h, fun _ _ => rfl⟩
 | i :: l, env, st, L, h => by
  have hd : ∀ {s : SOper} {t : Nat}, ss[i]? = some s → wrO t ss = false → (s.dst == some t) = false := by
   intro s t
   have : ∀ (ss : List SOper) (i : Nat), ss[i]? = some s → wrO t ss = false → (s.dst == some t) = false := by
    intro ss
    induction ss with
    | nil => intro i h; simp at h
    | cons x ss ih =>
     intro i h hw
     simp only [wrO, Bool.or_eq_false_iff] at hw
     cases i with
     | zero => simp at h; subst h; exact hw.1
     | succ i => simp at h; exact ih i h hw.2
   exact this ss i
  have key : ∀ {s : SOper} {v : AV} {st' : St} {L' : Log}, ss[i]? = some s → awpD P w0 base r ss un l (env.put s.dst v) st' L' K → awpD P w0 base r ss un l (env.put s.dst v) st' L' fun e s => K e s ∧ (∀ t, wrO t ss = false → e t = env t) := by
   intro s v st' L' hs h
   refine awpD_mono ?_ (awpD_frame h)
   rintro e s' ⟨h1, h2⟩
   exact ⟨h1, fun t ht => by rw [h2 t ht, put_frame (hd hs ht)]⟩
  simp only [awpD] at h ⊢
  split at h
  ·exact h
  ·rename_i s hs
   refine onGuard_mono ?_ (key hs) h
   intro h
   split at h
   ·exact ⟨h.1, um (fun v s h => key hs h) h.2⟩
   ·exact um (fun v s h => ⟨h.1, key hs h.2⟩) h
   ·exact um (fun v s h => key hs h) h
theorem iter_frame {B : Env → List ADef → St → CK → Prop} {W : Nat → Bool} {D : Bool} (hm : ∀ env ds st (Q Q' : CK), (∀ ex e d s, Q ex e d s → Q' ex e d s) → B env ds st Q → B env ds st Q')
  (hB : ∀ env ds st (Q : CK), B env ds st Q → B env ds st fun ex e d s => Q ex e d s ∧ (∀ t, W t = false → e t = env t) ∧ (D = false → d = ds)) {Q : CK} :
  ∀ {n : Nat} {env : Env} {ds : List ADef} {st : St}, iter B Q n env ds st → iter B (fun ex e d s => Q ex e d s ∧ (∀ t, W t = false → e t = env t) ∧ (D = false → d = ds)) n env ds st
 | 0, _, _, _, h => h
 | n + 1, env, ds, st, h => by
  simp only [iter] at h ⊢
  refine hm _ _ _ _ _ ?_ (hB _ _ _ _ h)
  rintro ex e d s ⟨h, h1, h2⟩
  cases ex with
  | normal =>
   refine iter_mono hm ?_ (iter_frame hm hB h)
   rintro ex e' d' s' ⟨g, g1, g2⟩
   exact ⟨g, fun t ht => (g1 t ht).trans (h1 t ht), fun hd => (g2 hd).trans (h2 hd)⟩
  | exit i => exact ⟨h, h1, h2⟩
  | ret => exact ⟨h, h1, h2⟩
theorem frzs_frame : ∀ (ts : List Nat) (e : Env) (s : St) (t : Nat), ts.contains t = false → (frzs ts e s).1 t = e t
 | [], e, s, t, h => rfl
 | u :: ts, e, s, t, h => by
  have hu : t ≠ u := by rintro rfl; simp at h
  have ht : ts.contains t = false := by
   simp only [List.contains_cons, Bool.or_eq_false_iff] at h; exact h.2
  refine (frzs_frame ts _ _ t ht).trans ?_
  unfold frz1
  split
  ·split
   ·exact if_neg hu
   ·rfl
  ·split
   ·exact if_neg hu
   ·rfl
  ·rfl
theorem wa : ∀ (c : SCode) (env : Env) (ds : List ADef) (st : St) (Q : CK), awp P w0 base c env ds st Q → awp P w0 base c env ds st fun ex e d s => Q ex e d s ∧ (∀ t, wr t c = false → e t = env t) ∧ (df c = false → d = ds)
 | .skip, _, _, _, _, h => ⟨h, fun _ _ => rfl, fun _ => rfl⟩
 | .exit id, _, _, _, _, h => ⟨h, fun _ _ => rfl, fun _ => rfl⟩
 | .ret, _, _, _, _, h => ⟨h, fun _ _ => rfl, fun _ => rfl⟩
 | .seq a b, env, ds, st, Q, h => by
  refine xp a _ _ _ _ _ ?_ (wa a _ _ _ _ h)
  rintro ex e d s ⟨h, h1, h2⟩
  cases ex with
  | normal =>
   refine xp b _ _ _ _ _ ?_ (wa b _ _ _ _ h)
   rintro ex e' d' s' ⟨g, g1, g2⟩
   refine ⟨g, fun t ht => ?_, fun hd => ?_⟩
   ·simp only [wr, Bool.or_eq_false_iff] at ht; exact (g1 t ht.2).trans (h1 t ht.1)
   ·simp only [df, Bool.or_eq_false_iff] at hd; exact (g2 hd.2).trans (h2 hd.1)
  | exit i => exact ⟨h, fun t ht => by simp only [wr, Bool.or_eq_false_iff] at ht; exact h1 t ht.1, fun hd => by simp only [df, Bool.or_eq_false_iff] at hd; exact h2 hd.1⟩
  | ret => exact ⟨h, fun t ht => by simp only [wr, Bool.or_eq_false_iff] at ht; exact h1 t ht.1, fun hd => by simp only [df, Bool.or_eq_false_iff] at hd; exact h2 hd.1⟩
 | .cond c a b, env, ds, st, Q, h => by
  simp only [awp] at h ⊢
  split at h
  ·split at h
   ·rename_i e
    rw [if_pos e]
    refine xp a _ _ _ _ _ ?_ (wa a _ _ _ _ h)
    rintro ex e d s ⟨h, h1, h2⟩
    exact ⟨h, fun t ht => by simp only [wr, Bool.or_eq_false_iff] at ht; exact h1 t ht.1, fun hd => by simp only [df, Bool.or_eq_false_iff] at hd; exact h2 hd.1⟩
   ·rename_i e
    rw [if_neg e]
    refine xp b _ _ _ _ _ ?_ (wa b _ _ _ _ h)
    rintro ex e d s ⟨h, h1, h2⟩
    exact ⟨h, fun t ht => by simp only [wr, Bool.or_eq_false_iff] at ht; exact h1 t ht.2, fun hd => by simp only [df, Bool.or_eq_false_iff] at hd; exact h2 hd.2⟩
  ·exact h
 | .block id c, env, ds, st, Q, h => by
  refine xp c _ _ _ _ _ ?_ (wa c _ _ _ _ h)
  rintro ex e d s ⟨h, h1, h2⟩
  cases ex with
  | normal => exact ⟨h, h1, h2⟩
  | ret => exact ⟨h, h1, h2⟩
  | exit i =>
   simp only at h ⊢
   split
   ·rename_i e; rw [if_pos e] at h; exact ⟨h, h1, h2⟩
   ·rename_i e; rw [if_neg e] at h; exact ⟨h, h1, h2⟩
 | .loop c, env, ds, st, Q, h => by
  obtain ⟨n, h⟩ := h
  exact ⟨n, iter_frame (W := fun t => wr t c) (D := df c) (fun env ds st Q Q' => xp c env ds st Q Q') (fun env ds st Q => wa c env ds st Q) h⟩
 | .reg ss, env, ds, st, Q, h => awpOps_frame h
 | .frz ts c, env, ds, st, Q, h => by
  refine xp c _ _ _ _ _ ?_ (wa c _ _ _ _ h)
  rintro ex e d s ⟨h, h1, h2⟩
  refine ⟨h, fun t ht => ?_, fun hd => h2 (by simpa only [df] using hd)⟩
  simp only [wr, Bool.or_eq_false_iff] at ht
  exact (frzs_frame ts e s t ht.1).trans (h1 t ht.2)
 | .draw ms ord ss, env, ds, st, Q, h => ⟨h.1, awpD_mono (fun e s h => ⟨h.1, h.2, fun _ => rfl⟩) (awpD_frame h.2)⟩
theorem loop_by {c : SCode} {env : Env} {ds : List ADef} {st : St} {Q : CK} {l : Lock (c, env, Q)} (I : Nat → Env → St → Prop) (n : Nat) (h0 : I n env st) (hdf : df c = false)
  (h : ∀ n e s, (∀ t, wr t c = false → e t = env t) → I n e s → awp P w0 base c e ds s (nextRound (fun n e d s => I n e s) n Q)) : LoopL P w0 base c env ds st Q l := by
 refine loop_of (fun n e d s => I n e s ∧ d = ds ∧ ∀ t, wr t c = false → e t = env t) n ⟨h0, rfl, fun _ _ => rfl⟩ ?_
 rintro n e d s ⟨hI, rfl, hf⟩
 refine xp c _ _ _ _ _ ?_ (wa c _ _ _ _ (h n e s hf hI))
 rintro ex e' d' s' ⟨h, h1, h2⟩
 cases ex with
 | normal => obtain ⟨m, hm, hI'⟩ := h; exact ⟨m, hm, hI', h2 hdf, fun t ht => (h1 t ht).trans (hf t ht)⟩
 | exit i => exact h
 | ret => exact h
end
mutual
def AV.fit : AV → Prop
 | .str s => s.length ≤ 9223372036854775807
 | .sl cs len _ => len ≤ big ∧ AV.fitL cs
 | .row _ len => len ≤ big
 | .iptr cs _ => AV.fitL cs
 | .func _ a b => AV.fitL a ∧ AV.fitL b
 | .iface _ x => AV.fit x
 | .agg cs | .tuple cs => AV.fitL cs
 | _ => True
def AV.fitL : List AV → Prop
 | [] => True
 | x :: l => AV.fit x ∧ AV.fitL l
end
section
variable {G : Gh} {w : World}
mutual
theorem rep_fit : ∀ (a : AV) (v : Value), Rep G w a v → a.fit
 | .undef, _, _ => trivial
 | .bool _, _, _ => trivial
 | .int _ _, _, _ => trivial
 | .str _, _, h => h.2
 | .nilp, _, _ => trivial
 | .ptr o off, _, h => trivial
 | .iptr cs off, _, h => by obtain ⟨vs, ad, h1, _⟩ := h; exact repC_fit cs vs h1
 | .sl cs len p, _, h => by
  obtain ⟨vs, ad, cap, h1, _, _, _, _, h6, _⟩ := h
  exact ⟨h6, repC_fit cs vs h1⟩
 | .row o len, _, h => by obtain ⟨_, a, c, _, _, _, h6, _⟩ := h; exact h6
 | .nilmap, _, _ => trivial
 | .map o, _, h => trivial
 | .func fn a b, _, h => by obtain ⟨x, y, _, h1, h2⟩ := h; exact ⟨repL_fit a x h1, repL_fit b y h2⟩
 | .nilFunc, _, _ => trivial
 | .iface t x, _, h => by obtain ⟨u, _, h1⟩ := h; exact rep_fit x u h1
 | .nilIface, _, _ => trivial
 | .agg cs, _, h => by obtain ⟨vs, _, h1⟩ := h; exact repC_fit cs vs h1
 | .tuple cs, _, h => by obtain ⟨vs, _, h1⟩ := h; exact repL_fit cs vs h1
theorem repC_fit : ∀ (cs : List AV) (vs : List Value), RepC G w cs vs → AV.fitL cs
 | [], _, _ => trivial
 | c :: cs, _, h => by obtain ⟨u, us, _, _, h1, h2⟩ := h; exact ⟨rep_fit c u h1, repC_fit cs us h2⟩
theorem repL_fit : ∀ (cs : List AV) (vs : List Value), RepL G w cs vs → AV.fitL cs
 | [], _, _ => trivial
 | c :: cs, _, h => by obtain ⟨u, us, _, h1, h2⟩ := h; exact ⟨rep_fit c u h1, repL_fit cs us h2⟩
end
end
theorem det_know {P : Program} {w0 : World} {base : Nat} {f : FuncId} {args : List AV} {st st' : St} {r : AV} (hE : Enters P f) (h1 : st.next ≤ st'.next) (h2 : ∀ o, o < st.next → st.objs o = none → st'.objs o = none) (h : st.wf → AV.fitL args → Det P w0 base f args st r st') : Det P w0 base f args st r st' := by
 refine ⟨hE, h1, h2, fun X G w us hX hI hR => ?_⟩
 refine (h (fun o x hx => ?_) (repL_fit _ _ hR)).calls X G w us hX hI hR
 exact hI.scope o (hI.objs o x (xd hx)).1
theorem zh {P : Program} {w0 : World} {base : Nat} {f : FuncId} {args : List AV} {st : St} {r : AV} (hE : Enters P f) (h : st.wf → AV.fitL args → Det P w0 base f args st r st) : Det P w0 base f args st r st :=
 det_know hE (Nat.le_refl _) (fun _ _ h => h) h
theorem yy {n : Int} (h1 : -9223372036854775808 ≤ n) (h2 : n < 9223372036854775808) : IntKind.i64.wrap n = n := by
 simp [IntKind.wrap, IntKind.signed, IntKind.bits]
 omega
theorem wrap_up {j : Nat} (h : j < 9223372036854775807) : IntKind.i64.wrap (↑j + 1) = ↑j + 1 := yy (by omega) (by omega)
end
section
@[reducible] def rangeCode (d x n y : Nat) (body : SCode) : SCode :=
 .seq (.reg [⟨some d, none, .pe (.bin .int .lss (.tmp x) (.tmp n))⟩]) (.seq (.cond (.tmp d) .skip (.exit 0)) (.seq (.block 1 body) (.reg [⟨some y, none, .pe (.bin .int .add (.tmp x) (.lit (.int .i64 1)))⟩, ⟨some x, none, .pe (.mov (.tmp y))⟩])))
def nextBody (I : Env → St → Prop) (Q : CK) : CK := fun ex e d s => match ex with
 | .normal => Hold (I e s) .mk
 | .exit i => if i = 1 then Hold (I e s) .mk else Q (.exit i) e d s
 | .ret => Q .ret e d s
@[simp ↓] theorem uw (I : Env → St → Prop) (Q : CK) (e : Env) (d : List ADef) (s : St) : nextBody I Q .normal e d s = Hold (I e s) .mk := rfl
@[simp ↓] theorem nextBody_ret (I : Env → St → Prop) (Q : CK) (e : Env) (d : List ADef) (s : St) : nextBody I Q .ret e d s = Q .ret e d s := rfl
@[simp ↓] theorem nextBody_one (I : Env → St → Prop) (Q : CK) (e : Env) (d : List ADef) (s : St) : nextBody I Q (.exit 1) e d s = Hold (I e s) .mk := rfl
@[simp ↓] theorem nextBody_exit (I : Env → St → Prop) (Q : CK) (i : Nat) (h : i ≠ 1) (e : Env) (d : List ADef) (s : St) : nextBody I Q (.exit i) e d s = Q (.exit i) e d s := if_neg h
section
variable {P : Program} {w0 : World} {base : Nat}
theorem y1 {d x n y : Nat} {body : SCode} {env : Env} {ds : List ADef} {st : St} {Q : CK} {l : Lock (rangeCode d x n y body, env, Q)} (N : Nat) (I : Nat → Env → St → Prop) (hN : N ≤ 140737488355328)
  (hn : env n = .int .i64 N) (hx : env x = .int .i64 0) (h0 : I 0 env st)
  (hw : (!wr n (rangeCode d x n y body) && !wr x body && !df (rangeCode d x n y body) && d != x && d != n && y != n && x != n && y != x) = true)
  (hs : ∀ j e e' s k, I j e s → (∀ t, t ≠ d → t ≠ x → t ≠ y → e' t = e t) → I j e' (s.bump k))
  (hbody : ∀ j e s, j < N → (∀ t, wr t (rangeCode d x n y body) = false → e t = env t) → e x = .int .i64 j → I j e s → awp P w0 base body e ds s (nextBody (I (j + 1)) Q))
  (hend : ∀ e s, (∀ t, wr t (rangeCode d x n y body) = false → e t = env t) → I N e s → Q (.exit 0) e ds s) : LoopL P w0 base (rangeCode d x n y body) env ds st Q l := by
 simp only [Bool.and_eq_true, Bool.not_eq_true', bne_iff_ne, ne_eq] at hw
 obtain ⟨⟨⟨⟨⟨⟨⟨w1, w2⟩, w3⟩, w4⟩, w5⟩, w6⟩, w7⟩, w8⟩ := hw
 have hdx : ∀ t, wr t (rangeCode d x n y body) = false → t ≠ d ∧ t ≠ x ∧ t ≠ y := by
  intro t ht
  simp only [rangeCode, wr, wrO, Bool.or_false, Bool.or_eq_false_iff, Bool.false_or] at ht
  refine ⟨?_, ?_, ?_⟩ <;> (rintro rfl; simp at ht)
 refine loop_by (fun m e s => ∃ j, j + m = N ∧ e x = .int .i64 j ∧ I j e s) N ⟨0, by omega, hx, h0⟩ w3 ?_
 rintro m e s hf ⟨j, hj, hex, hI⟩
 have hen := (hf n w1).trans hn
 by_cases hlt : j < N
 ·simp -dsimp [hex, hen, hlt]
  have hb := hbody j (e.put (some d) (.bool true)) (s.bump 1) hlt (fun t ht => by (try simp only [xu]); rw [x7, if_neg (hdx t ht).1]; exact hf t ht) (by (try simp only [xu]); rw [x7, if_neg (Ne.symm w4)]; exact hex)
   (hs j e _ s 1 hI (fun t h1 _ _ => by (try simp only [xu]); rw [x7, if_neg h1]))
  refine xp body _ _ _ _ _ ?_ (wa body _ _ _ _ hb)
  rintro ex e2 d2 s2 ⟨hq, g1, g2⟩
  have hx2 : e2 x = .int .i64 j := by rw [g1 x w2]; (try simp only [xu]); rw [x7, if_neg (Ne.symm w4)]; exact hex
  have hd2 : d2 = ds := g2 (by simp only [rangeCode, df, dfO, Bool.or_false, Bool.or_eq_false_iff, Bool.false_or] at w3; first | exact w3 | exact w3.1 | exact w3.2)
  subst hd2
  have hgo : I (j + 1) e2 s2 → awp P w0 base (.reg [⟨some y, none, .pe (.bin .int .add (.tmp x) (.lit (.int .i64 1)))⟩, ⟨some x, none, .pe (.mov (.tmp y))⟩]) e2 d2 s2 (nextRound (fun m e d s => ∃ j, j + m = N ∧ e x = .int .i64 j ∧ I j e s) m Q) := by
   intro hI2
   simp -dsimp [hx2, wrap_up (show j < 9223372036854775807 by omega)]
   refine hold ⟨m - 1, by omega, j + 1, by omega, by simp, ?_⟩
   exact hs (j + 1) e2 _ s2 2 hI2 (fun t _ h2 h3 => by (try simp only [xu]); rw [x7, if_neg h2, x7, if_neg h3])
  cases ex with
  | normal => exact hgo hq
  | ret => exact hq
  | exit i =>
   by_cases hi : i = 1
   ·subst hi; exact hgo hq
   ·simp -dsimp only [inBlock_other 1 i _ _ _ _ hi, andThen_exit, nextRound_exit]
    rw [nextBody_exit _ _ _ hi] at hq
    exact hq
 ·simp -dsimp [hex, hen, hlt]
  have : j = N := by omega
  subst this
  exact hend _ _ (fun t ht => by (try simp only [xu]); rw [x7, if_neg (hdx t ht).1]; exact hf t ht) (hs j e _ s 1 hI (fun t h1 _ _ => by (try simp only [xu]); rw [x7, if_neg h1]))
end
end
section
section
variable {P : Program} {w0 : World} {base : Nat}
def EndsK (P : Program) (w0 : World) (base : Nat) (rs : List SRes) (K : AV → St → Prop) : CK := fun ex env ds s =>
 (match ex with | .exit _ => False | _ => True) ∧ runDs P w0 base ds s fun s' => ∃ vs, evalRes env s' rs = some vs ∧ K (packRes vs) s'
@[simp ↓] theorem endsK_ret (rs : List SRes) (K : AV → St → Prop) (env : Env) (ds : List ADef) (s : St) :
  EndsK P w0 base rs K .ret env ds s = RunL P w0 base ds s (fun s' => GotR (evalRes env s' rs) (fun vs => Hold (K (packRes vs) s') .mk) .mk) .mk := by
 simp only [EndsK, gotR_iff, true_and, RunL, Hold]
@[simp ↓] theorem endsK_normal (rs : List SRes) (K : AV → St → Prop) (env : Env) (ds : List ADef) (s : St) :
  EndsK P w0 base rs K .normal env ds s = RunL P w0 base ds s (fun s' => GotR (evalRes env s' rs) (fun vs => Hold (K (packRes vs) s') .mk) .mk) .mk := by
 simp only [EndsK, gotR_iff, true_and, RunL, Hold]
theorem za {f : FuncId} {fn : Func} {N : Nat} {rs : List SRes} {b : SCode} (hf : P.funcs[f]? = some fn) (hs : resFunc P fn = some ⟨N, rs, b.strip⟩) {args : List AV} {st : St} {K : AV → St → Prop} (hl : Nat.ble args.length N = true)
  (h : awp P w0 base b (initEnv args) [] st (EndsK P w0 base rs K)) : CallW P w0 base f args st K := by
 have hl' := Nat.le_of_ble_eq_true hl
 obtain ⟨hE, c, hc⟩ := enters_of hf hs
 have hs' := hs
 unfold resFunc at hs'
 split at hs'
 ·cases hs'
 ·rw [hc] at hs'
  simp only at hs'
  split at hs'
  ·rename_i sc rs' hsc hrs
   cases hs'
   obtain ⟨ex, env', ds', s, hd, hex, hrun⟩ := vh b c hsc _ _ _ _ h
   obtain ⟨s', hR', vs, hvs, hk⟩ := runDs_spec hrun
   obtain ⟨k1, k2⟩ := runDs_keep hR'
   refine ⟨packRes vs, s', ⟨hE, Nat.le_trans hd.next k1, fun o ho hn => k2 o (Nat.lt_of_lt_of_le ho hd.next) (hd.keep o ho hn), fun X G w us hX hI hR => ?_⟩, hk⟩
   refine calls_of_wp_defers hf hc ?_
   have hXs : ∀ o, X o ≠ none → o < st.next := fun o ho => by
    cases hx : X o with
    | none => exact absurd hx ho
    | some x => exact hI.scope o (hI.objs o x (by simp [St.add, hX o ho, hx])).1
   have hF := initEnv_rep hR fn.ntmps hl'
   refine wp_mono (hd.wp X G w _ hX hI hF) ?_
   rintro e a' w' ⟨rfl, G', h1, h2, h3, h4⟩
   have hleave : Leaves P fn a'.tmps (fun e w' => ∃ v G', e = .returned v ∧ Ext base G w G' w' ∧ (∀ o, o < st.next → G'.used o → G.used o) ∧ Inv w0 base G' (s'.add X) w' ∧ Rep G' w' (packRes vs) v) a'.defers .returning w' := by
    refine leaves_of hR' G' w' a'.defers (fun o ho => hd.keep o (hXs o ho) (hX o ho)) h3 h4.env h4.defers ?_
    intro G2 w2 r1 r2 r3 r4
    obtain ⟨u, q1, q2⟩ := run_results r3 r4 hrs (vs := vs) (evalRes_add _ _ hvs)
    exact ⟨u, q1, u, G2, rfl, h1.trans r1, fun o ho hu => h2 o ho (r2 o (Nat.lt_of_lt_of_le ho hd.next) hu), r3, q2⟩
   cases ex with
   | normal => exact hleave
   | ret => exact hleave
   | exit id => exact hex.elim
  ·cases hs'
theorem callW_mono {f : FuncId} {args : List AV} {st : St} {K K' : AV → St → Prop} (h : CallW P w0 base f args st K) (hk : ∀ v s, K v s → K' v s) : CallW P w0 base f args st K' := by
 obtain ⟨v, s, h1, h2⟩ := h
 exact ⟨v, s, h1, hk _ _ h2⟩
theorem callW_bareL {f : FuncId} {args args' : List AV} {st : St} {K : AV → St → Prop} (h : CallW P w0 base f args' st K) (e : AV.bareL args = args') : CallW P w0 base f args st K := by
 obtain ⟨v, s, h1, h2⟩ := h
 exact ⟨v, s, det_bare (e ▸ h1), h2⟩
theorem yu {f : FuncId} {args args' : List AV} {st : St} {K K' : AV → St → Prop} {l : Lock K'} (h : CallW P w0 base f args' st K) (e : AV.bareL args = args') (hk : ∀ v s, K v s → K' v s) : CallL P w0 base f args st K' l :=
 callW_mono (callW_bareL h e) hk
end
theorem zk {st : St} {k : Nat} (h : st.wf) : (st.bump k).wf := fun o x hx => Nat.lt_of_lt_of_le (h o x hx) (Nat.le_add_right _ _)
theorem zb {st : St} {o : Nat} {x : AObj} (h : st.wf) (ho : o < st.next) : (st.put o x).wf := by
 intro p y hy
 simp only [yh] at hy
 split at hy
 ·rename_i e; rw [e]; exact ho
 ·exact h p y hy
structure Kp (o : Nat) (t : Option Nat) (st st' : St) (t' : Option Nat) : Prop where
 next : st.next ≤ st'.next
 same : ∀ p, p < st.next → p ≠ o → some p ≠ t → st'.objs p = st.objs p
 tok : t' = t ∨ ∃ q, t' = some q ∧ st.next ≤ q
 wf : st'.wf
theorem Kp.refl {o : Nat} {t : Option Nat} {st : St} (h : st.wf) : Kp o t st st t := ⟨Nat.le_refl _, fun _ _ _ _ => rfl, .inl rfl, h⟩
theorem Kp.trans {o : Nat} {t t1 t2 : Option Nat} {st st1 st2 : St} (h : Kp o t st st1 t1) (k : Kp o t1 st1 st2 t2) : Kp o t st st2 t2 where
 next := Nat.le_trans h.next k.next
 same := fun p hp ho ht => by
  rw [k.same p (Nat.lt_of_lt_of_le hp h.next) ho ?_, h.same p hp ho ht]
  rcases h.tok with e | ⟨q, e, hq⟩
  ·rw [e]; exact ht
  ·rw [e]; intro e'; cases e'; omega
 tok := by
  rcases k.tok with e | ⟨q, e, hq⟩
  ·rw [e]; exact h.tok
  ·exact .inr ⟨q, e, Nat.le_trans h.next hq⟩
 wf := k.wf
end
section
theorem zz {s : St} {q : Nat} (h : s.objs q = none) : s.del q = s := by
 simp only [St.del]
 cases s
 simp only [St.mk.injEq, and_true]
 funext p
 split
 ·rename_i e; subst e; exact h.symm
 ·rfl
theorem zj {st : St} (h : st.wf) : st.objs st.next = none := by
 cases hx : st.objs st.next with
 | none => rfl
 | some x => exact absurd (h _ _ hx) (by omega)
theorem zf {st : St} (h : st.wf) (k : Nat) : st.objs (st.next + k) = none := by
 cases hx : st.objs (st.next + k) with
 | none => rfl
 | some x => exact absurd (h _ _ hx) (by omega)
theorem cast_beq0 (n : Nat) : ((n : Int) == 0) = (n == 0) := by rw [Bool.eq_iff_iff]; simp
theorem zn {st : St} {r0 r : AV} {k : Nat} (hwf : st.wf) (e : eraseA st.next r0 = some r) : Fin st (st.bump k) r0 r st := zg hwf (fun _ _ => rfl) e
end
end Go.Proofs.YthaekebedmoipaaGreatDoor.AM
