/-
  The plain machine: functions.
-/
import Derived.Test.YtnmaceljkegenaaDoorAv
namespace Go.Proofs.YtnmaceljkegenaaDoor
open Go.RowKit
set_option linter.unusedVariables false
set_option linter.unusedSimpArgs false

section
variable {P : Program} {T : TT} {W0 : World} {b0 : Nat} {rd : Option Nat} {R : Type} {r : R} {c : Cx} {ats : List (Array Value)}

/-- the loops of which something is known -/
def LoopsOk (P : Program) (E : Env) : Prop := ∀ (f : FuncId) (fn : Func) (c : Code), P.funcs[f]? = some fn → fn.body = some c → loopsOk E f c

/-- .. and of the texts of named ranges -/
def RfOk (E : Env) : Prop := ∀ f k asg bd, rfTab f k = some (asg, bd) → loopsOk E f asg ∧ loopsOk E f bd

theorem rfOf_ok {E : Env} {ex : ExecFn R} {exd : Side} {f : FuncId} {k : Nat} {x y : Code} : ∀ c : Code, loopsOkX E ex exd f c → rfOf c k = some (x, y) → loopsOkX E ex exd f x ∧ loopsOkX E ex exd f y
  | .rangeFunc _ _ asg bd, hl, h => by
    simp only [rfOf] at h
    split at h
    · cases h; exact ⟨hl.1, hl.2.1⟩
    · split at h
      · rename_i z hz; cases h; exact rfOf_ok asg hl.1 hz
      · exact rfOf_ok bd hl.2.1 h
  | .seq a b, hl, h => by
    simp only [rfOf] at h
    split at h
    · rename_i z hz; cases h; exact rfOf_ok a hl.1.1 hz
    · exact rfOf_ok b hl.2 h
  | .cond _ a b, hl, h => by
    simp only [rfOf] at h
    split at h
    · rename_i z hz; cases h; exact rfOf_ok a hl.1 hz
    · exact rfOf_ok b hl.2 h
  | .block _ c, hl, h => rfOf_ok c hl h
  | .loop c, hl, h => rfOf_ok c hl.1 h
  | .scope c, hl, h => rfOf_ok c hl h
  | .skip, _, h | .label _, _, h | .region _ _ _, _, h | .exit _, _, h | .goto _, _, h | .ret, _, h | .refuse _, _, h => by simp [rfOf] at h

theorem rfAt_ok {P : Program} {E : Env} (h : LoopsOk P E) : ∀ f k asg bd, rfAt P f k = some (asg, bd) → loopsOk E f asg ∧ loopsOk E f bd := fun f k asg bd hr => by
  unfold rfAt at hr
  split at hr
  · rename_i fn hf
    split at hr
    · rename_i c hb
      exact ⟨fun R m => (rfOf_ok c (h f fn c hf hb R m) hr).1, fun R m => (rfOf_ok c (h f fn c hf hb R m) hr).2⟩
    · cases hr
  · cases hr

theorem sumQ_ok {P : Program} {E : Env} (h : SumsOk P E) : ∀ R : Type, QCallOk (R := R) P (sumQ E.sg E.cl) := fun R W0 b0 rd fv args dst st K r hr c a ats fv' args' h1 h2 h3 => by
  unfold sumQ at hr
  split at hr
  · rename_i g
    split at hr
    · rename_i s hs
      replace hr := bif_some hr
      obtain ⟨h4, hr⟩ := hr
      simp only [Bool.and_eq_true] at h4
      exact h.q R g s hs h4.1 W0 b0 rd (.fn g []) args dst st K r (by simp only [sumFn, if_true, List.append_nil]; exact hr) c a ats fv' args' h1 h2 h3
    · cases hr
  · cases hr

theorem SumsOk.at {P : Program} {E : Env} (h : SumsOk P E) (n : Nat) : SumsOk P (E.at n) := ⟨h.T, h.x, h.b, h.v, h.q⟩

theorem pop_some {st : St} {K : St → Option R} (h : pop st K = some r) : ∃ fr stk, st.stk = fr :: stk ∧ K { st with fr := fr, stk := stk } = some r := by
  unfold pop at h
  split at h
  · rename_i fr stk he
    exact ⟨fr, stk, he, h⟩
  · cases h

/-- the frame above comes back, and what isn't used any more is forgotten -/
theorem back_rel {v : AVal} {u : Value} {c0 c1 : Cx} {st st1 : St} {a : Act} {mark : Nat} (hr0 : Rel W0 b0 rd c0 st a ats) (hr1 : c1.Ok W0) (hhp : c1.hp = st1.hp) (hnx : c1.nxt = st1.nxt) (hfr : st1.fr = []) (hstk : Stk c1 st1.stk (a.tmps :: ats))
    (hm : c0.Mono c1) (hv : VRel c1 v u) {K : AVal → St → Option R} (h : (match gc mark v st1 with | some st2 => pop st2 (K v) | none => none) = some r) :
    ∃ c' st', K v st' = some r ∧ Rel W0 b0 rd c' st' a ats ∧ VRel c' v u ∧ c0.Mono c' ∧ c'.w = c1.w := by
  have hr : Rel W0 0 none c1 st1 ⟨#[], []⟩ (a.tmps :: ats) := ⟨hhp, hnx, hr1, by rw [hfr]; simp [VRels], hstk, ⟨[], rfl, List.nodup_nil, fun r hr => by simp at hr⟩, fun l hl => by cases hl⟩
  split at h
  · rename_i st2 h2
    obtain ⟨c2, hr2, hv2, hm2, hw2, hs2, _⟩ := hr.gc hv h2
    obtain ⟨fr, stk, hs, h⟩ := pop_some h
    have hstk2 := hr2.stk
    rw [hs] at hstk2
    refine ⟨c2, _, h, ⟨hr2.hp, hr2.nxt, hr2.ok, hstk2.1, hstk2.2, ?_, fun l hl => ?_⟩, hv2, hm.trans hm2, hw2⟩
    · obtain ⟨ds, h1, h3, h4⟩ := hr0.df
      exact ⟨ds, h1, h3, fun x hx => ⟨hm2.mks x (hm.mks x (h4 x hx).1), (h4 x hx).2⟩⟩
    · obtain ⟨L, hL⟩ := hr0.rd l hl
      obtain ⟨L1, hL1⟩ := hm.lp l L hL
      exact hm2.lp l L1 hL1
  · cases h

theorem exec_call (hT : TOk P T) (hm : P.follows .mixedOrders = true) (hng : NoGor P) {E : Env} (hEP : E.P = P) (hET : E.T = T) (hS : SumsOk P E) (hlo : LoopsOk P E) (hrf : RfOk E) {m : Nat} (ih : ∀ (R : Type) (W0 : World), CallsOk P W0 (exec E m (R := R)) ∧ YieldsOk P W0 (exec E m (R := R))) :
    CallsOk P W0 (exec E (m + 1) (R := R)) := by
  intro f args st K r h b0 rd c a ats args' hr hargs Rr hR
  simp only [exec] at h
  rw [hEP] at h
  split at h
  · cases h
  · rename_i fn hf
    split at h
    · cases h
    · rename_i cd hb
      rw [cond_eq_ite] at h
      split at h
      · rename_i hle
        have hle : args.length ≤ fn.ntmps := by simpa [Nat.ble_eq] using hle
        have hlen : args.length = args'.size := by simpa using VRels.length _ _ hargs
        refine ⟨callFunc_run hng hf hb args' c.w, ?_⟩
        refine (callsIn_wide (n := 0)).1 (callsIn_of_wp_marks (F := Fence.wide) (n := 0) hf hb trivial ?_)
        have hr1 : Rel W0 c.w.heap.size none c { fr := args ++ List.replicate (fn.ntmps - args.length) (.tup []), stk := st.fr :: st.stk, hp := st.hp, nxt := st.nxt } { tmps := args' ++ Array.replicate (fn.ntmps - args'.size) undef, defers := [] } (a.tmps :: ats) := by
          refine ⟨hr.hp, hr.nxt, hr.ok, ?_, ⟨hr.fr, hr.stk⟩, ⟨[], rfl, List.nodup_nil, fun r hr => by simp at hr⟩, fun l hl => by cases hl⟩
          refine VRels.append_arr hargs ?_
          rw [Array.toList_replicate, hlen]
          exact replicate_rel _
        refine run_sound (rd := none) hT hm (n := 0) (E := E.at m) hET (callV_sound (E := E.at m) (hS.at m) (ih R W0).1 (ih R W0).2 0) (callQ_sound (E := E.at m) (hS.at m) fun W => (ih AVal W).1) (ih R W0).1 (callV_sound (E := E.at m) (hS.at m) (ih St W0).1 (ih St W0).2 0) (callV_sound (E := E.at m) (hS.at m) (ih Unit W0).1 (ih Unit W0).2 0) (sumQ_ok (E := E.at m) (hS.at m)) cd (hlo f fn cd hf hb R m) _ _ c _ _ h hr1 (Nat.le_refl _) fun e c1 st1 a1 h1 hr2 hm1 => ?_
        have fin : (resultsOf E.T st1 fn.results.toList fun vs =>
              let v := match vs with
                | [v] => v
                | vs => .tup vs
              match gc (bif E.cl then st.nxt else 1000000 * st1.stk.length) v { st1 with fr := [] } with
              | some st2 => pop st2 (K v)
              | none => none) = some r → LeavesInM Fence.wide 0 P fn a1.tmps Rr a1.defers .returning c1.w := by
          intro h2
          obtain ⟨ds, d1, d2, d3⟩ := hr2.df
          obtain ⟨c2, e1, e2, e3, e4, e5, e6, e7, ebar, e8⟩ := take_marks (n := 0) (P := P) (fn := fn) (tmps := a1.tmps) (Rr := Rr) ds c1 hr2.ok d2 fun x hx => (d3 x hx).1
          rw [d1]
          refine e8 ?_
          rw [hET] at h2
          obtain ⟨vs, us, h3, h4, h5⟩ := resultsOf_rel hT e4 (e1.trans hr2.hp) (VRels.le0 e3 _ _ hr2.fr) _ _ h2
          have hm2 : c.Mono c2 := by
            refine ⟨fun x hx => e5 x (hm1.mks x hx) fun hd => ?_, fun b L hL => ?_, Nat.le_trans hm1.size e7, ebar.trans hm1.bar, fun b hb => ⟨(e3.out b (hm1.out b hb).1).1, (e3.out b (hm1.out b hb).1).2.trans (hm1.out b hb).2⟩⟩
            · have h6 := (d3 x hd).2
              have h7 := hr.ok.mark_lt hx
              omega
            · obtain ⟨L1, hL1⟩ := hm1.lp b L hL
              exact e6 b L1 hL1
          obtain ⟨c3, st3, k1, k2, k3, k4, k5⟩ := back_rel (v := resA vs) (u := resV us) hr e4 (st1 := { st1 with fr := [] }) (e1.trans hr2.hp) (e2.trans hr2.nxt) rfl (by
            have : ∀ (fs : List (List AVal)) (ts : List (Array Value)), Stk c1 fs ts → Stk c2 fs ts := fun fs => by
              induction fs with
              | nil => intro ts h; cases ts with
                | nil => trivial
                | cons _ _ => exact h.elim
              | cons f fs ihf => intro ts h; cases ts with
                | nil => exact h.elim
                | cons t ts => exact ⟨VRels.le0 e3 _ _ h.1, ihf ts h.2⟩
            exact this _ _ hr2.stk) hm2 (resA_rel h4) (K := K) h3
          refine ⟨resV us, results_run h5, ?_⟩
          rw [← k5]
          exact hR c3 (resA vs) (resV us) st3 k1 k2 k3 k4
        cases e with
        | normal => exact fin h1
        | ret => exact fin h1
        | exit i => cases h1
        | goto l => cases h1
      · cases h

theorem Ex.code_none {e : Ex} (h : e ≠ .normal) : e.code.isNone = false := by cases e <;> first | exact absurd rfl h | rfl

theorem exec_yield (hT : TOk P T) (hm : P.follows .mixedOrders = true) (hng : NoGor P) {E : Env} (hEP : E.P = P) (hET : E.T = T) (hS : SumsOk P E) (hlo : LoopsOk P E) (hrf : RfOk E) {m : Nat} (ih : ∀ (R : Type) (W0 : World), CallsOk P W0 (exec E m (R := R)) ∧ YieldsOk P W0 (exec E m (R := R))) :
    YieldsOk P W0 (exec E (m + 1) (R := R)) := by
  intro id args st K r h b0 rd c a ats args' hr hargs
  simp only [exec] at h
  split at h
  · rename_i f fr0 ps asg bd ky hg
    refine ⟨⟨f, fr0, ps, asg, bd, ky, 0, none, hg⟩, fun Rr hR n => ?_⟩
    rw [cond_eq_ite] at h
    split at h
    · rename_i hlen
      have hlen : args.length = ps.length := by simpa using hlen
      have hlen2 : args.length = args'.size := by simpa using VRels.length _ _ hargs
      have hg' : hget c.hp id = some (.lp f fr0 ps asg bd ky 0 none) := by rw [hr.hp]; exact hg
      obtain ⟨hky, hB, L, hL, hv, q1, q2, q3, q4, q5⟩ := hr.ok.obj id _ hg'
      have hSk : SumsOk P ((E.at m).keyed ky) := by
        cases ky with
        | none => exact ⟨hS.T, hS.x, hS.b, hS.v, hS.q⟩
        | some k => exact hS.at m
      have hETk : ((E.at m).keyed ky).T = T := by cases ky <;> exact hET
      have ⟨hloa, hlob⟩ : loopsOkX ((E.at m).keyed ky) (exec E m (R := R)) (exdOf E m) f asg ∧ loopsOkX ((E.at m).keyed ky) (exec E m (R := R)) (exdOf E m) f bd := by
        cases ky with
        | none => exact ⟨loopsOkX_none (fun _ => rfl) (fun _ => rfl) _, loopsOkX_none (fun _ => rfl) (fun _ => rfl) _⟩
        | some k => exact ⟨(hrf f k asg bd (hky k rfl)).1 R m, (hrf f k asg bd (hky k rfl)).2 R m⟩
      have hsz : args'.size = L.params.size := by
        have : L.params.size = ps.length := by rw [← q1, Array.length_toList]
        omega
      refine ⟨_, _, _, _, run_yield hL hsz, ?_⟩
      refine roundIn_of_wpIn trivial ?_
      rw [q2, q3]
      have hyv : VRel c (.yld id) (.func (.yield (c.mu id).blk) #[] #[]) := by
        simp only [VRel]
        exact ⟨rfl, .inl ⟨_, hg'⟩, fun _ _ _ _ _ _ _ _ _ => by simp⟩
      have hr1 : Rel W0 c.w.heap.size (some (c.mu id).blk) c { fr := setParams fr0 ps args, stk := [.yld id] :: st.fr :: st.stk, hp := st.hp, nxt := st.nxt } { tmps := (L.params.zip args').foldl (fun tmps (t, a) => tmps.setIfInBounds t a) L.tmps, defers := [] } (#[.func (.yield (c.mu id).blk) #[] #[]] :: a.tmps :: ats) := by
        refine ⟨hr.hp, hr.nxt, hr.ok, ?_, ⟨by simpa [VRels] using hyv, hr.fr, hr.stk⟩, ⟨[], rfl, List.nodup_nil, fun r hr => by simp at hr⟩, fun l hl => by cases hl; exact ⟨L, hL⟩⟩
        have := setParams_rel ps fr0 args args'.toList L.tmps hv hargs
        rw [← Array.foldl_toList, Array.toList_zip, q1]
        exact this
      refine run_sound (rd := some (c.mu id).blk) hT hm (E := (E.at m).keyed ky) hETk (callV_sound (E := (E.at m).keyed ky) hSk (ih R W0).1 (ih R W0).2 n) (callQ_sound (E := (E.at m).keyed ky) hSk fun W => (ih AVal W).1) (ih R W0).1 (callV_sound (E := (E.at m).keyed ky) hSk (ih St W0).1 (ih St W0).2 n) (callV_sound (E := (E.at m).keyed ky) hSk (ih Unit W0).1 (ih Unit W0).2 n) (sumQ_ok hSk) asg hloa _ _ c _ _ h hr1 (Nat.le_refl _) fun e c1 st1 a1 h1 hr2 hm1 => ?_
      cases e with
      | normal =>
        split at h1
        · rename_i id1 stk1 _ hs1
          split at h1
          · rename_i f1 fr1 ps1 asg1 bd1 ky1 hg1
            have hstk := hr2.stk
            rw [hs1] at hstk
            obtain ⟨hy1, _⟩ := hstk
            simp only [VRels, and_true] at hy1
            have hg1' := hg1
            rw [← hr2.hp] at hg1'
            obtain ⟨hky1, hB1, L1, hL1, hv1, p1, p2, p3, p4, p5⟩ := hr2.ok.obj id1 _ hg1'
            simp only [VRel] at hy1
            have hblk : (c.mu id).blk = (c1.mu id1).blk := by simpa using hy1.2.2 _ _ _ _ _ _ _ _ hg1'
            obtain ⟨c2, e1, e2, e3, e4, e5, e6⟩ := set_lp hr2.ok hg1' hL1 { L1 with state := .busy } (o' := .lp f1 fr1 ps1 asg1 bd1 ky1 2 none) (.inr ⟨2, none, rfl, rfl, rfl, rfl, rfl, rfl⟩)
            simp only [Ex.xt, Exit.then]
            refine ⟨c2.w, ?_, ?_⟩
            · rw [hblk, e5]; exact run_beginRound hL1 p4
            have hm2 : c.Mono c2 := hm1.trans e3.mono
            have hr3 : Rel W0 c.w.heap.size (some (c.mu id).blk) c2 { st1 with hp := hset st1.hp id1 (.lp f1 fr1 ps1 asg1 bd1 ky1 2 none) } a1 (#[.func (.yield (c.mu id).blk) #[] #[]] :: a.tmps :: ats) :=
              ⟨e1.trans (by rw [hr2.hp]), e2.trans hr2.nxt, e4, VRels.le e3 _ _ hr2.fr, Stk.le e3 _ _ hr2.stk, let ⟨ds, d1, d2, d3⟩ := hr2.df; ⟨ds, d1, d2, fun x hx => ⟨e3.mks x (d3 x hx).1, (d3 x hx).2⟩⟩, fun l hl => let ⟨L, hL⟩ := hr2.rd l hl; e3.lp l L hL⟩
            refine run_sound (rd := some (c.mu id).blk) hT hm (E := (E.at m).keyed ky) hETk (callV_sound (E := (E.at m).keyed ky) hSk (ih R W0).1 (ih R W0).2 n) (callQ_sound (E := (E.at m).keyed ky) hSk fun W => (ih AVal W).1) (ih R W0).1 (callV_sound (E := (E.at m).keyed ky) hSk (ih St W0).1 (ih St W0).2 n) (callV_sound (E := (E.at m).keyed ky) hSk (ih Unit W0).1 (ih Unit W0).2 n) (sumQ_ok hSk) bd hlob _ _ c2 _ _ h1 hr3 hm2.size fun e c3 st3 a3 h3 hr4 hm3 => ?_
            refine roundPost_ex ?_
            split at h3
            · rename_i id3 stk3 hs3
              split at h3
              · rename_i f3 fr3 ps3 asg3 bd3 ky3 hg3
                have hstk := hr4.stk
                rw [hs3] at hstk
                obtain ⟨hy3, hstk⟩ := hstk
                simp only [VRels, and_true] at hy3
                have hg3' := hg3
                rw [← hr4.hp] at hg3'
                obtain ⟨hky3, hB3, L3, hL3, hv3, w1, w2, w3, w4⟩ := hr4.ok.obj id3 _ hg3'
                simp only [VRel] at hy3
                have hblk3 : (c.mu id).blk = (c3.mu id3).blk := by simpa using hy3.2.2 _ _ _ _ _ _ _ _ hg3'
                have hend := run_endRound (P := P) (w := c3.w) e.code hL3
                rw [← hblk3] at hend
                refine ⟨_, _, hend, ?_⟩
                rw [hblk3]
                cases e with
                | normal =>
                  obtain ⟨c4, g1, g2, g3, g4, g5, g6⟩ := set_lp hr4.ok hg3' hL3 { L3 with state := .ready, pending := none } (o' := .lp f3 fr3 ps3 asg3 bd3 ky3 0 none) (.inr ⟨0, none, rfl, ⟨rfl, rfl⟩, rfl, rfl, rfl, rfl⟩)
                  have hm4 : c.Mono c4 := (hm2.trans hm3).trans g3.mono
                  obtain ⟨c5, st5, k1, k2, k3, k4, k5⟩ := back_rel (v := .undef) (u := undef) hr g4 (st1 := { st3 with fr := [], stk := stk3, hp := hset st3.hp id3 (.lp f3 fr3 ps3 asg3 bd3 ky3 0 none) }) (g1.trans (by rw [hr4.hp])) (g2.trans hr4.nxt) rfl (Stk.le g3 _ _ hstk) hm4 (by simp [VRel]) (K := fun _ => K (.val .bool true)) h3
                  have := hR c5 (.val .bool true) (.bool true) st5 k1 k2 (by simp only [VRel]; exact VD.bool_mk) k4
                  rw [k5, g5] at this
                  exact this
                | exit i =>
                  obtain ⟨c4, g1, g2, g3, g4, g5, g6⟩ := set_lp hr4.ok hg3' hL3 { L3 with state := .done, pending := some (.exit i) } (o' := .lp f3 fr3 ps3 asg3 bd3 ky3 1 (some (.exit i))) (.inr ⟨1, some (.exit i), rfl, ⟨rfl, rfl, by simp [Ex.code]⟩, rfl, rfl, rfl, rfl⟩)
                  have hm4 : c.Mono c4 := (hm2.trans hm3).trans g3.mono
                  obtain ⟨c5, st5, k1, k2, k3, k4, k5⟩ := back_rel (v := .undef) (u := undef) hr g4 (st1 := { st3 with fr := [], stk := stk3, hp := hset st3.hp id3 (.lp f3 fr3 ps3 asg3 bd3 ky3 1 (some (.exit i))) }) (g1.trans (by rw [hr4.hp])) (g2.trans hr4.nxt) rfl (Stk.le g3 _ _ hstk) hm4 (by simp [VRel]) (K := fun _ => K (.val .bool false)) h3
                  have := hR c5 (.val .bool false) (.bool false) st5 k1 k2 (by simp only [VRel]; exact VD.bool_mk) k4
                  rw [k5, g5] at this
                  exact this
                | goto l =>
                  obtain ⟨c4, g1, g2, g3, g4, g5, g6⟩ := set_lp hr4.ok hg3' hL3 { L3 with state := .done, pending := some (.goto l) } (o' := .lp f3 fr3 ps3 asg3 bd3 ky3 1 (some (.goto l))) (.inr ⟨1, some (.goto l), rfl, ⟨rfl, rfl, by simp [Ex.code]⟩, rfl, rfl, rfl, rfl⟩)
                  have hm4 : c.Mono c4 := (hm2.trans hm3).trans g3.mono
                  obtain ⟨c5, st5, k1, k2, k3, k4, k5⟩ := back_rel (v := .undef) (u := undef) hr g4 (st1 := { st3 with fr := [], stk := stk3, hp := hset st3.hp id3 (.lp f3 fr3 ps3 asg3 bd3 ky3 1 (some (.goto l))) }) (g1.trans (by rw [hr4.hp])) (g2.trans hr4.nxt) rfl (Stk.le g3 _ _ hstk) hm4 (by simp [VRel]) (K := fun _ => K (.val .bool false)) h3
                  have := hR c5 (.val .bool false) (.bool false) st5 k1 k2 (by simp only [VRel]; exact VD.bool_mk) k4
                  rw [k5, g5] at this
                  exact this
                | ret =>
                  obtain ⟨c4, g1, g2, g3, g4, g5, g6⟩ := set_lp hr4.ok hg3' hL3 { L3 with state := .done, pending := some (.ret) } (o' := .lp f3 fr3 ps3 asg3 bd3 ky3 1 (some .ret)) (.inr ⟨1, some .ret, rfl, ⟨rfl, rfl, by simp [Ex.code]⟩, rfl, rfl, rfl, rfl⟩)
                  have hm4 : c.Mono c4 := (hm2.trans hm3).trans g3.mono
                  obtain ⟨c5, st5, k1, k2, k3, k4, k5⟩ := back_rel (v := .undef) (u := undef) hr g4 (st1 := { st3 with fr := [], stk := stk3, hp := hset st3.hp id3 (.lp f3 fr3 ps3 asg3 bd3 ky3 1 (some .ret)) }) (g1.trans (by rw [hr4.hp])) (g2.trans hr4.nxt) rfl (Stk.le g3 _ _ hstk) hm4 (by simp [VRel]) (K := fun _ => K (.val .bool false)) h3
                  have := hR c5 (.val .bool false) (.bool false) st5 k1 k2 (by simp only [VRel]; exact VD.bool_mk) k4
                  rw [k5, g5] at this
                  exact this
              · cases h3
            · cases h3
          · cases h1
        · cases h1
      | exit i => simp at h1
      | goto l => simp at h1
      | ret => simp at h1
    · cases h
  · cases h

theorem exec_sound (hT : TOk P T) (hm : P.follows .mixedOrders = true) (hng : NoGor P) {E : Env} (hEP : E.P = P) (hET : E.T = T) (hS : SumsOk P E) (hlo : LoopsOk P E) (hrf : RfOk E) : ∀ (m : Nat) (R : Type) (W0 : World), CallsOk P W0 (exec E m (R := R)) ∧ YieldsOk P W0 (exec E m (R := R))
  | 0, R, W0 => ⟨fun f args st K r h => by simp [exec] at h, fun id args st K r h => by simp [exec] at h⟩
  | m + 1, R, W0 => ⟨exec_call hT hm hng hEP hET hS hlo hrf (exec_sound hT hm hng hEP hET hS hlo hrf m), exec_yield hT hm hng hEP hET hS hlo hrf (exec_sound hT hm hng hEP hET hS hlo hrf m)⟩
end
end Go.Proofs.YtnmaceljkegenaaDoor
