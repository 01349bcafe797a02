/-
  The plain machine: code, run.
-/
import Derived.Test.YtnmaceljkegenaaDoorAs
import Derived.Test.YtnmaceljkegenaaDoorAqb
namespace Go.Proofs.YtnmaceljkegenaaDoor
open Go.RowKit
set_option linter.unusedVariables false
set_option linter.unusedSimpArgs false

section
variable {P : Program} {T : TT} {W0 : World} {b0 : Nat} {rd : Option Nat} {R : Type} {r : R} {ats : List (Array Value)}

theorem wpIn_code {F : Fence} {n : Nat} {Q : Exit → Act → World → Prop} {a : Act} {w : World} {e : Ex} {cd : Code} (he : e.code = some cd) (h : Q e.xt a w) : cd.wpIn F n P Q a w := by
  cases e <;> simp only [Ex.code, Option.some.injEq, reduceCtorEq] at he <;> subst he
  · exact wpIn_exit h
  · exact wpIn_goto h
  · exact wpIn_ret h

theorem iter_sound {n : Nat} {F : St → (Ex → St → Option R) → Option R} {K : Ex → St → Option R} {Q : Exit → Act → World → Prop} {code : Code} {kp : Option Keep}
    (hF : ∀ (K' : Ex → St → Option R) (Q' : Exit → Act → World → Prop) (c : Cx) (st : St) (a : Act), F st K' = some r → Rel W0 b0 rd c st a ats → b0 ≤ c.w.heap.size → (∀ e c' st' a', K' e st' = some r → Rel W0 b0 rd c' st' a' ats → c.Mono c' → Q' e.xt a' c'.w) → code.wpIn (FW rd) n P Q' a c.w)
    {c : Cx} {st : St} {a : Act} (m : Nat) (h : iter kp F m st K = some r) (hr : Rel W0 b0 rd c st a ats) (hb : b0 ≤ c.w.heap.size) (hQ : ∀ e c' st' a', K e st' = some r → Rel W0 b0 rd c' st' a' ats → c.Mono c' → Q e.xt a' c'.w) :
    (Code.loop code).wpIn (FW rd) n P Q a c.w := by
  refine wpIn_loop_ghost (fun m a w => ∃ c' st', iter kp F m st' K = some r ∧ Rel W0 b0 rd c' st' a ats ∧ c.Mono c' ∧ c'.w = w) m ⟨c, st, h, hr, Cx.Mono.refl c, rfl⟩ ?_
  rintro m a w ⟨c1, st1, h1, hr1, hm1, rfl⟩
  cases m with
  | zero => simp [iter] at h1
  | succ m =>
    simp only [iter] at h1
    refine hF _ _ c1 st1 a h1 hr1 (Nat.le_trans hb hm1.size) fun e c2 st2 a2 h2 hr2 hm2 => ?_
    cases e with
    | normal =>
      simp only at h2
      simp only [Ex.xt, Exit.then]
      cases kp with
      | none => exact ⟨m, Nat.lt_succ_self m, c2, st2, h2, hr2, hm1.trans hm2, rfl⟩
      | some k =>
        simp only at h2
        split at h2
        · rename_i st3 h3
          obtain ⟨c3, hr3, hm3, hw3⟩ := trim_rel hr2 h3
          exact ⟨m, Nat.lt_succ_self m, c3, st3, h2, hr3, (hm1.trans hm2).trans hm3, hw3⟩
        · cases h2
    | ret =>
      simp only at h2
      simp only [Ex.xt, Exit.then]
      cases kp with
      | none => exact hQ .ret c2 st2 a2 h2 hr2 (hm1.trans hm2)
      | some k =>
        simp only at h2
        split at h2
        · rename_i st3 h3
          obtain ⟨c3, hr3, hm3, hw3⟩ := trimR_rel hr2 h3
          rw [← hw3]
          exact hQ .ret c3 st3 a2 h2 hr3 ((hm1.trans hm2).trans hm3)
        · cases h2
    | exit id =>
      simp only at h2
      simp only [Ex.xt, Exit.then]
      cases kp with
      | none => exact hQ (.exit id) c2 st2 a2 h2 hr2 (hm1.trans hm2)
      | some k =>
        simp only at h2
        split at h2
        · rename_i st3 h3
          obtain ⟨c3, hr3, hm3, hw3⟩ := trim_rel hr2 h3
          rw [← hw3]
          exact hQ (.exit id) c3 st3 a2 h2 hr3 ((hm1.trans hm2).trans hm3)
        · cases h2
    | goto l =>
      simp only at h2
      simp only [Ex.xt, Exit.then]
      cases kp with
      | none => exact hQ (.goto l) c2 st2 a2 h2 hr2 (hm1.trans hm2)
      | some k =>
        simp only at h2
        split at h2
        · rename_i st3 h3
          obtain ⟨c3, hr3, hm3, hw3⟩ := trim_rel hr2 h3
          rw [← hw3]
          exact hQ (.goto l) c3 st3 a2 h2 hr3 ((hm1.trans hm2).trans hm3)
        · cases h2

/-- a piece of code that is taken by itself -/
theorem cut_sound {n : Nat} {F : St → (Ex → St → Option R) → Option R} {K : Ex → St → Option R} {Q : Exit → Act → World → Prop} {code : Code} {kp : Option Keep}
    (hF : ∀ (K' : Ex → St → Option R) (Q' : Exit → Act → World → Prop) (c : Cx) (st : St) (a : Act), F st K' = some r → Rel W0 b0 rd c st a ats → b0 ≤ c.w.heap.size → (∀ e c' st' a', K' e st' = some r → Rel W0 b0 rd c' st' a' ats → c.Mono c' → Q' e.xt a' c'.w) → code.wpIn (FW rd) n P Q' a c.w)
    {c : Cx} {st : St} {a : Act} (m : Nat) (h : iter kp (cutF F) m st (kBlock 999999 K) = some r) (hr : Rel W0 b0 rd c st a ats) (hb : b0 ≤ c.w.heap.size) (hQ : ∀ e c' st' a', K e st' = some r → Rel W0 b0 rd c' st' a' ats → c.Mono c' → Q e.xt a' c'.w) :
    code.wpIn (FW rd) n P Q a c.w := by
  cases m with
  | zero => simp [iter] at h
  | succ m =>
    simp only [iter, cutF] at h
    refine hF _ _ c st a h hr hb fun e c2 st2 a2 h2 hr2 hm2 => ?_
    cases e with
    | normal =>
      simp only at h2
      cases kp with
      | none =>
        simp only [kBlock, beq_self_eq_true, cond_true] at h2
        exact hQ .normal c2 st2 a2 h2 hr2 hm2
      | some k =>
        simp only at h2
        split at h2
        · rename_i st3 h3
          obtain ⟨c3, hr3, hm3, hw3⟩ := trim_rel hr2 h3
          simp only [kBlock, beq_self_eq_true, cond_true] at h2
          rw [← hw3]
          exact hQ .normal c3 st3 a2 h2 hr3 (hm2.trans hm3)
        · cases h2
    | ret =>
      simp only at h2
      cases kp with
      | none => exact hQ .ret c2 st2 a2 h2 hr2 hm2
      | some k =>
        simp only at h2
        split at h2
        · rename_i st3 h3
          obtain ⟨c3, hr3, hm3, hw3⟩ := trimR_rel hr2 h3
          rw [← hw3]
          exact hQ .ret c3 st3 a2 h2 hr3 (hm2.trans hm3)
        · cases h2
    | exit id =>
      simp only at h2
      rw [cond_eq_ite] at h2
      split at h2
      · cases h2
      · rename_i hid
        have hne : (id == 999999) = false := by
          cases hh : (id == 999999) with
          | false => rfl
          | true => exact absurd (by rw [beq_iff_eq] at hh; rw [hh]; rfl) hid
        cases kp with
        | none =>
          simp only [kBlock, hne, cond_false] at h2
          exact hQ (.exit id) c2 st2 a2 h2 hr2 hm2
        | some k =>
          simp only at h2
          split at h2
          · rename_i st3 h3
            obtain ⟨c3, hr3, hm3, hw3⟩ := trim_rel hr2 h3
            simp only [kBlock, hne, cond_false] at h2
            rw [← hw3]
            exact hQ (.exit id) c3 st3 a2 h2 hr3 (hm2.trans hm3)
          · cases h2
    | goto l =>
      simp only at h2
      cases kp with
      | none => exact hQ (.goto l) c2 st2 a2 h2 hr2 hm2
      | some k =>
        simp only at h2
        split at h2
        · rename_i st3 h3
          obtain ⟨c3, hr3, hm3, hw3⟩ := trim_rel hr2 h3
          rw [← hw3]
          exact hQ (.goto l) c3 st3 a2 h2 hr3 (hm2.trans hm3)
        · cases h2

theorem callPost {n : Nat} {f : FuncId} {args : Array Value} {w : World} {Rr : Ending → World → Prop} (h : Calls P f args w Rr) : CallsIn (FW rd) n P f args w Rr := (callsIn_wide (n := n)).2 h

/-- a range over a function -/
theorem range_sound {n : Nat} {f : FuncId} {cl : Bool} {ex : ExecFn R} (hex : CallsOk P W0 ex) {fv : Operand} {ps : Array Tmp} {asg bd : Code} {K : Ex → St → Option R} {Q : Exit → Act → World → Prop} {c : Cx} {st : St} {a : Act} {g : FuncId} {caps : List AVal}
    (hgv : VRel c (.fn g caps) (a.eval fv))
    {ky : Option Nat} (hky : ∀ k, ky = some k → rfTab f k = some (asg, bd))
    (h : alloc cl (some (700000 + ps.toList.headD 0)) (.lp f st.fr ps.toList asg bd ky 0 none) st (fun id st =>
        ex (.call g (.yld id :: caps)) { st with stk := [.yld id] :: st.stk } fun _ st => match st.stk with
          | [.yld id] :: stk => match hget st.hp id with
            | some (.lp _ _ _ _ _ _ 0 none) => K .normal { st with stk := stk, hp := hset st.hp id .dead }
            | some (.lp _ _ _ _ _ _ 1 (some e)) => K e { st with stk := stk, hp := hset st.hp id .dead }
            | _ => none
          | _ => none) = some r)
    (hr : Rel W0 b0 rd c st a ats) (hb : b0 ≤ c.w.heap.size) (hQ : ∀ e c' st' a', K e st' = some r → Rel W0 b0 rd c' st' a' ats → c.Mono c' → Q e.xt a' c'.w) :
    (Code.rangeFunc fv ps asg bd).wpIn (FW rd) n P Q a c.w := by
  obtain ⟨id, n', h3, h4, h5, h⟩ := alloc_some h
  simp only [VRel] at hgv
  obtain ⟨vs, hgv, hcaps⟩ := hgv
  refine wpIn_rangeFunc fun fn _ => ?_
  -- the marks
  obtain ⟨mark, c1, hc1, hr1, hm1, hle01, hen⟩ : ∃ (mark : List Deferred) (c1 : Cx), c1.hp = c.hp ∧ Rel W0 b0 rd c1 st { a with defers := mark ++ a.defers } ats ∧ c.Mono c1 ∧ c.Le0 c1 ∧
      ∃ L : Loop, L.tmps = a.tmps ∧ L.params = ps ∧ L.assign = asg ∧ L.body = bd ∧ L.state = .ready ∧ L.pending = none ∧ (Instr.enterLoop fn a.tmps ps asg bd rd).run P c.w = .ok (c1.w.heap.size, mark) (c1.w.alloc (.loop L)) := by
    cases rd with
    | none =>
      obtain ⟨hle, hok⟩ := new_mark hr.ok
      refine ⟨[mkD c.w.heap.size], { c with w := c.w.alloc (.deferred (some [])), mks := c.w.heap.size :: c.mks }, rfl, ⟨hr.hp, hr.nxt, hok, VRels.le hle _ _ hr.fr, Stk.le hle _ _ hr.stk, ?_, fun l hl => by cases hl⟩, hle.mono, hle.le0, { state := .ready, pending := none, fn, tmps := a.tmps, params := ps, assign := asg, body := bd, defers := c.w.heap.size }, rfl, rfl, rfl, rfl, rfl, rfl, ?_⟩
      · obtain ⟨ds, e1, e2, e3⟩ := hr.df
        refine ⟨c.w.heap.size :: ds, by simp [e1], List.nodup_cons.2 ⟨fun hm => ?_, e2⟩, fun x hx => ?_⟩
        · have := hr.ok.mark_lt (e3 _ hm).1; omega
        · rcases List.mem_cons.1 hx with e | e
          · subst e; exact ⟨by simp, hb⟩
          · exact ⟨List.mem_cons_of_mem _ (e3 x e).1, (e3 x e).2⟩
      · have := run_enterLoop_outer (P := P) (w := c.w) fn a.tmps ps asg bd
        rw [this, World.size_alloc]; rfl
    | some l0 =>
      obtain ⟨L0, hL0⟩ := hr.rd l0 rfl
      exact ⟨[], c, rfl, hr, Cx.Mono.refl c, (Cx.Le.refl c).le0, { state := .ready, pending := none, fn, tmps := a.tmps, params := ps, assign := asg, body := bd, defers := L0.defers }, rfl, rfl, rfl, rfl, rfl, rfl, run_enterLoop_inner hL0 fn a.tmps ps asg bd⟩
  obtain ⟨L, q1, q2, q3, q4, q5, q6, q7⟩ := hen
  subst q2 q3 q4
  obtain ⟨c2, hd, hw2, hy, _⟩ := new_lp hr1.ok (st := st) hr1.hp hr1.nxt h3 h4 h5 (f := f) (fr := st.fr) (L := L) (by rw [q1]; exact hr1.fr) q5 q6 hky
  have hr2 := hr1.did hd
  have hm2 : c.Mono c2 := hm1.trans hd.le.mono
  have hr2' : Rel W0 b0 rd c2 { st with stk := [.yld id] :: st.stk, hp := (id, .lp f st.fr L.params.toList L.assign L.body ky 0 none) :: st.hp, nxt := n' } { a with defers := mark ++ a.defers } (#[.func (.yield c1.w.heap.size) #[] #[]] :: ats) :=
    ⟨hr2.hp, hr2.nxt, hr2.ok, hr2.fr, ⟨by simpa [VRels] using hy, hr2.stk⟩, hr2.df, hr2.rd⟩
  have hcaps2 : VRels c2 caps vs.toList := VRels.le hd.le _ _ (VRels.le0 hle01 _ _ hcaps)
  have hcall := hex g (.yld id :: caps) _ _ r h b0 rd c2 { a with defers := mark ++ a.defers } (#[.func (.yield c1.w.heap.size) #[] #[]] :: ats) (#[.func (.yield c1.w.heap.size) #[] #[]] ++ vs) hr2' (by simp only [Array.toList_append, List.cons_append, List.nil_append, VRels]; exact ⟨hy, hcaps2⟩)
    (rangePost (FW rd) n P c1.w.heap.size Q { a with defers := mark ++ a.defers }) (by
      intro c3 z u st3 hK hr3 _ hm3
      have hstk := hr3.stk
      split at hK
      · rename_i id3 stk3 hs3
        rw [hs3] at hstk
        obtain ⟨hy3, hstk⟩ := hstk
        simp only [VRels, and_true] at hy3
        have hget3 : ∀ {o}, hget st3.hp id3 = some o → hget c3.hp id3 = some o := fun {o} ho => by rw [hr3.hp]; exact ho
        simp only [VRel] at hy3
        split at hK
        · rename_i f3 fr3 ps3 asg3 bd3 ky3 hg3
          obtain ⟨_, hB, L3, hL3, hv3, e1, e2, e3, e4, e5⟩ := hr3.ok.obj id3 _ (hget3 hg3)
          have hblk := hy3.2.2 _ _ _ _ _ _ _ _ (hget3 hg3)
          have hblk : c1.w.heap.size = (c3.mu id3).blk := by simpa using hblk
          obtain ⟨c4, p1, p2, p3, p4, p5, p6⟩ := set_lp hr3.ok (hget3 hg3) hL3 { L3 with state := .exhausted, pending := none } (o' := .dead) (.inl rfl)
          refine ⟨_, _, (by rw [hblk]; exact run_endLoop hL3 (by rw [e4]; decide)), ?_⟩
          rw [e5]
          simp only
          rw [← p5]
          refine hQ .normal c4 _ _ hK ⟨by rw [p1, hr3.hp], by rw [p2, hr3.nxt], p4, VRels.le p3 _ _ hr3.fr, Stk.le p3 _ _ hstk, ?_, ?_⟩ ((hm2.trans hm3).trans p3.mono)
          · obtain ⟨ds, w1, w2, w3⟩ := hr3.df
            exact ⟨ds, w1, w2, fun x hx => ⟨by rw [p6]; exact (w3 x hx).1, (w3 x hx).2⟩⟩
          · intro l hl
            obtain ⟨Ll, hLl⟩ := hr3.rd l hl
            exact p3.lp l Ll hLl
        · rename_i f3 fr3 ps3 asg3 bd3 ky3 e0 hg3
          obtain ⟨_, hB, L3, hL3, hv3, e1, e2, e3, e4, e5, e6⟩ := hr3.ok.obj id3 _ (hget3 hg3)
          have hblk := hy3.2.2 _ _ _ _ _ _ _ _ (hget3 hg3)
          have hblk : c1.w.heap.size = (c3.mu id3).blk := by simpa using hblk
          refine ⟨_, _, (by rw [hblk]; exact run_endLoop hL3 (by rw [e4]; decide)), ?_⟩
          rw [e5]
          cases he0 : e0.code with
          | none => exact absurd he0 e6
          | some cd =>
            obtain ⟨c4, p1, p2, p3, p4, p5, p6⟩ := set_lp hr3.ok (hget3 hg3) hL3 { L3 with state := .exhausted, pending := some cd } (o' := .dead) (.inl rfl)
            simp only
            refine wpIn_code he0 ?_
            rw [← p5]
            refine hQ e0 c4 _ _ hK ⟨by rw [p1, hr3.hp], by rw [p2, hr3.nxt], p4, VRels.le p3 _ _ hr3.fr, Stk.le p3 _ _ hstk, ?_, ?_⟩ ((hm2.trans hm3).trans p3.mono)
            · obtain ⟨ds, w1, w2, w3⟩ := hr3.df
              exact ⟨ds, w1, w2, fun x hx => ⟨by rw [p6]; exact (w3 x hx).1, (w3 x hx).2⟩⟩
            · intro l hl
              obtain ⟨Ll, hLl⟩ := hr3.rd l hl
              exact p3.lp l Ll hLl
        · cases hK
      · cases hK)
  refine ⟨c1.w.heap.size, mark, c1.w.alloc (.loop L), { target := .fn (.func g) vs, args := #[.func (.yield c1.w.heap.size) #[] #[]] }, c1.w.alloc (.loop L), g, #[.func (.yield c1.w.heap.size) #[] #[]] ++ vs, c1.w.alloc (.loop L), q7, ?_, fun _ _ => trivial, ?_, FW_depth rd, ?_⟩
  · have hev : a.eval (.const (.func (.yield c1.w.heap.size) #[] #[])) = .func (.yield c1.w.heap.size) #[] #[] := rfl
    simp only [resolve, hgv]
    simp [go_sem, hev]
  · have := hcall.1
    rw [hw2] at this
    simp only [invoke]
    exact this
  · have := hcall.2
    rw [hw2] at this
    exact callPost this

/-- what is known of a loop is so -/
def LoopOkX {R : Type} (E : Env) (ex : ExecFn R) (exd : Side) (f : FuncId) (c : Code) (L : LoopSum) : Prop :=
  ∀ (r : R) (st : St) (v : L.V) (K : Ex → St → Option R), (∀ slots owns st1, trim slots owns st = some st1 → WfH st1.hp) → L.get st = some v →
    (obind (L.spec v) fun o => osum o (fun a => K (L.exA v) (L.stA st v a)) fun b => K (L.exB v) (L.stB st v b)) = some r →
    ∃ m st1, (match E.kp f (firstRegion c) with | none => st1 = st | some k => trim k.slots k.owns st = some st1) ∧ iter (E.kp f (firstRegion c)) (run E ex exd f c) m st1 K = some r

/-- .. and of a piece that is taken by itself -/
def CutOkX {R : Type} (E : Env) (ex : ExecFn R) (exd : Side) (f : FuncId) (c : Code) (L : LoopSum) : Prop :=
  ∀ (r : R) (st : St) (v : L.V) (K : Ex → St → Option R), (∀ slots owns st1, trim slots owns st = some st1 → WfH st1.hp) → L.get st = some v →
    (obind (L.spec v) fun o => osum o (fun a => K (L.exA v) (L.stA st v a)) fun b => K (L.exB v) (L.stB st v b)) = some r →
    ∃ m st1, (match E.kp f (800000 + firstRegion c) with | none => st1 = st | some k => trim k.slots k.owns st = some st1) ∧ iter (E.kp f (800000 + firstRegion c)) (cutF (run E ex exd f c)) m st1 K = some r

def loopsOkX {R : Type} (E : Env) (ex : ExecFn R) (exd : Side) (f : FuncId) : Code → Prop
  | .seq a b => (loopsOkX E ex exd f a ∧ ∀ L, E.lp f (800000 + firstRegion b) = some L → L.dep.ble E.dp = true → CutOkX E ex exd f b L) ∧ loopsOkX E ex exd f b
  | .cond _ a b => loopsOkX E ex exd f a ∧ loopsOkX E ex exd f b
  | .block _ c => loopsOkX E ex exd f c
  | .scope c => loopsOkX E ex exd f c
  | .loop c => loopsOkX E ex exd f c ∧ ∀ L, E.lp f (firstRegion c) = some L → L.dep.ble E.dp = true → LoopOkX E ex exd f c L
  | .rangeFunc _ _ asg bd => loopsOkX E ex exd f asg ∧ loopsOkX E ex exd f bd ∧ (E.rf f (firstRegion bd) = true → rfTab f (firstRegion bd) = some (asg, bd))
  | _ => True

theorem loopsOkX_none {E : Env} {ex : ExecFn R} {exd : Side} {f : FuncId} (h : ∀ id, E.lp f id = none) (h2 : ∀ id, E.rf f id = false) : ∀ c : Code, loopsOkX E ex exd f c
  | .seq a b => ⟨⟨loopsOkX_none h h2 a, fun L hL => by rw [h] at hL; cases hL⟩, loopsOkX_none h h2 b⟩
  | .cond _ a b => ⟨loopsOkX_none h h2 a, loopsOkX_none h h2 b⟩
  | .block _ c => loopsOkX_none (E := E) h h2 c
  | .scope c => loopsOkX_none (E := E) h h2 c
  | .loop c => ⟨loopsOkX_none h h2 c, fun L hL => by rw [h] at hL; cases hL⟩
  | .rangeFunc _ _ a b => ⟨loopsOkX_none h h2 a, loopsOkX_none h h2 b, fun h3 => by rw [h2] at h3; cases h3⟩
  | .skip | .label _ | .region _ _ _ | .exit _ | .goto _ | .ret | .refuse _ => trivial

/-- calls of one result, for the drawn regions -/
def exdOf (E : Env) (n : Nat) : Side := ⟨fun j st => exec E n (R := AVal) j st fun v _ => some v, exec E n, exec E n⟩

/-- .. at any depth of calls that is enough -/
def LoopOk (E : Env) (f : FuncId) (c : Code) (L : LoopSum) : Prop :=
  ∀ (R : Type) (m : Nat), LoopOkX (R := R) (E.at (m + L.dep)) (exec E (m + L.dep)) (exdOf E (m + L.dep)) f c L

def CutOk (E : Env) (f : FuncId) (c : Code) (L : LoopSum) : Prop :=
  ∀ (R : Type) (m : Nat), CutOkX (R := R) (E.at (m + L.dep)) (exec E (m + L.dep)) (exdOf E (m + L.dep)) f c L

def loopsOk (E : Env) (f : FuncId) (c : Code) : Prop := ∀ (R : Type) (m : Nat), loopsOkX (R := R) (E.at m) (exec E m) (exdOf E m) f c

theorem loopsOk_none {E : Env} {f : FuncId} (h : ∀ id, E.lp f id = none) (h2 : ∀ id, E.rf f id = false) (c : Code) : loopsOk E f c := fun R m => loopsOkX_none (E := E.at m) h h2 c

theorem run_sound (hT : TOk P T) (hm : P.follows .mixedOrders = true) {n : Nat} {E : Env} (hET : E.T = T) {f : FuncId} {ex : ExecFn R} {exd : Side} (hcall : CallOk P W0 n (callV E ex)) (hq : QCallOk (R := R) P (callQ E exd.q)) (hex : CallsOk P W0 ex) (hS : CallOk P W0 n (callV E exd.s)) (hU : CallOk P W0 n (callV E exd.u)) (hsq : ∀ R : Type, QCallOk (R := R) P (sumQ E.sg E.cl)) :
    ∀ (code : Code), loopsOkX E ex exd f code → ∀ (K : Ex → St → Option R) (Q : Exit → Act → World → Prop) (c : Cx) (st : St) (a : Act), run E ex exd f code st K = some r → Rel W0 b0 rd c st a ats → b0 ≤ c.w.heap.size →
      (∀ e c' st' a', K e st' = some r → Rel W0 b0 rd c' st' a' ats → c.Mono c' → Q e.xt a' c'.w) → code.wpIn (FW rd) n P Q a c.w := by
  subst hET
  intro code
  induction code with
  | skip => intro _ K Q c st a h hr hb hQ; exact wpIn_skip (hQ .normal c st a h hr (Cx.Mono.refl c))
  | label l => intro _ K Q c st a h hr hb hQ; exact wpIn_label (hQ .normal c st a h hr (Cx.Mono.refl c))
  | region id ops draw =>
    intro _ K Q c st a h hr hb hQ
    simp only [run] at h
    have htrim : ∃ fr', rangeTrim (E.kp f (600000 + id)) st = { st with fr := fr' } ∧ VRels c fr' a.tmps.toList := by
      cases E.kp f (600000 + id) with
      | none => exact ⟨st.fr, rfl, hr.fr⟩
      | some k => exact ⟨_, rfl, keepL_rel _ _ _ hr.fr⟩
    obtain ⟨fr', e1, e2⟩ := htrim
    rw [e1] at h
    replace hr : Rel W0 b0 rd c { st with fr := fr' } a ats := ⟨hr.hp, hr.nxt, hr.ok, e2, hr.stk, hr.df, hr.rd⟩
    generalize ({ st with fr := fr' } : St) = st at h hr
    cases draw with
    | true =>
      simp only [cond_true] at h
      rw [cond_eq_ite] at h
      split at h
      · rename_i hok
        simp only [Bool.and_eq_true] at hok
        exact drawn_sound hT hm hq hok.1 h hr fun c' st' a' h' => hQ .normal c' st' a' h'
      · split at h
        · rename_i l hpl
          exact planned_sound hT hm hcall hpl h hr fun c' st' a' h' => hQ .normal c' st' a' h'
        · rw [cond_eq_ite] at h
          split at h
          · rename_i hok
            simp only [Bool.and_eq_true] at hok
            exact drawn_sound hT hm hq hok.1 h hr fun c' st' a' h' => hQ .normal c' st' a' h'
          replace h := bif_some h
          exact late_sound hT hm h.1 hsq hS hU callV_x callV_x hcall callV_x h.2 hr fun c' st' a' h' => hQ .normal c' st' a' h'
    | false =>
      simp only [cond_false] at h
      exact wpIn_region_list (ops_sound hT hcall ops ops.toList c st a h hr fun c' st' a' h' => hQ .normal c' st' a' h')
  | seq x y ihx ihy =>
    intro hl K Q c st a h hr hb hQ
    replace ihx := ihx hl.1.1
    replace ihy := ihy hl.2
    simp only [run] at h
    refine wpIn_seq (ihx _ _ c st a h hr hb fun e c' st' a' h' hr' hm' => ?_)
    cases e with
    | normal =>
      have hb' := Nat.le_trans hb hm'.size
      have hQ' : ∀ e c'' st'' a'', K e st'' = some r → Rel W0 b0 rd c'' st'' a'' ats → c'.Mono c'' → Q e.xt a'' c''.w := fun e c'' st'' a'' h'' hr'' hm'' => hQ e c'' st'' a'' h'' hr'' (hm'.trans hm'')
      have fin : ∀ (kp : Option Keep) (m : Nat) (st1 : St), (match kp with | none => st1 = st' | some k => trim k.slots k.owns st' = some st1) → iter kp (cutF (run E ex exd f y)) m st1 (kBlock 999999 K) = some r → y.wpIn (FW rd) n P Q a' c'.w := by
        intro kp m st1 h1 h2
        cases kp with
        | none => simp only at h1; rw [h1] at h2; exact cut_sound ihy m h2 hr' hb' hQ'
        | some k =>
          obtain ⟨c1, hr1, hm1, hw1⟩ := trim_rel hr' h1
          rw [← hw1]
          exact cut_sound ihy m h2 hr1 (Nat.le_trans hb' hm1.size) fun e c'' st'' a'' h'' hr'' hm'' => hQ' e c'' st'' a'' h'' hr'' (hm1.trans hm'')
      simp only [kSeq, cutAt] at h'
      split at h'
      · rename_i L hL
        replace h' := bif_some h'
        obtain ⟨hdp, h'⟩ := h'
        split at h'
        · rename_i v hv
          obtain ⟨m, st1, h1, h2⟩ := hl.1.2 L hL hdp r st' v (kBlock 999999 K) (fun slots owns st1 ht => let ⟨c1, hr1, _, _⟩ := trim_rel hr' ht; hr1.wf) hv h'
          exact fin _ m st1 h1 h2
        · cases h'
      · split at h'
        · exact ihy _ _ c' st' a' h' hr' hb' hQ'
        · rename_i k hk
          split at h'
          · rename_i st1 h1
            exact fin (some k) fuelN st1 h1 h'
          · cases h'
    | exit id => exact hQ (.exit id) c' st' a' h' hr' hm'
    | goto l => exact hQ (.goto l) c' st' a' h' hr' hm'
    | ret => exact hQ .ret c' st' a' h' hr' hm'
  | cond cnd x y ihx ihy =>
    intro hl K Q c st a h hr hb hQ
    replace ihx := ihx hl.1
    replace ihy := ihy hl.2
    simp only [run] at h
    have hv := evalO_rel hr.fr cnd
    split at h
    · rename_i b hb'
      rw [hb'] at hv
      simp only [VRel] at hv
      have hv := hv.bool_inv
      cases b with
      | true => exact wpIn_cond_true hv (ihx _ _ c st a h hr hb hQ)
      | false => exact wpIn_cond_false hv (ihy _ _ c st a h hr hb hQ)
    · cases h
  | block id x ih =>
    intro hl K Q c st a h hr hb hQ
    replace ih := ih hl
    simp only [run] at h
    refine wpIn_block (ih _ _ c st a h hr hb fun e c' st' a' h' hr' hm' => ?_)
    cases e with
    | normal => exact hQ .normal c' st' a' h' hr' hm'
    | exit i =>
      simp only [kBlock] at h'
      simp only [Ex.xt, Exit.inBlock]
      rw [cond_eq_ite] at h'
      split at h'
      · rename_i hi
        have hi : i = id := by simpa using hi
        rw [if_pos hi]; exact hQ .normal c' st' a' h' hr' hm'
      · rename_i hi
        have hi : i ≠ id := by simpa using hi
        rw [if_neg hi]; exact hQ (.exit i) c' st' a' h' hr' hm'
    | goto l => exact hQ (.goto l) c' st' a' h' hr' hm'
    | ret => exact hQ .ret c' st' a' h' hr' hm'
  | loop x ih =>
    intro hl K Q c st a h hr hb hQ
    replace ih := ih hl.1
    have fin : ∀ (kp : Option Keep) (m : Nat) (st1 : St), (match kp with | none => st1 = st | some k => trim k.slots k.owns st = some st1) → iter kp (run E ex exd f x) m st1 K = some r → (Code.loop x).wpIn (FW rd) n P Q a c.w := by
      intro kp m st1 h1 h2
      cases kp with
      | none => simp only at h1; rw [h1] at h2; exact iter_sound ih m h2 hr hb hQ
      | some k =>
        obtain ⟨c1, hr1, hm1, hw1⟩ := trim_rel hr h1
        rw [← hw1]
        exact iter_sound ih m h2 hr1 (Nat.le_trans hb hm1.size) fun e c' st' a' h' hr' hm' => hQ e c' st' a' h' hr' (hm1.trans hm')
    simp only [run] at h
    split at h
    · rename_i L hL
      replace h := bif_some h
      obtain ⟨hdp, h⟩ := h
      split at h
      · rename_i v hv
        obtain ⟨m, st1, h1, h2⟩ := hl.2 L hL hdp r st v K (fun slots owns st1 ht => let ⟨c1, hr1, _, _⟩ := trim_rel hr ht; hr1.wf) hv h
        exact fin _ m st1 h1 h2
      · cases h
    · split at h
      · exact fin none fuelN st rfl h
      · rename_i k hk
        split at h
        · rename_i st1 h1
          exact fin (some k) fuelN st1 h1 h
        · cases h
  | exit id => intro _ K Q c st a h hr hb hQ; exact wpIn_exit (hQ (.exit id) c st a h hr (Cx.Mono.refl c))
  | goto l => intro _ K Q c st a h hr hb hQ; exact wpIn_goto (hQ (.goto l) c st a h hr (Cx.Mono.refl c))
  | ret => intro _ K Q c st a h hr hb hQ; exact wpIn_ret (hQ .ret c st a h hr (Cx.Mono.refl c))
  | scope x ih =>
    intro hl K Q c st a h hr hb hQ
    replace ih := ih hl
    simp only [run] at h
    refine wpIn_scope (ih _ _ c st a h hr hb fun e c' st' a' h' hr' hm' => ?_)
    cases e with
    | normal => exact ⟨(fun l e => by cases e), hQ .normal c' st' a' h' hr' hm'⟩
    | exit i => exact ⟨(fun l e => by cases e), hQ (.exit i) c' st' a' h' hr' hm'⟩
    | goto l => simp [kScope] at h'
    | ret => exact ⟨(fun l e => by cases e), hQ .ret c' st' a' h' hr' hm'⟩
  | rangeFunc fv ps asg bd _ _ =>
    intro hl K Q c st a h hr hb hQ
    simp only [run] at h
    split at h
    · rename_i g caps hfv
      have hky : ∀ k, (bif E.rf f (firstRegion bd) then some (firstRegion bd) else none) = some k → rfTab f k = some (asg, bd) := fun k hk => by
        cases hrf : E.rf f (firstRegion bd) with
        | false => rw [hrf] at hk; cases hk
        | true => rw [hrf] at hk; cases hk; exact hl.2.2 hrf
      have htrim : ∃ fr', rangeTrim (E.kp f (500000 + firstRegion bd)) st = { st with fr := fr' } ∧ VRels c fr' a.tmps.toList := by
        cases E.kp f (500000 + firstRegion bd) with
        | none => exact ⟨st.fr, rfl, hr.fr⟩
        | some k => exact ⟨_, rfl, keepL_rel _ _ _ hr.fr⟩
      obtain ⟨fr', e1, e2⟩ := htrim
      rw [e1] at h
      have hgv := evalO_rel hr.fr fv
      rw [hfv] at hgv
      exact range_sound (st := { st with fr := fr' }) hex hgv hky h ⟨hr.hp, hr.nxt, hr.ok, e2, hr.stk, hr.df, hr.rd⟩ hb hQ
    · cases h
  | refuse s => intro _ K Q c st a h hr hb hQ; simp [run] at h
end
end Go.Proofs.YtnmaceljkegenaaDoor
