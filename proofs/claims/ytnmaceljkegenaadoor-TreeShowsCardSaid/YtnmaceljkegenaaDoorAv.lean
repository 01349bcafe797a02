/-
  The plain machine: calls.
-/
import Derived.Test.YtnmaceljkegenaaDoorAu
namespace Go.Proofs.YtnmaceljkegenaaDoor
open Go.RowKit
set_option linter.unusedVariables false
set_option linter.unusedSimpArgs false

/-- no function with a body has the name that the model answers itself -/
def NoGor (P : Program) : Prop := ∀ (f : FuncId) (fn : Func) (c : Code), P.funcs[f]? = some fn → fn.body = some c → (fn.name == "runtime.NumGoroutine") = false

def YieldsOk {R : Type} (P : Program) (W0 : World) (ex : ExecFn R) : Prop :=
  ∀ (id : Nat) (args : List AVal) (st : St) (K : AVal → St → Option R) (r : R), ex (.yield id args) st K = some r →
    ∀ (b0 : Nat) (rd : Option Nat) (c : Cx) (a : Act) (ats : List (Array Value)) (args' : Array Value), Rel W0 b0 rd c st a ats → VRels c args args'.toList →
      (∃ f fr ps asg bd ky k p, hget st.hp id = some (.lp f fr ps asg bd ky k p)) ∧
      ∀ Rr : Ending → World → Prop, (∀ c' z u st', K z st' = some r → Rel W0 b0 rd c' st' a ats → VRel c' z u → c.Mono c' → Rr (.returned u) c'.w) →
        ∀ n, ∃ g tmps asg bd, (Instr.yield (c.mu id).blk args').run P c.w = .ok (.round (c.mu id).blk g tmps asg bd) c.w ∧ RoundIn (FW rd) n P (c.mu id).blk g tmps asg bd c.w Rr

/-- a call of a function of which something is known -/
def sumFn {R : Type} (g : FuncId) (s : Sum) (cl : Bool) : CallFn R := fun fv args dst st K => match fv with
  | .fn g' caps => if g' = g then s.call cl (args ++ caps) dst st K else none
  | _ => none

/-- a function is the check of builders of texts -/
def CheckOk (P : Program) (g : FuncId) : Prop := ∀ (w : World) (b : Nat), w.shape? b = some (bldTy, 2) → w.frozen? ⟨b, 0, none⟩ = false →
  (callFunc g #[.pointer (some ⟨b, 0, none⟩)]).run P w = .ok (.enter g #[.pointer (some ⟨b, 0, none⟩)]) w ∧
  (w.cell? ⟨b, 0, none⟩ = some (.pointer (some ⟨b, 0, none⟩)) → Calls P g #[.pointer (some ⟨b, 0, none⟩)] w fun e w' => e = .returned (.tuple #[]) ∧ w' = w) ∧
  (w.cell? ⟨b, 0, none⟩ = some (.pointer none) → Calls P g #[.pointer (some ⟨b, 0, none⟩)] w fun e w' => e = .returned (.tuple #[]) ∧ w' = w.setCell ⟨b, 0, none⟩ (.pointer (some ⟨b, 0, none⟩)))

def sumBFn {R : Type} (g : FuncId) (s : SumB) (cl : Bool) : CallFn R := fun fv args dst st K => match fv with
  | .fn g' caps => if g' = g then s.call cl (args ++ caps) st K else none
  | _ => none

structure SumsOk (P : Program) (E : Env) : Prop where
  T : TOk P E.T
  x : ∀ (R : Type) (W0 : World) (n : Nat) (g : FuncId) (s : SumB), E.sb g = some s → CallOk (R := R) P W0 n (sumBFn g s E.cl)
  b : ∀ g, E.bf g = true → CheckOk P g
  v : ∀ (R : Type) (W0 : World) (n : Nat) (g : FuncId) (s : Sum), E.sg g = some s → CallOk (R := R) P W0 n (sumFn g s E.cl)
  q : ∀ (R : Type) (g : FuncId) (s : Sum), E.sg g = some s → (s.rs.all fun r => !r.2 && r.1.rigid) = true → QCallOk (R := R) P (sumFn g s E.cl)

section
variable {P : Program} {T : TT} {W0 : World} {b0 : Nat} {rd : Option Nat} {R : Type} {r : R} {c : Cx} {ats : List (Array Value)}

theorem callFunc_run (hng : NoGor P) {f : FuncId} {fn : Func} {cd : Code} (hf : P.funcs[f]? = some fn) (hb : fn.body = some cd) (args : Array Value) (w : World) : (callFunc f args).run P w = .ok (.enter f args) w := by
  have h1 := hng f fn cd hf hb
  unfold callFunc
  simp only [go_sem, Sem.run_bind, program, Sem.run, hf, h1, hb, Option.isNone_some, Bool.false_eq_true, if_false, Result.andThen_ok]
  rfl

theorem invoke_fn {g : FuncId} {vs args : Array Value} {w : World} : (do let d ← Deferred.ofValue (.func (.func g) #[] vs) args; invoke d.target d.args : Sem Next).run P w = (callFunc g (args ++ vs)).run P w := by
  simp [Deferred.ofValue, invoke, Sem.run_bind]

theorem invoke_mfn {g : FuncId} {vs args : Array Value} {w : World} : (do let d ← Deferred.ofValue (.func (.func g) vs #[]) args; invoke d.target d.args : Sem Next).run P w = (callFunc g (vs ++ args)).run P w := by
  simp [Deferred.ofValue, invoke, Sem.run_bind]

theorem invoke_yield {l : Nat} {args : Array Value} {w : World} : (do let d ← Deferred.ofValue (.func (.yield l) #[] #[]) args; invoke d.target d.args : Sem Next).run P w = (Instr.yield l args).run P w := by
  simp [Deferred.ofValue, invoke, Sem.run_bind]

theorem VRels.append_arr {l m : List AVal} {xs ys : Array Value} (h : VRels c l xs.toList) (k : VRels c m ys.toList) : VRels c (l ++ m) (xs ++ ys).toList := by
  rw [Array.toList_append]
  exact VRels.append _ _ _ _ h k

theorem hset_same : ∀ (h : Heap) (i : Nat) (o : AObj), hget h i = some o → hset h i o = h
  | [], _, _, _ => rfl
  | (k, p) :: h, i, o, hg => by
    rw [hget_cons] at hg
    simp only [hset]
    by_cases e : k = i
    · subst e
      simp only [if_true, Option.some.injEq] at hg
      subst hg
      simp
    · rw [if_neg e] at hg
      have e' : (k == i) = false := by simpa using e
      simp [e', hset_same h i o hg]

/-- the check of builders of texts -/
theorem check_sound {g : FuncId} (hT : TOk P T) (hg : CheckOk P g) {args : List AVal} {st : St} {K : AVal → St → Option R} (h : bldCheck T args st K = some r) {a : Act} (hr : Rel W0 b0 rd c st a ats) {us : Array Value} (hv : VRels c args us.toList)
    (Rr : Ending → World → Prop) (hR : ∀ c' z u st', K z st' = some r → Rel W0 b0 rd c' st' a ats → VRel c' z u → c.Mono c' → Rr (.returned u) c'.w) :
    (callFunc g us).run P c.w = .ok (.enter g us) c.w ∧ Calls P g us c.w Rr := by
  unfold bldCheck at h
  split at h <;> try (cases h; done)
  rename_i id
  split at h <;> try (cases h; done)
  rename_i t i i1 v1 w1 hbx
  replace h := bif_some h
  obtain ⟨hc, h⟩ := h
  simp only [Bool.and_eq_true] at hc
  obtain ⟨hi, hk, hb⟩ := hc
  have hi : i = id := Nat.eq_of_beq_eq_true hi
  subst hi
  have ht := hT.bldr hk hb
  rw [← hr.hp] at hbx
  obtain ⟨hB, vs, hw, hvs, hone⟩ := hr.ok.obj i _ hbx
  obtain ⟨us⟩ := us
  match us, hv with
  | [u], hv =>
    simp only [VRels, VRel, and_true] at hv
    have hu := hv.2.2 _ _ hbx
    subst hu
    obtain ⟨vs⟩ := vs
    match vs, hvs with
    | [p, q], hvs =>
      simp only [VRels, and_true] at hvs
      have hself := hvs.1
      simp only [VRel] at hself
      have hself := hself.2.2 _ _ hbx
      rw [ht] at hw
      have hw' : c.w.heap[(c.mu i).blk]? = some (.cells #[p, q] bldTy (0, 0)) := hw
      have hcell : c.w.cell? ⟨(c.mu i).blk, 0, none⟩ = some p := by simp [World.cell?, hw']
      obtain ⟨h1, h2, h3⟩ := hg c.w (c.mu i).blk (by simp [World.shape?, hw']) (by simp [World.frozen?, hw'])
      refine ⟨h1, ?_⟩
      have hunit : ∀ c', VRel c' (.tup []) (.tuple #[]) := fun c' => by simp only [VRel]; exact ⟨#[], rfl, by simp [VRels]⟩
      rcases hself with e | e
      · subst e
        refine (h3 hcell).mono ?_
        rintro e w' ⟨rfl, rfl⟩
        have hlt : (c.mu i).blk < c.w.heap.size := (Array.getElem?_eq_some_iff.1 hw').1
        have hwn : (c.w.setCell ⟨(c.mu i).blk, 0, none⟩ (.pointer (some ⟨(c.mu i).blk, 0, none⟩))).heap[(c.mu i).blk]? = some (.cells #[.pointer (some ⟨(c.mu i).blk, 0, none⟩), q] bldTy (0, 0)) := by
          simp [World.setCell, Array.getElem?_modify, hw']
        have hother : ∀ b, (c.mu i).blk ≠ b → (c.w.setCell ⟨(c.mu i).blk, 0, none⟩ (.pointer (some ⟨(c.mu i).blk, 0, none⟩))).heap[b]? = c.w.heap[b]? := fun b hb => by
          simp [World.setCell, Array.getElem?_modify, hb]
        have hsz : (c.w.setCell ⟨(c.mu i).blk, 0, none⟩ (.pointer (some ⟨(c.mu i).blk, 0, none⟩))).heap.size = c.w.heap.size := by simp [World.setCell]
        have hlp : ∀ (b : Nat) (L : Loop), (AObj.box t [.slf i, .slc i1 v1 w1]).blk (c.mu i) = some b → c.w.heap[b]? = some (Obj.loop L) → ∃ L' : Loop, (c.w.setCell ⟨(c.mu i).blk, 0, none⟩ (.pointer (some ⟨(c.mu i).blk, 0, none⟩))).heap[b]? = some (Obj.loop L') := fun b L hb hL => absurd hL ((hr.ok.obj i _ hbx).no_loop (by simp) hb)
        have hbb : ∀ b, b < c.w.heap.size → (AObj.box t [.slf i, .slc i1 v1 w1]).blk (c.mu i) ≠ some b → (c.w.setCell ⟨(c.mu i).blk, 0, none⟩ (.pointer (some ⟨(c.mu i).blk, 0, none⟩))).heap[b]? = c.w.heap[b]? := fun b _ hne => hother b fun e => hne (by simp [AObj.blk, e])
        have hll : ∀ b, (AObj.box t [.slf i, .slc i1 v1 w1]).blk (c.mu i) = some b → (AObj.box t [.slf i, .slc i1 v1 w1]).blk (c.mu i) = some b ∨ c.w.heap.size ≤ b := fun b hb => .inl hb
        have hBel : Below W0.heap.size W0 (c.w.setCell ⟨(c.mu i).blk, 0, none⟩ (.pointer (some ⟨(c.mu i).blk, 0, none⟩))) :=
          ⟨hr.ok.bel.os, hr.ok.bel.tape, hr.ok.bel.output, by rw [hsz]; exact hr.ok.bel.size, fun b hb => (hother b (by omega)).trans (hr.ok.bel.block b hb)⟩
        have hlike := AObj.like_refl (.box t [.slf i, .slc i1 v1 w1]) (c.mu i)
        have hle := Cx.Le.put hr.ok hbx hlike (Nat.le_of_eq hsz.symm) hbb hll hlp
        have hd : Did W0 c st (c.put i (.box t [.slf i, .slc i1 v1 w1]) (c.mu i) (c.w.setCell ⟨(c.mu i).blk, 0, none⟩ (.pointer (some ⟨(c.mu i).blk, 0, none⟩)))) st := by
          refine ⟨by simp only [Cx.put]; rw [hset_same _ _ _ hbx, hr.hp], hr.nxt, rfl, rfl, Cx.Ok.put hr.ok hbx hlike hBel (Nat.le_of_eq hsz.symm) hbb hll hlp ?_, hle⟩
          refine ⟨by simp only [Cx.put, upd_same]; exact hB, #[.pointer (some ⟨(c.mu i).blk, 0, none⟩), q], ?_, ?_, ?_⟩
          · simp only [Cx.put, upd_same]; rw [ht]; exact hwn
          · simp only [VRels, and_true]
            refine ⟨?_, VRel.le hle _ _ hvs.2⟩
            simp only [VRel]
            exact ⟨rfl, .inl ⟨_, Cx.put_get hbx⟩, fun _ _ _ => .inr (by simp [Cx.put, upd_same])⟩
          · intro u hu
            simp only [List.mem_cons, List.not_mem_nil, or_false] at hu
            rcases hu with rfl | rfl
            · rfl
            · exact hone _ (by simp)
        exact hR _ (.tup []) (.tuple #[]) st h (hr.did hd) (hunit _) hle.mono
      · subst e
        refine (h2 hcell).mono ?_
        rintro e w' ⟨rfl, rfl⟩
        exact hR c (.tup []) (.tuple #[]) st h hr (hunit _) (Cx.Mono.refl c)

theorem callV_sound {E : Env} (hS : SumsOk P E) {ex : ExecFn R} (hc : CallsOk P W0 ex) (hy : YieldsOk P W0 ex) (n : Nat) : CallOk P W0 n (callV E ex) := by
  intro b0 rd fv args dst st K r h c a ats fv' args' hr hfv hargs o next Q hn
  cases fv with
  | fn g caps =>
    simp only [callV] at h
    split at h
    · rename_i s hs
      exact hS.v R W0 n g s hs b0 rd (.fn g caps) args dst st K r (by simp only [sumFn, if_true]; exact h) c a ats fv' args' hr hfv hargs o next Q hn
    split at h
    · rename_i s hs
      exact hS.x R W0 n g s hs b0 rd (.fn g caps) args dst st K r (by simp only [sumBFn, if_true]; exact h) c a ats fv' args' hr hfv hargs o next Q hn
    · rw [cond_eq_ite] at h
      split at h
      · rename_i hbf
        simp only [VRel] at hfv
        obtain ⟨vs, rfl, hcaps⟩ := hfv
        obtain ⟨h1, h2⟩ := check_sound hS.T (hS.b g hbf) h hr (us := args' ++ vs) (VRels.append_arr hargs hcaps)
          (fun e w'' => match e with
            | .returned v => next (a.put o.dst v) w''
            | .panicked chain => Q (.panic chain) a w''
            | .outgrown => LetsOut Q) (fun c' z u st' k1 k2 k3 k4 => hn c' z u st' k1 k2 k3 k4)
        rw [invoke_fn, h1]
        exact ⟨FW_depth rd, (callPost h2).mono fun e w'' he => by cases e <;> exact he⟩
      simp only [VRel] at hfv
      obtain ⟨vs, rfl, hcaps⟩ := hfv
      obtain ⟨h1, h2⟩ := hc g (args ++ caps) st K r h b0 rd c a ats (args' ++ vs) hr (VRels.append_arr hargs hcaps)
        (fun e w'' => match e with
          | .returned v => next (a.put o.dst v) w''
          | .panicked chain => Q (.panic chain) a w''
          | .outgrown => LetsOut Q) (fun c' z u st' k1 k2 k3 k4 => hn c' z u st' k1 k2 k3 k4)
      rw [invoke_fn, h1]
      exact ⟨FW_depth rd, (callPost h2).mono fun e w'' he => by cases e <;> exact he⟩
  | mfn g fst =>
    simp only [callV] at h
    simp only [VRel] at hfv
    obtain ⟨vs, rfl, hfst⟩ := hfv
    split at h
    · rename_i s hs
      have h0 := hS.x R W0 n g s hs b0 rd (.fn g []) (fst ++ args) dst st K r (by simp only [sumBFn, if_true, List.append_nil]; exact h) c a ats (.func (.func g) #[] #[]) (vs ++ args') hr (by simp only [VRel]; exact ⟨#[], rfl, by simp [VRels]⟩) (VRels.append_arr hfst hargs) o next Q hn
      rw [invoke_fn] at h0
      rw [invoke_mfn]
      simpa using h0
    obtain ⟨h1, h2⟩ := hc g (fst ++ args) st K r h b0 rd c a ats (vs ++ args') hr (VRels.append_arr hfst hargs)
      (fun e w'' => match e with
        | .returned v => next (a.put o.dst v) w''
        | .panicked chain => Q (.panic chain) a w''
        | .outgrown => LetsOut Q) (fun c' z u st' k1 k2 k3 k4 => hn c' z u st' k1 k2 k3 k4)
    rw [invoke_mfn, h1]
    exact ⟨FW_depth rd, (callPost h2).mono fun e w'' he => by cases e <;> exact he⟩
  | yld id =>
    simp only [callV] at h
    obtain ⟨⟨f, fr, ps, asg, bd, ky, k, p, hg⟩, h2⟩ := hy id args st K r h b0 rd c a ats args' hr hargs
    simp only [VRel] at hfv
    have := hfv.2.2 f fr ps asg bd ky k p (by rw [hr.hp]; exact hg)
    subst this
    obtain ⟨g, tmps, asg, bd, h3, h4⟩ := h2
        (fun e w'' => match e with
          | .returned v => next (a.put o.dst v) w''
          | .panicked chain => Q (.panic chain) a w''
          | .outgrown => LetsOut Q) (fun c' z u st' k1 k2 k3 k4 => hn c' z u st' k1 k2 k3 k4) (n - 1)
    rw [invoke_yield, h3]
    exact ⟨FW_depth rd, h4.mono fun e w'' he => by cases e <;> exact he⟩
  | _ => simp [callV] at h

theorem callQ_sound {E : Env} (hS : SumsOk P E) {exR : ExecFn AVal} (hc : ∀ W0, CallsOk P W0 exR) : QCallOk (R := R) P (callQ E fun j st => exR j st fun v _ => some v) := by
  intro W0 b0 rd fv args dst st K r h c a ats fv' args' hr hfv hargs
  cases fv with
  | fn g caps =>
    cases caps with
    | nil =>
      simp only [callQ] at h
      split at h
      · rename_i s hs
        rw [cond_eq_ite] at h
        split at h
        · rename_i hall
          exact hS.q R g s hs hall W0 b0 rd (.fn g []) args dst st K r (by simp only [sumFn, if_true, List.append_nil]; exact h) c a ats fv' args' hr hfv hargs
        · cases h
      · split at h
        · rename_i args2 ha2
          split at h
          · rename_i v hv
            rw [cond_eq_ite] at h
            split at h
            · rename_i hrig
              simp only [VRel] at hfv
              obtain ⟨vs, rfl, hcaps⟩ := hfv
              have hvs : vs = #[] := by
                have := VRels.length _ _ hcaps
                simp at this
                exact Array.eq_empty_of_size_eq_zero this.symm
              subst hvs
              refine ⟨v, rv v, h, (rv_iff hrig _).2 rfl, fun w' hw' => .inl ⟨g, args', ?_⟩⟩
              have hbr : Rel w' 0 none (c.base w' fun _ => False) ⟨[], [], [], st.nxt⟩ ⟨#[], []⟩ [] := base_rel (Phi.below hw' hr.ok.phiw) (fun b h => h.elim) hr.nxt.symm
              have hsees : Sees c (c.base w' fun _ => False) := fun b hb => ⟨base_free.2 ⟨Nat.lt_of_lt_of_le hb hw'.size, fun h => h⟩, hw'.block b hb⟩
              obtain ⟨h1, h2⟩ := hc w' g args2 _ _ v hv 0 none _ _ [] args' hbr (asVals_rel hr.ok hsees _ _ _ (by rw [hr.hp]; exact ha2) hargs)
                (fun e w'' => e = .returned (rv v) ∧ Ext c w'') (fun c' z u st' k1 k2 k3 k4 => by
                  simp only [Option.some.injEq] at k1
                  subst k1
                  refine ⟨by rw [(rv_iff hrig u).1 k3], ?_⟩
                  exact hw'.trans (k2.ok.bel.mono hw'.size))
              refine ⟨?_, h2⟩
              rw [invoke_fn, Array.append_empty]
              exact h1
            · cases h
          · cases h
        · cases h
    | cons _ _ => simp [callQ] at h
  | _ => simp [callQ] at h

theorem replicate_rel : ∀ k, VRels c (List.replicate k (.tup [])) (List.replicate k undef)
  | 0 => by simp [VRels]
  | k + 1 => by
    simp only [List.replicate_succ, VRels, VRel]
    exact ⟨⟨#[], rfl, by simp [VRels]⟩, replicate_rel k⟩

theorem roundPost_ex {l : Nat} {Rr : Ending → World → Prop} {e : Ex} {a : Act} {w : World} (h : ∃ v w', (Instr.endRound l e.code).run P w = .ok v w' ∧ Rr (.returned v) w') : roundPost P l Rr e.xt a w := by
  cases e <;> exact h

theorem setParams_rel : ∀ (ps : List Nat) (fr args : List AVal) (args' : List Value) (tmps : Array Value), VRels c fr tmps.toList → VRels c args args' → VRels c (setParams fr ps args) ((ps.zip args').foldl (fun tmps (t, a) => tmps.setIfInBounds t a) tmps).toList
  | [], fr, args, args', tmps, h, _ => by cases args <;> simpa [setParams] using h
  | p :: ps, fr, [], [], tmps, h, _ => by simpa [setParams] using h
  | p :: ps, fr, v :: args, u :: args', tmps, h, hv => by
    simp only [VRels] at hv
    simp only [setParams, List.zip_cons_cons, List.foldl_cons]
    refine setParams_rel ps _ args args' _ ?_ hv.2
    rw [Array.toList_setIfInBounds]
    exact VRels.set hv.1 p _ _ h
  | p :: ps, fr, [], _ :: _, tmps, h, hv => by simp [VRels] at hv
  | p :: ps, fr, _ :: _, [], tmps, h, hv => by simp [VRels] at hv
end
end Go.Proofs.YtnmaceljkegenaaDoor
