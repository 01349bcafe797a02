/-
  The plain machine: regions that draw their order.
-/
import Derived.Test.YtnmaceljkegenaaDoorAq
namespace Go.Proofs.YtnmaceljkegenaaDoor
open Go.RowKit
set_option linter.unusedVariables false
set_option linter.unusedSimpArgs false

/-- a call whose result has one form, in every world that goes on from here -/
def QCallOk {R : Type} (P : Program) (call : CallFn R) : Prop :=
  ∀ (W0 : World) (b0 : Nat) (rd : Option Nat) (fv : AVal) (args : List AVal) (dst : Option Nat) (st : St) (K : AVal → St → Option R) (r : R), call fv args dst st K = some r →
    ∀ (c : Cx) (a : Act) (ats : List (Array Value)) (fv' : Value) (args' : Array Value), Rel W0 b0 rd c st a ats → VRel c fv fv' → VRels c args args'.toList →
      ∃ z v, K z st = some r ∧ VRel c z v ∧ ∀ w', Ext c w' → (∃ g args'', (do let d ← Deferred.ofValue fv' args'; invoke d.target d.args : Sem Next).run P w' = .ok (.enter g args'') w' ∧
        Calls P g args'' w' (fun e w'' => e = .returned v ∧ Ext c w'')) ∨ (do let d ← Deferred.ofValue fv' args'; invoke d.target d.args : Sem Next).run P w' = .ok (.value v) w'

section
variable {P : Program} {T : TT} {W0 : World} {b0 n : Nat} {rd : Option Nat} {c : Cx} {R : Type} {r : R} {st : St} {a : Act} {ats : List (Array Value)}

theorem Rel.ext (h : Rel W0 b0 rd c st a ats) {w : World} (hw : Ext c w) : Rel W0 b0 rd (c.at_ w) st a ats := by
  have hle := Cx.Le.ext hw
  exact ⟨h.hp, h.nxt, h.ok.ext hw, VRels.le hle _ _ h.fr, Stk.le hle _ _ h.stk, let ⟨ds, h1, h2, h3⟩ := h.df; ⟨ds, h1, h2, h3⟩, fun l hl => let ⟨L, hL⟩ := h.rd l hl; hle.lp l L hL⟩

theorem op_quiet (hT : TOk P T) {cl : Bool} {call : CallFn R} (hcall : QCallOk P call) {o : Oper} (hq : quietOp o.op = true) {K : AVal → St → Option R} (h : evalOp T cl call o st K = some r) (hr : Rel W0 b0 rd c st a ats) :
    ∃ z v, K z st = some r ∧ VRel c z v ∧ ∀ w', Ext c w' → o.quietAtIn (FW rd) n P a (Ext c) w' v := by
  by_cases hq2 : quietOwn o.op = true
  · obtain ⟨z, u, h1, h2, h3⟩ := quiet_op hT hr.ok hq2 hr.hp hr.fr h
    refine ⟨z, u, h1, h2, fun w' hw' => ?_⟩
    unfold Oper.quietAtIn
    rw [h3 w' hw']
    exact ⟨rfl, rfl⟩
  · obtain ⟨dst, op, ty, pos, after, guard⟩ := o
    cases op <;> simp only [quietOp, Bool.false_eq_true] at hq <;> (try (exact absurd rfl hq2))
    case call cc =>
      obtain ⟨callee, args, argTypes⟩ := cc
      cases callee with
      | builtin b => cases b <;> simp only [Bool.false_eq_true] at hq <;> exact absurd rfl hq2
      | invoke x m => simp only [Bool.false_eq_true] at hq
      | value f =>
        simp only [evalOp] at h
        obtain ⟨z, v, h1, h2, h3⟩ := hcall W0 b0 rd _ _ dst st K r h c a ats (a.eval f) (args.map a.eval) hr (evalO_rel hr.fr f) (by
          have := VRels.map_eval (c := c) hr.fr args.toList
          simpa using this)
        refine ⟨z, v, h1, h2, fun w' hw' => ?_⟩
        unfold Oper.quietAtIn
        rcases h3 w' hw' with ⟨g, args'', h4, h5⟩ | h4
        · have h6 : (execOp a.eval ⟨dst, .call { callee := .value f, args := args, argTypes := argTypes }, ty, pos, after, guard⟩).run P w' = .ok (.enter g args'') w' := h4
          rw [h6]
          exact ⟨rfl, FW_depth rd, (callsIn_wide (n := n - 1)).2 h5⟩
        · have h6 : (execOp a.eval ⟨dst, .call { callee := .value f, args := args, argTypes := argTypes }, ty, pos, after, guard⟩).run P w' = .ok (.value v) w' := h4
          rw [h6]
          exact ⟨rfl, rfl⟩

theorem ops_quiet (hT : TOk P T) {cl : Bool} {call : CallFn R} (hcall : QCallOk P call) (ops : Array Oper) {K : St → Option R} : ∀ (l : List Oper) (st : St) (a : Act), (∀ o ∈ l, quietOp o.op = true) → evalOps T cl call ops K l st = some r → Rel W0 b0 rd c st a ats →
    wpQuietIn (FW rd) n P ops (Ext c) (fun a' => ∃ st', K st' = some r ∧ Rel W0 b0 rd c st' a' ats) l a
  | [], st, a, hq, h, hr => by
    simp only [evalOps] at h
    exact ⟨st, h, hr⟩
  | o :: l, st, a, hq, h, hr => by
    simp only [evalOps] at h
    have hq' : ∀ o ∈ l, quietOp o.op = true := fun o' ho' => hq o' (List.mem_cons_of_mem _ ho')
    have step : ∀ (st : St) (a : Act), Rel W0 b0 rd c st a ats → evalOp T cl call o st (fun v st => evalOps T cl call ops K l (st.put o.dst v)) = some r →
        o.quietIn (FW rd) n P a (Ext c) (wpQuietIn (FW rd) n P ops (Ext c) (fun a' => ∃ st', K st' = some r ∧ Rel W0 b0 rd c st' a' ats) l) := fun st a hr h => by
      obtain ⟨z, v, h1, h2, h3⟩ := op_quiet (n := n) hT hcall (hq o (by simp)) h hr
      exact ⟨v, h3, ops_quiet hT hcall ops l _ _ hq' h1 (hr.put h2)⟩
    have skip : ∀ (st : St), Rel W0 b0 rd c st a ats → evalOps T cl call ops K l (st.put o.dst (.tup [])) = some r → wpQuietIn (FW rd) n P ops (Ext c) (fun a' => ∃ st', K st' = some r ∧ Rel W0 b0 rd c st' a' ats) l (a.put o.dst undef) := fun st hr h =>
      ops_quiet hT hcall ops l (st.put o.dst (.tup [])) (a.put o.dst undef) hq' h (hr.put (by simp only [VRel]; exact ⟨#[], rfl, by simp [VRels]⟩))
    simp only [wpQuietIn]
    refine ⟨fun _ _ _ _ => trivial, ?_⟩
    cases hg : o.guard with
    | none =>
      rw [hg] at h
      rw [if_pos (by simp [Region.wanted, hg])]
      exact step st a hr h
    | some jw =>
      obtain ⟨j, want⟩ := jw
      rw [hg] at h
      simp only at h
      split at h
      · cases h
      · rename_i d hd
        have hy := yielded_eq ops j d hd a.tmps
        have hsl := hr.fr.getD d
        split at h
        · rename_i b hb
          rw [hb] at hsl
          simp only [VRel] at hsl
          have hv := hsl.bool_inv
          have hdl : d < a.tmps.size := by
            rcases Nat.lt_or_ge d a.tmps.size with h1 | h1
            · exact h1
            · rw [Array.getD, dif_neg (by omega)] at hv
              simp [undef] at hv
          have hv2 : a.tmps[d]? = some (.bool b) := by
            rw [Array.getD, dif_pos hdl] at hv
            rw [Array.getElem?_eq_getElem hdl]
            simpa using hv
          rw [hv2] at hy
          simp only at hy
          have hself : a.put (some d) (.bool b) = a := by
            simp only [Act.put]
            obtain ⟨hh1, hh2⟩ := Array.getElem?_eq_some_iff.1 hv2
            have : a.tmps.setIfInBounds d (.bool b) = a.tmps := by
              apply Array.ext
              · rw [Array.size_setIfInBounds]
              · intro i h1 h2
                rw [Array.getElem_setIfInBounds (by rwa [Array.size_setIfInBounds] at h1)]
                split
                · rename_i hi
                  subst hi
                  exact hh2.symm
                · rfl
            rw [this]
          have hr2 : Rel W0 b0 rd c (st.put (some d) (.val .bool b)) a ats := by
            have := hr.put (dst := some d) (z := .val .bool b) (v := .bool b) (by simp only [VRel]; exact VD.bool_mk)
            rwa [hself] at this
          cases b <;> cases want <;> (try simp only [cond_true, cond_false] at h)
          · rw [if_pos (by simp [Region.wanted, hg, hy])]
            exact step _ a hr2 h
          · rw [if_neg (by simp [Region.wanted, hg, hy])]
            exact skip _ hr2 h
          · rw [if_neg (by simp [Region.wanted, hg, hy])]
            exact skip _ hr2 h
          · rw [if_pos (by simp [Region.wanted, hg, hy])]
            exact step _ a hr2 h
        · rename_i hb
          rw [hb] at hsl
          simp only [VRel] at hsl
          obtain ⟨vs, hv, _⟩ := hsl
          have hy2 : yielded ops a.tmps j = none := by
            rw [hy]
            cases he : a.tmps[d]? with
            | none => rfl
            | some x =>
              obtain ⟨hh1, hh2⟩ := Array.getElem?_eq_some_iff.1 he
              rw [Array.getD, dif_pos hh1] at hv
              simp at hv
              rw [← hh2, hv]
          rw [if_neg (by simp [Region.wanted, hg, hy2])]
          exact skip st hr h
        · cases h

/-! ### the kit's theory of such regions, in a round too -/

section
variable {ops : Array Oper} {md : Region.Mode} {C : World → Prop} {F : Fence}

theorem wpIn_of_quiet' {o : Oper} (hd : isDefer o.op = false) {a : Act} {K : Act → Prop} {K' : Act → World → Prop} {Q' : Exit → Act → World → Prop} {w : World} (hw : C w) (h : ∀ a w', C w' → K a → K' a w')
    (ha : o.askedIn F P a C) (hh : o.quietIn F n P a C K) : o.wpIn F n P a w K' Q' := by
  obtain ⟨v, h1, h2⟩ := hh
  have h3 := h1 w hw
  unfold Oper.quietAtIn at h3
  unfold Oper.wpIn
  refine ⟨ha w hw, ?_⟩
  rw [semAt_of hd]
  generalize (execOp a.eval o).run P w = r at *
  cases r with
  | ok x w' =>
    cases x <;> simp only [Oper.quietUponIn] at h3 <;> simp only [Oper.uponIn]
    case value u =>
      obtain ⟨e1, e2⟩ := h3
      rw [e1, e2]
      exact h _ _ hw h2
    case skip =>
      obtain ⟨e1, e2⟩ := h3
      rw [e1, ← e2]
      exact h _ _ hw h2
    case enter f args =>
      obtain ⟨e1, hd, hc⟩ := h3
      rw [e1]
      exact ⟨hd, hc.mono fun e w'' ⟨he, hw''⟩ => by subst he; exact h _ _ hw'' h2⟩
  | halt x w' => simp only [Oper.quietUponIn] at h3

theorem wpOpIn_of_qOpIn' {i : Nat} (hd : ∀ (i : Nat) (o : Oper), ops[i]? = some o → isDefer o.op = false) {a : Act} {K : Act → Prop} {K' : Act → World → Prop} {Q' : Exit → Act → World → Prop} {w : World} (hC : C w) (h : ∀ a w', C w' → K a → K' a w')
    (hh : qOpIn F n P ops C i K a) : wpOpIn F n P ops Q' i K' a w := by
  unfold qOpIn at hh
  unfold wpOpIn
  split
  · rename_i ho; simp only [ho] at hh; exact h _ _ hC hh
  · rename_i o ho
    simp only [ho] at hh
    obtain ⟨ha, hh⟩ := hh
    split
    · rename_i hw; simp only [hw, if_true] at hh; exact wpIn_of_quiet' (hd i o ho) hC h ha hh
    · rename_i hw; simp only [hw] at hh; exact ⟨ha w hC, h _ _ hC hh⟩

theorem wpAnyIn_of_quiet' {Q : Act → Prop} {Q' : Exit → Act → World → Prop} (hd : ∀ (i : Nat) (o : Oper), ops[i]? = some o → isDefer o.op = false) (hQ : ∀ a w, C w → Q a → Q' .normal a w) : ∀ (fuel : Nat) (listed : Array Bool) (a : Act) (w : World), C w →
    wpAnyQIn F n P md ops C Q fuel listed a → wpAnyIn F n P md ops Q' fuel listed a w
  | 0, _, _, _, hw, h => ⟨h.1, hQ _ _ hw h.2⟩
  | fuel + 1, _, _, _, hw, h => ⟨fun h0 => hQ _ _ hw (h.1 h0), fun i hi => wpOpIn_of_qOpIn' hd hw (fun a' w' hw' => wpAnyIn_of_quiet' hd hQ fuel _ a' w' hw') (h.2 i hi)⟩

theorem wpIn_region_quiet' {id : Nat} {Q : Exit → Act → World → Prop} {a : Act} {w : World} (hd : ∀ (i : Nat) (o : Oper), ops[i]? = some o → isDefer o.op = false) (hm : P.follows .mixedOrders = true) (hB : Region.lexB .any ops = true) (hC : C { w with drawn := w.drawn + 1 })
    (h : wpQuietIn F n P ops C (fun a' => ∀ w', C w' → Q .normal a' w') ops.toList a) : (Code.region id ops true).wpIn F n P Q a w := by
  simp only [Region.lexB, Bool.and_eq_true] at hB
  refine wpIn_region_any hm (wpAnyIn_of_quiet' (Q := fun a' => ∀ w', C w' → Q .normal a' w') hd (fun _ w' hw' h => h w' hw') _ _ _ _ hC ?_)
  have := wpAnyQIn_lex (F := F) (n := n) (C := C) (md := .any) hB.1 ops.toList 0 (Array.replicate ops.size false) a (by simp) (by simpa using hB.2) h
  simpa using this
end

theorem wpQuietIn_mono {F : Fence} {ops : Array Oper} {C : World → Prop} {Q Q' : Act → Prop} (h : ∀ a, Q a → Q' a) : ∀ (l : List Oper) (a : Act), wpQuietIn F n P ops C Q l a → wpQuietIn F n P ops C Q' l a
  | [], a, hh => h a hh
  | o :: l, a, hh => by
    simp only [wpQuietIn] at hh ⊢
    refine ⟨hh.1, ?_⟩
    have h2 := hh.2
    split
    · rename_i hw
      rw [if_pos hw] at h2
      exact Oper.quietIn_mono (wpQuietIn_mono h l) h2
    · rename_i hw
      rw [if_neg hw] at h2
      exact wpQuietIn_mono h l _ h2

theorem quiet_noDefer {op : Op} (h : quietOp op = true) : isDefer op = false := by cases op <;> first | rfl | (simp [quietOp] at h)

/-- a region that draws its order -/
theorem drawn_sound (hT : TOk P T) (hm : P.follows .mixedOrders = true) {cl : Bool} {call : CallFn R} (hcall : QCallOk P call) {id : Nat} {ops : Array Oper} (hok : regionOk ops = true) {K : St → Option R} {Q : Exit → Act → World → Prop}
    (h : evalOps T cl call ops K ops.toList st = some r) (hr : Rel W0 b0 rd c st a ats) (hQ : ∀ c' st' a', K st' = some r → Rel W0 b0 rd c' st' a' ats → c.Mono c' → Q .normal a' c'.w) :
    (Code.region id ops true).wpIn (FW rd) n P Q a c.w := by
  simp only [regionOk, Bool.and_eq_true] at hok
  have hq : ∀ o ∈ ops.toList, quietOp o.op = true := List.all_eq_true.1 hok.1
  refine wpIn_region_quiet' (C := Ext c) (fun i o ho => quiet_noDefer (hq o (by have := Array.mem_of_getElem? ho; simpa using this))) hm hok.2 ⟨rfl, rfl, rfl, Nat.le_refl _, fun _ _ => rfl⟩ ?_
  refine wpQuietIn_mono (fun a' ha' w' hw' => ?_) _ _ (ops_quiet (n := n) hT hcall ops ops.toList st a hq h hr)
  obtain ⟨st', h1, h2⟩ := ha'
  exact hQ (c.at_ w') st' a' h1 (h2.ext hw') (Cx.Le.ext hw').mono
end
end Go.Proofs.YtnmaceljkegenaaDoor
