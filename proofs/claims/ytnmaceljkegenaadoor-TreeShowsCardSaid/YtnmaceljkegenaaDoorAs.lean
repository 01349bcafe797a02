/-
  The plain machine: code.
-/
import Derived.Test.YtnmaceljkegenaaDoorAqa
import Derived.RangeFuncNested
import Derived.RangeFuncRecord
import Derived.Sort.LoopGhostIn
namespace Go.Proofs.YtnmaceljkegenaaDoor
open Go.RowKit
set_option linter.unusedVariables false
set_option linter.unusedSimpArgs false

/-- calls -/
def CallsOk {R : Type} (P : Program) (W0 : World) (ex : ExecFn R) : Prop :=
  ∀ (f : FuncId) (args : List AVal) (st : St) (K : AVal → St → Option R) (r : R), ex (.call f args) st K = some r →
    ∀ (b0 : Nat) (rd : Option Nat) (c : Cx) (a : Act) (ats : List (Array Value)) (args' : Array Value), Rel W0 b0 rd c st a ats → VRels c args args'.toList →
      ∀ Rr : Ending → World → Prop, (∀ c' z u st', K z st' = some r → Rel W0 b0 rd c' st' a ats → VRel c' z u → c.Mono c' → Rr (.returned u) c'.w) →
        (callFunc f args').run P c.w = .ok (.enter f args') c.w ∧ Calls P f args' c.w Rr

section
variable {P : Program} {T : TT} {W0 : World} {b0 n : Nat} {rd : Option Nat} {c : Cx} {R : Type} {r : R} {st : St} {a : Act} {ats : List (Array Value)}

def Ex.xt : Ex → Exit
  | .normal => .normal
  | .exit i => .exit i
  | .goto l => .goto l
  | .ret => .ret

/-! ### scopes -/
section
variable {F : Fence} {b : Frame} {k : List Item} {cs : List Frame} {w : World} {Q : Exit → Act → World → Prop}

theorem stepR_scope {x : Code} : step P (lone (b.atR a (.code (.scope x) :: k)) cs w) = .next (lone (b.atR a (.code x :: .inScope x :: k)) cs w) :=
  step_lone_go (by simp [stepG, stepG.exec, Frame.atR])
theorem stepR_inScope {x : Code} : step P (lone (b.atR a (.inScope x :: k)) cs w) = .next (lone (b.atR a k) cs w) :=
  step_lone_go (by simp [stepG, stepG.exec, Frame.atR])

theorem wpIn_scope {x : Code} (h : x.wpIn F n P (fun e a w => (∀ l, e ≠ .goto l) ∧ Q e a w) a w) : (Code.scope x).wpIn F n P Q a w := by
  intro b k cs hro hb hr
  have h0 : (lone (b.atR a (.code (.scope x) :: k)) cs w).fenced P F := fenced_calm hb hr rfl
  obtain ⟨e, a₁, w₁, ⟨hng, hq⟩, harr⟩ := h b (.inScope x :: k) cs hro hb hr
  cases e with
  | normal => exact ⟨.normal, a₁, w₁, hq, .head h0 stepR_scope (StepsIn.trans harr (.one (fenced_calm hb hr rfl) stepR_inScope))⟩
  | exit id' =>
    have hx : exitTo id' (.inScope x :: k) = exitTo id' k := by simp [exitTo]
    exact ⟨.exit id', a₁, w₁, hq, fun k' hk => .head h0 stepR_scope (harr.1 k' (by rw [hx]; exact hk)),
      fun hr' hk => let ⟨k₁, h1, h2⟩ := harr.2 hr' (by rw [hx]; exact hk); ⟨k₁, h1, .head h0 stepR_scope h2⟩⟩
  | goto l => exact absurd rfl (hng l)
  | ret => exact ⟨_, a₁, w₁, hq, .of_steps (.one h0 stepR_scope) harr⟩
  | panic ch => exact ⟨_, a₁, w₁, hq, .of_steps (.one h0 stepR_scope) harr⟩
  | outgrown => exact ⟨_, a₁, w₁, hq, .of_steps (.one h0 stepR_scope) harr⟩
end

/-! ### ranges over functions -/

/-- the block for deferred calls of rounds -/
theorem new_mark (hok : c.Ok W0) : c.Le { c with w := c.w.alloc (.deferred (some [])), mks := c.w.heap.size :: c.mks } ∧ ({ c with w := c.w.alloc (.deferred (some [])), mks := c.w.heap.size :: c.mks } : Cx).Ok W0 := by
  have hb := below_alloc c.w (.deferred (some []))
  have hle : c.Le { c with w := c.w.alloc (.deferred (some [])), mks := c.w.heap.size :: c.mks } :=
    ⟨fun b hf => ⟨⟨Nat.lt_of_lt_of_le hf.1 hb.size, hf.2.1, by
        intro hm
        rcases List.mem_cons.1 hm with e | e
        · have := hf.1; omega
        · exact hf.2.2 e⟩, hb.block b hf.1⟩, fun _ h => h, fun id o _ ho => ⟨o, ho, o.like_refl _⟩, fun r hr => List.mem_cons_of_mem _ hr, fun b L hL => ⟨L, (hb.block b (Array.getElem?_eq_some_iff.1 hL).1).trans hL⟩, hb.size, rfl⟩
  refine ⟨hle, ⟨hok.bel.trans (hb.mono hok.size), fun id o ho => (hok.obj id o ho).le hle rfl fun b hb' => hb.block b ((hok.obj id o ho).lt hb').2, hok.inj, fun r hr => ?_, fun b hb => (hle.out b (hok.bar b hb)).1, hok.phi⟩⟩
  rcases List.mem_cons.1 hr with e | e
  · subst e; exact ⟨hok.size, World.alloc_heap_new _ _⟩
  · exact ⟨(hok.mks r e).1, (hb.block r (hok.mark_lt e)).trans (hok.mks r e).2⟩

/-- the record of a range -/
theorem new_lp (hok : c.Ok W0) {st : St} (h1 : c.hp = st.hp) (h2 : c.nxt = st.nxt) {id n' : Nat} (h3 : hget st.hp id = none) (h4 : st.nxt ≤ id) (h5 : st.nxt ≤ n') {f : FuncId} {fr : List AVal} {L : Loop} (hv : VRels c fr L.tmps.toList) (hs : L.state = .ready) (hp : L.pending = none) {ky : Option Nat} (hky : ∀ k, ky = some k → rfTab f k = some (L.assign, L.body)) :
    ∃ c', Did W0 c st c' { st with hp := (id, .lp f fr L.params.toList L.assign L.body ky 0 none) :: st.hp, nxt := n' } ∧ c'.w = c.w.alloc (.loop L) ∧ VRel c' (.yld id) (.func (.yield c.w.heap.size) #[] #[]) ∧ c'.mks = c.mks := by
  have hk := not_known h1 h2 h3 h4
  have hb := below_alloc c.w (.loop L)
  have hl : ∀ b, AObj.blk (.lp f fr L.params.toList L.assign L.body ky 0 none) ⟨c.w.heap.size, undef⟩ = some b → c.w.heap.size ≤ b := fun b hb => by
    simp only [AObj.blk, Option.some.injEq] at hb; omega
  have hle := Cx.Le.push (o := .lp f fr L.params.toList L.assign L.body ky 0 none) (l := ⟨c.w.heap.size, undef⟩) (nxt := n') (w := c.w.alloc (.loop L)) hk (by omega) hb.size hb.block hl
  have ho : (c.push id (.lp f fr L.params.toList L.assign L.body ky 0 none) ⟨c.w.heap.size, undef⟩ n' (c.w.alloc (.loop L))).ORel W0.heap.size id (.lp f fr L.params.toList L.assign L.body ky 0 none) := by
    refine ⟨hky, by simp [Cx.push, upd_same]; exact hok.size, L, ?_, VRels.le hle _ _ hv, rfl, rfl, rfl, hs, hp⟩
    simp only [Cx.push, upd_same]
    exact World.alloc_heap_new c.w _
  refine ⟨_, ⟨?_, rfl, rfl, rfl, hok.push hk (by omega) hb hl ho, hle⟩, rfl, ?_, rfl⟩
  · simp [Cx.push, h1]
  · simp only [VRel]
    refine ⟨rfl, .inl ⟨_, by simp [Cx.push, hget_cons]; rfl⟩, fun _ _ _ _ _ _ _ _ _ => by simp [Cx.push, upd_same]⟩

/-- a record is written -/
theorem set_lp (hok : c.Ok W0) {id : Nat} {f : FuncId} {fr : List AVal} {ps : List Nat} {asg bd : Code} {ky : Option Nat} {k : Nat} {p : Option Ex} (hg : hget c.hp id = some (.lp f fr ps asg bd ky k p)) {L : Loop} (hL : c.w.heap[(c.mu id).blk]? = some (.loop L)) (L' : Loop)
    {o' : AObj} (ho' : o' = .dead ∨ (∃ k' p', o' = .lp f fr ps asg bd ky k' p' ∧ LoopIs k' p' L' ∧ L'.tmps = L.tmps ∧ L'.params = L.params ∧ L'.assign = L.assign ∧ L'.body = L.body)) :
    ∃ c', c'.hp = hset c.hp id o' ∧ c'.nxt = c.nxt ∧ c.Le c' ∧ c'.Ok W0 ∧ c'.w = c.w.putObj (c.mu id).blk (.loop L') ∧ c'.mks = c.mks := by
  have hlt : (c.mu id).blk < c.w.heap.size := (Array.getElem?_eq_some_iff.1 hL).1
  obtain ⟨hky, hB, L0, hL0, hv, e1, e2, e3, e4⟩ := hok.obj id _ hg
  rw [hL] at hL0
  have eL : L0 = L := by cases hL0; rfl
  subst eL
  have hk : (AObj.lp f fr ps asg bd ky k p).like (c.mu id) o' (c.mu id) := by
    rcases ho' with rfl | ⟨k', p', rfl, _⟩ <;> simp [AObj.like]
  have hs : c.w.heap.size ≤ (c.w.putObj (c.mu id).blk (.loop L')).heap.size := by simp
  have hb : ∀ b, b < c.w.heap.size → (AObj.lp f fr ps asg bd ky k p).blk (c.mu id) ≠ some b → (c.w.putObj (c.mu id).blk (.loop L')).heap[b]? = c.w.heap[b]? := fun b _ hne =>
    World.putObj_heap_other fun e => hne (by rw [e]; rfl)
  have hl : ∀ b, o'.blk (c.mu id) = some b → (AObj.lp f fr ps asg bd ky k p).blk (c.mu id) = some b ∨ c.w.heap.size ≤ b := fun b hb => by
    rcases ho' with rfl | ⟨k', p', rfl, _⟩
    · cases hb
    · exact .inl hb
  have hlp : ∀ (b : Nat) (L1 : Loop), (AObj.lp f fr ps asg bd ky k p).blk (c.mu id) = some b → c.w.heap[b]? = some (Obj.loop L1) → ∃ L2 : Loop, (c.w.putObj (c.mu id).blk (.loop L')).heap[b]? = some (Obj.loop L2) := fun b L1 hb _ => by
    simp only [AObj.blk, Option.some.injEq] at hb
    subst hb
    exact ⟨L', World.putObj_heap_same hlt⟩
  have hw : Below W0.heap.size W0 (c.w.putObj (c.mu id).blk (.loop L')) :=
    ⟨hok.bel.os, hok.bel.tape, hok.bel.output, by simpa using hok.bel.size, fun j hj => (World.putObj_heap_other (by omega)).trans (hok.bel.block j hj)⟩
  have hle := Cx.Le.put hok hg hk hs hb hl hlp
  refine ⟨c.put id o' (c.mu id) (c.w.putObj (c.mu id).blk (.loop L')), rfl, rfl, hle, Cx.Ok.put hok hg hk hw hs hb hl hlp ?_, rfl, rfl⟩
  rcases ho' with rfl | ⟨k', p', rfl, h1, h2, h3, h4, h5⟩
  · trivial
  · refine ⟨hky, by simp only [Cx.put, upd_same]; exact hB, L', ?_, VRels.le hle _ _ (by rw [h2]; exact hv), by rw [h3]; exact e1, by rw [h4]; exact e2, by rw [h5]; exact e3, h1⟩
    simp only [Cx.put, upd_same]
    exact World.putObj_heap_same hlt
end
end Go.Proofs.YtnmaceljkegenaaDoor
