/-
  The plain machine: values of one form; values without memory of our own; marks; results.
-/
import Derived.Test.YtnmaceljkegenaaDoorAt
namespace Go.Proofs.YtnmaceljkegenaaDoor
open Go.RowKit
set_option linter.unusedVariables false
set_option linter.unusedSimpArgs false

section
variable {P : Program} {T : TT} {W0 : World} {b0 : Nat} {rd : Option Nat} {R : Type} {r : R} {c : Cx} {ats : List (Array Value)}

/-! ### one form -/

/-! ### values without memory of ours -/

theorem src_cap (hok : c.Ok W0) {x : AVal} {e : Ty} {ys : List e.den} {u : Value} (h : x.as c.hp (.list e) = some ys) (hx : VRel c x u) {a : Option Addr} {m cp : Nat} (hu : u = .slice a m cp) : m ≤ cp := by
  subst hu
  cases x with
  | val t' z =>
    simp only [AVal.as] at h
    have e := castTy_ty h
    subst e
    simp only [VRel] at hx
    obtain ⟨a', n, zs, h1, h2, h3, h4⟩ := list_inv hx
    cases h1
    exact h2
  | nils =>
    simp only [VRel] at hx
    cases hx; omega
  | lst t' z b =>
    simp only [AVal.as] at h
    have e := castTy_ty h
    cases e
    simp only [VRel] at hx
    obtain ⟨a', n, zs, h1, h2, h3, h4⟩ := list_inv hx.1
    cases h1
    exact h2
  | emp =>
    simp only [VRel] at hx
    obtain ⟨a2, h2⟩ := hx
    cases h2; omega
  | slc id ver vw =>
    simp only [AVal.as, content] at h
    split at h
    · rename_i t' v xs harr
      replace h := bif_some h
      obtain ⟨hv, h⟩ := h
      have hv : v = ver := by simpa using hv
      subst hv
      simp only [VRel] at hx
      have hx1 := (hx.2.2 _ _ _ harr).2 rfl
      obtain ⟨_, e', zs, hown, hL, hty⟩ := hok.obj id _ harr
      obtain ⟨a0, cp0, hv, hn, hcell⟩ := row_form hown
      cases vw with
      | none =>
        simp only [ViewIs] at hx1
        rw [hv] at hx1
        cases hx1
        exact hn
      | some p =>
        obtain ⟨lo, hi⟩ := p
        simp only [ViewIs] at hx1
        obtain ⟨a', m', cp', hv', p1, p2, p3, hx1⟩ := hx1
        rw [hv] at hv'
        cases hv'
        cases hx1
        omega
    · cases h
  | agg l => simp [AVal.as, Ty.isAgg] at h
  | _ => simp [AVal.as] at h

/-- a place from which all blocks of the first are readable -/
def Sees (c cb : Cx) : Prop := ∀ b, b < c.w.heap.size → cb.free b ∧ cb.w.heap[b]? = c.w.heap[b]?

theorem list_sees (hok : c.Ok W0) {cb : Cx} (hs : Sees c cb) {x : AVal} {e : Ty} {ys : List e.den} {u : Value} (h : x.as c.hp (.list e) = some ys) (hx : VRel c x u) : VD cb (.list e) ys u := by
  obtain ⟨a, cp, zs, h1, h2, h3⟩ := src_rel hok h hx
  have h4 := src_cap hok h hx h1
  refine (VD.leaf rfl).2 ⟨a, cp, zs, by rw [h1], h4, LRel.mono (DRel.mono (fun b hb => hs b hb.1) e) _ _ h2, h3.imp id fun ⟨b, off, q1, q2, q3⟩ => ⟨b, off, q1, (hs b q2).1, q3.of_block (hs b q2).2⟩⟩

theorem asVal_rel (hok : c.Ok W0) {cb : Cx} (hs : Sees c cb) {v v' : AVal} {u : Value} (h : asVal c.hp v = some v') (hv : VRel c v u) : VRel cb v' u := by
  cases v with
  | val t x =>
    simp only [asVal, Option.some.injEq] at h
    subst h
    simp only [VRel] at hv ⊢
    exact ⟨fun e => let ⟨cs, h1, h2⟩ := hv.1 e; ⟨cs, h1, DRel.mono (fun b hb => hs b hb.1) t x _ h2⟩, fun e => DRel.mono (fun b hb => hs b hb.1) t x _ (hv.2 e)⟩
  | nils =>
    simp only [asVal, Option.some.injEq] at h
    subst h
    simpa only [VRel] using hv
  | slc id ver vw =>
    simp only [asVal] at h
    split at h
    · rename_i t w xs hg
      rw [cond_eq_ite] at h
      split at h
      · rename_i hver
        cases h
        simp only [VRel]
        refine list_sees hok hs (x := .slc id ver vw) ?_ hv
        simp only [AVal.as, content, hg, hver, cond_true, castTy_same]
      · cases h
    · cases h
  | _ => simp [asVal] at h

theorem asVals_rel (hok : c.Ok W0) {cb : Cx} (hs : Sees c cb) : ∀ (l l' : List AVal) (us : List Value), asVals c.hp l = some l' → VRels c l us → VRels cb l' us
  | [], l', [], h, _ => by simp only [asVals, Option.some.injEq] at h; subst h; simp [VRels]
  | v :: l, l', u :: us, h, hv => by
    simp only [asVals] at h
    split at h
    · rename_i v1 h1
      split at h
      · rename_i l1 h2
        cases h
        simp only [VRels] at hv ⊢
        exact ⟨asVal_rel hok hs h1 hv.1, asVals_rel hok hs l l1 us h2 hv.2⟩
      · cases h
    · cases h
  | [], _, _ :: _, _, hv => by simp [VRels] at hv
  | _ :: _, _, [], _, hv => by simp [VRels] at hv

/-- the bare place: nothing is our own -/
def Cx.base (c : Cx) (w : World) (bar : Nat → Prop) : Cx := ⟨c.mu, [], c.nxt, w, [], bar⟩

theorem base_ok {w : World} {bar : Nat → Prop} (hphi : Phi w) (hb : ∀ b, bar b → b < w.heap.size) : (c.base w bar).Ok w :=
  ⟨Below.refl _ _, fun id o h => by simp [Cx.base, hget] at h, fun i j o p b h => by simp [Cx.base, hget] at h, fun r hr => by simp [Cx.base] at hr, fun b h => ⟨hb b h, (by rintro ⟨i, o, h, _⟩; simp [Cx.base, hget] at h), by simp [Cx.base]⟩, hphi⟩

theorem base_free {w : World} {bar : Nat → Prop} {b : Nat} : (c.base w bar).free b ↔ b < w.heap.size ∧ ¬ bar b := by
  constructor
  · intro h; exact ⟨h.1, h.2.2.2⟩
  · rintro ⟨h1, h2⟩
    exact ⟨h1, (by rintro ⟨i, o, h, _⟩; simp [Cx.base, hget] at h), by simp [Cx.base], h2⟩

theorem base_rel {w : World} {bar : Nat → Prop} (hphi : Phi w) (hb : ∀ b, bar b → b < w.heap.size) {nx : Nat} (hn : nx = c.nxt) : Rel w 0 none (c.base w bar) ⟨[], [], [], nx⟩ ⟨#[], []⟩ [] :=
  ⟨rfl, hn.symm, base_ok hphi hb, by simp [VRels], trivial, ⟨[], rfl, List.nodup_nil, fun r hr => by simp at hr⟩, fun l hl => by cases hl⟩

/-! ### the marks at a function's end -/

theorem ORel.le0 {B : Nat} {c c' : Cx} {id : Nat} {o : AObj} (h : c.ORel B id o) (hl : c.Le0 c') (hm : c'.mu id = c.mu id) (hb : ∀ b, o.blk (c.mu id) = some b → c'.w.heap[b]? = c.w.heap[b]?) : c'.ORel B id o := by
  cases o with
  | box e cs =>
    obtain ⟨h1, vs, h2, h3, h4⟩ := h
    refine ⟨by rw [hm]; exact h1, vs, by rw [hm, hb _ rfl]; exact h2, VRels.le0 hl _ _ h3, h4⟩
  | arr t ver xs =>
    obtain ⟨h0, e, zs, h1, h2, h3⟩ := h
    refine ⟨h0, e, zs, ?_, LRel.mono (DRel.mono hl.free t) _ _ h2, h3⟩
    rw [hm]
    exact ownsRow_of_block h1 fun b hb' => hb b hb'
  | lp f fr ps asg bd ky n p =>
    obtain ⟨h0, h1, L, h2, h3, h4⟩ := h
    exact ⟨h0, by rw [hm]; exact h1, L, by rw [hm, hb _ rfl]; exact h2, VRels.le0 hl _ _ h3, h4⟩
  | dead => trivial
  | mp kk vk es =>
    obtain ⟨h1, ms, cl, h2, h3⟩ := h
    exact ⟨by rw [hm]; exact h1, ms, cl, by rw [hm, hb _ rfl]; exact h2, h3⟩

theorem Cx.Le0.trans {a b c : Cx} (h : a.Le0 b) (k : b.Le0 c) : a.Le0 c :=
  ⟨fun x hx => ⟨(k.out x (h.out x hx).1).1, (k.out x (h.out x hx).1).2.trans (h.out x hx).2⟩, fun i hi => k.ref i (h.ref i hi), fun i o hi ho => by
    obtain ⟨o1, h1, h2⟩ := k.obj i o (h.ref i hi) ho
    obtain ⟨o2, h3, h4⟩ := h.obj i o1 hi h1
    exact ⟨o2, h3, AObj.like_trans h4 h2⟩, k.bar.trans h.bar⟩

theorem take_marks {n : Nat} {fn : Func} {tmps : Array Value} {Rr : Ending → World → Prop} : ∀ (ds : List Nat) (c : Cx), c.Ok W0 → ds.Nodup → (∀ r ∈ ds, r ∈ c.mks) →
    ∃ c', c'.hp = c.hp ∧ c'.nxt = c.nxt ∧ c.Le0 c' ∧ c'.Ok W0 ∧ (∀ r ∈ c.mks, r ∉ ds → r ∈ c'.mks) ∧ (∀ (b : Nat) (L : Loop), c.w.heap[b]? = some (Obj.loop L) → ∃ L' : Loop, c'.w.heap[b]? = some (Obj.loop L')) ∧ c.w.heap.size ≤ c'.w.heap.size ∧ c'.bar = c.bar ∧
      (LeavesIn (FW none) n P fn tmps Rr [] .returning c'.w → LeavesInM (FW none) n P fn tmps Rr (ds.map mkD) .returning c.w)
  | [], c, hok, _, _ => ⟨c, rfl, rfl, (Cx.Le.refl c).le0, hok, fun r hr _ => hr, fun b L hL => ⟨L, hL⟩, Nat.le_refl _, rfl, fun h => h⟩
  | d :: ds, c, hok, hnd, hmem => by
    obtain ⟨hnd1, hnd2⟩ := List.nodup_cons.1 hnd
    have hd := hmem d (by simp)
    have hdk := hok.mks d hd
    have hlt := hok.mark_lt hd
    let c1 : Cx := { c with w := c.w.putObj d (.deferred none), mks := c.mks.filter fun r => r != d }
    have hother : ∀ b, b ≠ d → c1.w.heap[b]? = c.w.heap[b]? := fun b hb => World.putObj_heap_other hb
    have hle : c.Le0 c1 := ⟨fun b hb => ⟨⟨by simpa [c1] using hb.1, hb.2.1, (fun hm => hb.2.2 (List.mem_filter.1 hm).1)⟩, hother b fun e => hb.2.2 (e ▸ hd)⟩, fun _ h => h, fun id o _ ho => ⟨o, ho, o.like_refl _⟩, rfl⟩
    have hok1 : c1.Ok W0 := by
      refine ⟨⟨hok.bel.os, hok.bel.tape, hok.bel.output, by simpa [c1] using hok.bel.size, fun j hj => (hother j (by have := hdk.1; omega)).trans (hok.bel.block j hj)⟩, fun id o ho => ORel.le0 (hok.obj id o ho) hle rfl fun b hb => hother b fun e => ?_, hok.inj, fun r hr => ?_, fun b hb => (hle.out b (hok.bar b hb)).1, hok.phi⟩
      · subst e; exact (hok.obj id o ho).no_mark hb hdk.2
      · obtain ⟨hr1, hr2⟩ := List.mem_filter.1 hr
        have hr2 : r ≠ d := by simpa using hr2
        exact ⟨(hok.mks r hr1).1, (hother r hr2).trans (hok.mks r hr1).2⟩
    obtain ⟨c2, e1, e2, e3, e4, e5, e6, e7, ebar, e8⟩ := take_marks (n := n) (fn := fn) (tmps := tmps) (Rr := Rr) ds c1 hok1 hnd2 fun r hr => List.mem_filter.2 ⟨hmem r (by simp [hr]), by
      have : r ≠ d := fun e => hnd1 (e ▸ hr)
      simpa using this⟩
    refine ⟨c2, e1, e2, hle.trans e3, e4, fun r hr hr2 => ?_, fun b L hL => ?_, ?_, ebar, fun h => ?_⟩
    · simp only [List.mem_cons, not_or] at hr2
      exact e5 r (List.mem_filter.2 ⟨hr, by simpa using hr2.1⟩) hr2.2
    · have : b ≠ d := fun e => by subst e; rw [hdk.2] at hL; cases hL
      exact e6 b L ((hother b this).trans hL)
    · have : c.w.heap.size = c1.w.heap.size := by simp [c1]
      omega
    · exact ⟨by simp, .inl ⟨d, _, rfl, run_takeDeferred hdk.2, e8 h⟩⟩

/-! ### results -/

theorem load_var {t : TypeId} {v u : Value} {w w' : World} (h : (Instr.loadAt t v).run P w = .ok u w') : (do loadVar t (← asAddr v) : Sem Value).run P w = .ok u w' := by
  unfold Instr.loadAt at h
  cases v <;> try (simp [Instr.sureAddr, stuck, Sem.run_bind, Result.andThen] at h; done)
  rename_i p
  cases p <;> first | exact h | (simp [Instr.sureAddr, stuck, Sem.run_bind, Result.andThen] at h)

def resOne (tmps : Array Value) : ResultVar → Sem Value
  | .tmp t => pure (tmps.getD t undef)
  | .cell a t => do loadVar t (← asAddr (tmps.getD a undef))

theorem resultsOf_rel (hT : TOk P T) (hok : c.Ok W0) {st : St} {tmps : Array Value} (hhp : c.hp = st.hp) (hfr : VRels c st.fr tmps.toList) : ∀ (l : List ResultVar) (K : List AVal → Option R), resultsOf T st l K = some r →
    ∃ vs us, K vs = some r ∧ VRels c vs us ∧ (l.mapM (resOne tmps)).run P c.w = .ok us c.w
  | [], K, h => ⟨[], [], h, by simp [VRels], rfl⟩
  | .tmp t :: l, K, h => by
    simp only [resultsOf] at h
    obtain ⟨vs, us, h1, h2, h3⟩ := resultsOf_rel hT hok hhp hfr l _ h
    refine ⟨_, tmps.getD t undef :: us, h1, by simp only [VRels]; exact ⟨hfr.getD t, h2⟩, ?_⟩
    simp only [List.mapM_cons, Sem.run_bind, resOne, Sem.run_pure, Result.andThen_ok, h3]
  | .cell a t :: l, K, h => by
    simp only [resultsOf] at h
    rw [← hhp] at h
    obtain ⟨z, u, h1, h2, h3⟩ := q_load hT hok h (hfr.getD a)
    obtain ⟨vs, us, h4, h5, h6⟩ := resultsOf_rel hT hok hhp hfr l _ h1
    refine ⟨_, u :: us, h4, by simp only [VRels]; exact ⟨h2, h5⟩, ?_⟩
    have h7 := load_var (h3 c.w (Below.refl _ _))
    simp only [List.mapM_cons, Sem.run_bind, resOne] at h7 ⊢
    rw [h7]
    simp only [Result.andThen_ok, Sem.run_bind, h6, Sem.run_pure]

def resV : List Value → Value
  | [v] => v
  | vs => .tuple vs.toArray

theorem resA_rel {vs : List AVal} {us : List Value} (h : VRels c vs us) : VRel c (resA vs) (resV us) := by
  match vs, us, h with
  | [], [], h => simp only [resA, resV, VRel]; exact ⟨_, rfl, by simp [VRels]⟩
  | [v], [u], h => simpa [resA, resV, VRels] using h
  | v :: v2 :: vs, u :: u2 :: us, h => simp only [resA, resV, VRel]; exact ⟨_, rfl, by simpa using h⟩
  | [], _ :: _, h => simp [VRels] at h
  | _ :: _, [], h => simp [VRels] at h
  | [_], _ :: _ :: _, h => simp [VRels] at h
  | _ :: _ :: _, [_], h => simp [VRels] at h

theorem results_run {fn : Func} {tmps : Array Value} {us : List Value} {w : World} (h : (fn.results.toList.mapM (resOne tmps)).run P w = .ok us w) : (results fn tmps).run P w = .ok (resV us) w := by
  have e : results fn tmps = (do let vs ← fn.results.mapM (resOne tmps); pure (if h : vs.size = 1 then vs[0] else .tuple vs)) := rfl
  have h2 : (fn.results.mapM (resOne tmps)).run P w = .ok us.toArray w := by
    rw [Array.mapM_eq_mapM_toList, Sem.run_map, h]
    rfl
  rw [e, Sem.run_bind, h2]
  match us with
  | [] => rfl
  | [v] => rfl
  | v :: v2 :: vs => rfl
end
end Go.Proofs.YtnmaceljkegenaaDoor
