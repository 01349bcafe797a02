/-
  The plain machine: things in memory.
-/
import Derived.Test.YtnmaceljkegenaaDoorAb
import Derived.Test.YtnmaceljkegenaaDoorA0
namespace Go.Proofs.YtnmaceljkegenaaDoor
open Go.RowKit
set_option linter.unusedVariables false
set_option linter.unusedSimpArgs false

theorem Cx.Le.trans {a b c : Cx} (h : a.Le b) (k : b.Le c) : a.Le c :=
  ⟨fun x hx => ⟨(k.out x (h.out x hx).1).1, (k.out x (h.out x hx).1).2.trans (h.out x hx).2⟩, fun i hi => k.ref i (h.ref i hi), fun i o hi ho => by
    obtain ⟨p, h1, h2⟩ := k.obj i o (h.ref i hi) ho
    obtain ⟨q, h3, h4⟩ := h.obj i p hi h1
    exact ⟨q, h3, AObj.like_trans h4 h2⟩, fun r hr => k.mks r (h.mks r hr), fun b L hL => let ⟨L1, h1⟩ := h.lp b L hL; k.lp b L1 h1, Nat.le_trans h.size k.size, k.bar.trans h.bar⟩

theorem hget_cons (k : Nat) (o : AObj) (h : Heap) (i : Nat) : hget ((k, o) :: h) i = if k = i then some o else hget h i := by
  simp only [hget]
  by_cases e : k = i
  · subst e; simp
  · have : (k == i) = false := by simpa using e
    simp [this, e]

theorem hget_hset : ∀ (h : Heap) (i : Nat) (o : AObj) (j : Nat), hget (hset h i o) j = if i = j then (hget h i).map fun _ => o else hget h j
  | [], i, o, j => by simp [hset, hget]
  | (k, p) :: h, i, o, j => by
    simp only [hset]
    by_cases e : k = i
    · subst e
      simp only [beq_self_eq_true, cond_true, hget_cons]
      by_cases e2 : k = j
      · simp [e2]
      · simp [e2]
    · have e' : (k == i) = false := by simpa using e
      simp only [e', cond_false, hget_cons, hget_hset h i o j]
      by_cases e2 : k = j
      · subst e2
        have : ¬ i = k := fun x => e x.symm
        simp [this]
      · simp [e2, e]

theorem hget_hset_same {h : Heap} {i : Nat} {o p : AObj} (hi : hget h i = some p) : hget (hset h i o) i = some o := by rw [hget_hset]; simp [hi]
theorem hget_hset_ne {h : Heap} {i j : Nat} {o : AObj} (hi : i ≠ j) : hget (hset h i o) j = hget h j := by rw [hget_hset]; simp [hi]

def upd (mu : Nat → Loc) (id : Nat) (l : Loc) : Nat → Loc := fun j => if j = id then l else mu j
theorem upd_same (mu : Nat → Loc) (id : Nat) (l : Loc) : upd mu id l id = l := by simp [upd]
theorem upd_ne (mu : Nat → Loc) {id j : Nat} (l : Loc) (h : j ≠ id) : upd mu id l j = mu j := by simp [upd, h]

def Ex.code : Ex → Option Code
  | .normal => none
  | .exit id => some (.exit id)
  | .goto l => some (.goto l)
  | .ret => some .ret

def LoopIs : Nat → Option Ex → Loop → Prop
  | 0, none, L => L.state = .ready ∧ L.pending = none
  | 1, some e, L => L.state = .done ∧ L.pending = e.code ∧ e.code ≠ none
  | 2, none, L => L.state = .busy
  | _, _, _ => False

/-- what a thing of the plain memory says of the memory; B: from there on blocks are our own -/
def Cx.ORel (B : Nat) (c : Cx) (id : Nat) : AObj → Prop
  | .box e cs => B ≤ (c.mu id).blk ∧ ∃ vs, c.w.heap[(c.mu id).blk]? = some (.cells vs e (0, 0)) ∧ VRels c cs vs.toList ∧ ∀ u ∈ vs.toList, u.oneCell' = true
  | .arr t ver xs => 0 < t.size ∧ ∃ e zs, c.w.ownsRow B e t.size (c.mu id).v xs.length zs ∧ LRel (DRel c.w c.free t) t.size xs zs ∧ (t = .int .u8 → e = byteTy)
  | .lp f fr ps asg bd ky n p => (∀ k, ky = some k → rfTab f k = some (asg, bd)) ∧ B ≤ (c.mu id).blk ∧ ∃ L : Loop, c.w.heap[(c.mu id).blk]? = some (Obj.loop L) ∧ VRels c fr L.tmps.toList ∧ L.params.toList = ps ∧ L.assign = asg ∧ L.body = bd ∧ LoopIs n p L
  | .dead => True
  | .mp kk vk es => B ≤ (c.mu id).blk ∧ ∃ ms clock, c.w.heap[(c.mu id).blk]? = some (.map ms clock) ∧ ms.toList.map (fun e => (e.key, e.val)) = es.map fun p => (Value.int kk p.1, Value.int vk p.2)

structure Cx.Ok (W0 : World) (c : Cx) : Prop where
  bel : Below W0.heap.size W0 c.w
  obj : ∀ id o, hget c.hp id = some o → c.ORel W0.heap.size id o
  inj : ∀ i j o p b, hget c.hp i = some o → hget c.hp j = some p → o.blk (c.mu i) = some b → p.blk (c.mu j) = some b → i = j
  mks : ∀ r, r ∈ c.mks → W0.heap.size ≤ r ∧ c.w.heap[r]? = some (.deferred (some []))
  bar : ∀ b, c.bar b → c.out b
  phi : Phi W0

theorem Cx.Ok.phiw {W0 : World} {c : Cx} (h : c.Ok W0) : Phi c.w := Phi.below h.bel h.phi

theorem Cx.ORel.lt {B : Nat} {c : Cx} {id : Nat} {o : AObj} (h : c.ORel B id o) {b : Nat} (hb : o.blk (c.mu id) = some b) : B ≤ b ∧ b < c.w.heap.size := by
  cases o with
  | box e cs =>
    simp only [AObj.blk, Option.some.injEq] at hb
    subst hb
    obtain ⟨h1, vs, h2, _⟩ := h
    exact ⟨h1, (Array.getElem?_eq_some_iff.1 h2).1⟩
  | arr t ver xs =>
    simp only [AObj.blk] at hb
    obtain ⟨_, e, zs, h1, _⟩ := h
    exact World.ownsRow.lt h1 b hb
  | lp _ _ _ _ _ _ _ _ =>
    simp only [AObj.blk, Option.some.injEq] at hb
    subst hb
    obtain ⟨_, h1, L, h2, _⟩ := h
    exact ⟨h1, (Array.getElem?_eq_some_iff.1 h2).1⟩
  | dead => cases hb
  | mp _ _ _ =>
    simp only [AObj.blk, Option.some.injEq] at hb
    subst hb
    obtain ⟨h1, ms, cl, h2, _⟩ := h
    exact ⟨h1, (Array.getElem?_eq_some_iff.1 h2).1⟩

/-- a block of our own bears no mark -/
theorem Cx.ORel.no_mark {B : Nat} {c : Cx} {id : Nat} {o : AObj} (h : c.ORel B id o) {b : Nat} (hb : o.blk (c.mu id) = some b) {d : Option (List Deferred)} : c.w.heap[b]? ≠ some (.deferred d) := by
  intro hd
  cases o with
  | box e cs =>
    simp only [AObj.blk, Option.some.injEq] at hb
    subst hb
    obtain ⟨h1, vs, h2, _⟩ := h
    rw [h2] at hd; cases hd
  | arr t ver xs =>
    simp only [AObj.blk] at hb
    obtain ⟨_, e, zs, h1, _⟩ := h
    rcases h1.2 with ⟨e1, _⟩ | ⟨g, cap, cur, e1, _, e2, _⟩
    · rw [e1] at hb; cases hb
    · rw [e1] at hb; cases hb; rw [e2] at hd; cases hd
  | lp _ _ _ _ _ _ _ _ =>
    simp only [AObj.blk, Option.some.injEq] at hb
    subst hb
    obtain ⟨_, h1, L, h2, _⟩ := h
    rw [h2] at hd; cases hd
  | dead => cases hb
  | mp _ _ _ =>
    simp only [AObj.blk, Option.some.injEq] at hb
    subst hb
    obtain ⟨h1, ms, cl, h2, _⟩ := h
    rw [h2] at hd; cases hd

/-- a row of cells is no loop -/
theorem Cx.ORel.no_loop {B : Nat} {c : Cx} {id : Nat} {o : AObj} (h : c.ORel B id o) (ho : ∀ f fr ps asg bd ky n p, o ≠ .lp f fr ps asg bd ky n p) {b : Nat} (hb : o.blk (c.mu id) = some b) {L : Loop} : c.w.heap[b]? ≠ some (Obj.loop L) := by
  intro hd
  cases o with
  | box e cs =>
    simp only [AObj.blk, Option.some.injEq] at hb
    subst hb
    obtain ⟨h1, vs, h2, _⟩ := h
    rw [h2] at hd; cases hd
  | arr t ver xs =>
    simp only [AObj.blk] at hb
    obtain ⟨_, e, zs, h1, _⟩ := h
    rcases h1.2 with ⟨e1, _⟩ | ⟨g, cap, cur, e1, _, e2, _⟩
    · rw [e1] at hb; cases hb
    · rw [e1] at hb; cases hb; rw [e2] at hd; cases hd
  | lp _ _ _ _ _ _ _ _ => exact ho _ _ _ _ _ _ _ _ rfl
  | dead => cases hb
  | mp _ _ _ =>
    simp only [AObj.blk, Option.some.injEq] at hb
    subst hb
    obtain ⟨h1, ms, cl, h2, _⟩ := h
    rw [h2] at hd; cases hd

theorem Cx.Ok.mark_lt {W0 : World} {c : Cx} (h : c.Ok W0) {r : Nat} (hr : r ∈ c.mks) : r < c.w.heap.size := (Array.getElem?_eq_some_iff.1 (h.mks r hr).2).1

theorem Cx.Ok.mark_own {W0 : World} {c : Cx} (h : c.Ok W0) {r : Nat} (hr : r ∈ c.mks) : ¬ c.own r := by
  rintro ⟨id, o, h1, h2⟩
  exact (h.obj id o h1).no_mark h2 (h.mks r hr).2

theorem Cx.Ok.own_lt {W0 : World} {c : Cx} (h : c.Ok W0) {b : Nat} (hb : c.own b) : W0.heap.size ≤ b ∧ b < c.w.heap.size := by
  obtain ⟨id, o, h1, h2⟩ := hb
  exact (h.obj id o h1).lt h2

theorem Cx.Ok.size {W0 : World} {c : Cx} (h : c.Ok W0) : W0.heap.size ≤ c.w.heap.size := h.bel.size

/-- blocks of old are readable -/
theorem Cx.Ok.free_old {W0 : World} {c : Cx} (h : c.Ok W0) {b : Nat} (hb : b < W0.heap.size) (hbar : ¬ c.bar b) : c.free b :=
  ⟨Nat.lt_of_lt_of_le hb h.size, fun ho => by have := (h.own_lt ho).1; omega, fun hm => by have := (h.mks b hm).1; omega, hbar⟩

theorem ownsRow_of_block {w w' : World} {B : Nat} {e : TypeId} {size n : Nat} {v : Value} {xs : List Value} (h : w.ownsRow B e size v n xs) (hb : ∀ b, v.ownBlock = some b → w'.heap[b]? = w.heap[b]?) : w'.ownsRow B e size v n xs := by
  refine ⟨h.1, ?_⟩
  rcases h.2 with h2 | ⟨g, cap, cur, h1, h2, h3, h4⟩
  · exact .inl h2
  · refine .inr ⟨g, cap, cur, h1, h2, ?_, h4⟩
    rw [hb g (by rw [h1]; rfl)]; exact h3

theorem Cx.ORel.le {B : Nat} {c c' : Cx} {id : Nat} {o : AObj} (h : c.ORel B id o) (hl : c.Le c') (hm : c'.mu id = c.mu id) (hb : ∀ b, o.blk (c.mu id) = some b → c'.w.heap[b]? = c.w.heap[b]?) : c'.ORel B id o := by
  cases o with
  | box e cs =>
    obtain ⟨h1, vs, h2, h3, h4⟩ := h
    refine ⟨by rw [hm]; exact h1, vs, by rw [hm, hb _ rfl]; exact h2, VRels.le hl _ _ h3, h4⟩
  | arr t ver xs =>
    obtain ⟨h0, e, zs, h1, h2, h3⟩ := h
    refine ⟨h0, e, zs, ?_, LRel.mono (DRel.mono hl.free t) _ _ h2, h3⟩
    rw [hm]
    exact ownsRow_of_block h1 fun b hb' => hb b hb'
  | lp f fr ps asg bd ky n p =>
    obtain ⟨h0, h1, L, h2, h3, h4⟩ := h
    exact ⟨h0, by rw [hm]; exact h1, L, by rw [hm, hb _ rfl]; exact h2, VRels.le hl _ _ h3, h4⟩
  | dead => trivial
  | mp kk vk es =>
    obtain ⟨h1, ms, cl, h2, h3⟩ := h
    exact ⟨by rw [hm]; exact h1, ms, cl, by rw [hm, hb _ rfl]; exact h2, h3⟩

/-! ### the world goes on, and nothing that was there has turned -/

def Cx.at_ (c : Cx) (w : World) : Cx := { c with w := w }

theorem Cx.Le.ext {c : Cx} {w : World} (h : Below c.w.heap.size c.w w) : c.Le (c.at_ w) :=
  ⟨fun b hb => ⟨⟨Nat.lt_of_lt_of_le hb.1 h.size, hb.2⟩, h.block b hb.1⟩, fun _ h => h, fun id o _ ho => ⟨o, ho, o.like_refl _⟩, fun _ h => h,
    fun b L hL => ⟨L, (h.block b (Array.getElem?_eq_some_iff.1 hL).1).trans hL⟩, h.size, rfl⟩

theorem Cx.Ok.ext {W0 : World} {c : Cx} {w : World} (hc : c.Ok W0) (h : Below c.w.heap.size c.w w) : (c.at_ w).Ok W0 :=
  ⟨hc.bel.trans (h.mono hc.size), fun id o ho => (hc.obj id o ho).le (Cx.Le.ext h) rfl fun b hb => h.block b ((hc.obj id o ho).lt hb).2, hc.inj,
    fun r hr => ⟨(hc.mks r hr).1, (h.block r (hc.mark_lt hr)).trans (hc.mks r hr).2⟩, fun b hb => ((Cx.Le.ext h).out b (hc.bar b hb)).1, hc.phi⟩

/-! ### a new thing -/

def Cx.push (c : Cx) (id : Nat) (o : AObj) (l : Loc) (nxt : Nat) (w : World) : Cx := ⟨upd c.mu id l, (id, o) :: c.hp, nxt, w, c.mks, c.bar⟩

theorem Cx.Le.push {c : Cx} {id : Nat} {o : AObj} {l : Loc} {nxt : Nat} {w : World} (h0 : ¬ c.known id) (hn : c.nxt ≤ nxt) (hs : c.w.heap.size ≤ w.heap.size)
    (hb : ∀ b, b < c.w.heap.size → w.heap[b]? = c.w.heap[b]?) (hl : ∀ b, o.blk l = some b → c.w.heap.size ≤ b) : c.Le (c.push id o l nxt w) := by
  have hk : ∀ j, c.known j → j ≠ id := fun j hj e => h0 (e ▸ hj)
  refine ⟨fun b hf => ⟨⟨Nat.lt_of_lt_of_le hf.1 hs, ?_, hf.2.2⟩, hb b hf.1⟩, fun j hj => ?_, fun j p hj hp => ?_, fun _ h => h, fun b L hL => ⟨L, (hb b (Array.getElem?_eq_some_iff.1 hL).1).trans hL⟩, hs, rfl⟩
  · rintro ⟨j, p, h1, h2⟩
    simp only [Cx.push, hget_cons] at h1 h2
    split at h1
    · rename_i e
      subst e
      cases h1
      rw [upd_same] at h2
      have := hl b h2
      have := hf.1
      omega
    · rename_i e
      rw [upd_ne _ _ (Ne.symm e)] at h2
      exact hf.2.1 ⟨j, p, h1, h2⟩
  · rcases hj with ⟨p, hp⟩ | hj
    · left
      simp only [Cx.push, hget_cons]
      split
      · exact ⟨_, rfl⟩
      · exact ⟨p, hp⟩
    · right; exact Nat.lt_of_lt_of_le hj hn
  · have hne := hk j hj
    simp only [Cx.push, hget_cons, if_neg (Ne.symm hne)] at hp ⊢
    exact ⟨p, hp, by rw [upd_ne _ _ hne]; exact p.like_refl _⟩

theorem Cx.Ok.push {W0 : World} {c : Cx} {id : Nat} {o : AObj} {l : Loc} {nxt : Nat} {w : World} (hc : c.Ok W0) (h0 : ¬ c.known id) (hn : c.nxt ≤ nxt) (h : Below c.w.heap.size c.w w)
    (hl : ∀ b, o.blk l = some b → c.w.heap.size ≤ b) (ho : (c.push id o l nxt w).ORel W0.heap.size id o) : (c.push id o l nxt w).Ok W0 := by
  have hle := Cx.Le.push (o := o) h0 hn h.size h.block hl
  have hk : ∀ j p, hget c.hp j = some p → j ≠ id := fun j p hj e => h0 (e ▸ .inl ⟨p, hj⟩)
  refine ⟨hc.bel.trans (h.mono hc.size), fun j p hp => ?_, fun i j p q b h1 h2 h3 h4 => ?_, fun r hr => ⟨(hc.mks r hr).1, (h.block r (hc.mark_lt hr)).trans (hc.mks r hr).2⟩, fun b hb => (hle.out b (hc.bar b hb)).1, hc.phi⟩
  · by_cases e : j = id
    · subst e
      have : p = o := by simpa [Cx.push, hget_cons] using hp.symm
      subst this; exact ho
    · have hp' : hget c.hp j = some p := by simpa [Cx.push, hget_cons, Ne.symm e] using hp
      exact (hc.obj j p hp').le hle (upd_ne _ _ e) fun b hb => h.block b ((hc.obj j p hp').lt hb).2
  · by_cases e1 : i = id <;> by_cases e2 : j = id
    · rw [e1, e2]
    · subst e1
      have e3 : p = o := by simpa [Cx.push, hget_cons] using h1.symm
      have h2' : hget c.hp j = some q := by simpa [Cx.push, hget_cons, Ne.symm e2] using h2
      subst e3
      simp only [Cx.push, upd_same, upd_ne _ _ e2] at h3 h4
      have := hl b h3
      have := ((hc.obj j q h2').lt h4).2
      omega
    · subst e2
      have e3 : q = o := by simpa [Cx.push, hget_cons] using h2.symm
      have h1' : hget c.hp i = some p := by simpa [Cx.push, hget_cons, Ne.symm e1] using h1
      subst e3
      simp only [Cx.push, upd_same, upd_ne _ _ e1] at h3 h4
      have := hl b h4
      have := ((hc.obj i p h1').lt h3).2
      omega
    · have h1' : hget c.hp i = some p := by simpa [Cx.push, hget_cons, Ne.symm e1] using h1
      have h2' : hget c.hp j = some q := by simpa [Cx.push, hget_cons, Ne.symm e2] using h2
      simp only [Cx.push, upd_ne _ _ e1, upd_ne _ _ e2] at h3 h4
      exact hc.inj i j p q b h1' h2' h3 h4

/-! ### a thing is written -/

def Cx.put (c : Cx) (id : Nat) (o : AObj) (l : Loc) (w : World) : Cx := ⟨upd c.mu id l, hset c.hp id o, c.nxt, w, c.mks, c.bar⟩

theorem Cx.put_get {c : Cx} {id : Nat} {o p : AObj} {l : Loc} {w : World} (hp : hget c.hp id = some p) : hget (c.put id o l w).hp id = some o := hget_hset_same hp

theorem Cx.Le.put {W0 : World} {c : Cx} {id : Nat} {o o' : AObj} {l : Loc} {w : World} (hc : c.Ok W0) (h0 : hget c.hp id = some o) (hk : o.like (c.mu id) o' l) (hs : c.w.heap.size ≤ w.heap.size)
    (hb : ∀ b, b < c.w.heap.size → o.blk (c.mu id) ≠ some b → w.heap[b]? = c.w.heap[b]?) (hl : ∀ b, o'.blk l = some b → o.blk (c.mu id) = some b ∨ c.w.heap.size ≤ b)
    (hlp : ∀ (b : Nat) (L : Loop), o.blk (c.mu id) = some b → c.w.heap[b]? = some (Obj.loop L) → ∃ L' : Loop, w.heap[b]? = some (Obj.loop L')) : c.Le (c.put id o' l w) := by
  refine ⟨fun b hf => ⟨⟨Nat.lt_of_lt_of_le hf.1 hs, ?_, hf.2.2⟩, hb b hf.1 fun e => hf.2.1 ⟨id, o, h0, e⟩⟩, fun j hj => ?_, fun j p hj hp => ?_, fun _ h => h, fun b L hL => ?_, hs, rfl⟩
  rotate_left 3
  · by_cases e : o.blk (c.mu id) = some b
    · exact hlp b L e hL
    · exact ⟨L, (hb b (Array.getElem?_eq_some_iff.1 hL).1 e).trans hL⟩
  · rintro ⟨j, p, h1, h2⟩
    simp only [Cx.put, hget_hset] at h1 h2
    split at h1
    · rename_i e
      subst e
      rw [h0] at h1
      cases h1
      rw [upd_same] at h2
      rcases hl b h2 with h3 | h3
      · exact hf.2.1 ⟨id, o, h0, h3⟩
      · have := hf.1; omega
    · rename_i e
      rw [upd_ne _ _ (Ne.symm e)] at h2
      exact hf.2.1 ⟨j, p, h1, h2⟩
  · rcases hj with ⟨p, hp⟩ | hj
    · left
      simp only [Cx.put, hget_hset]
      split
      · rename_i e; subst e; exact ⟨o', by rw [hp]; rfl⟩
      · exact ⟨p, hp⟩
    · right; exact hj
  · simp only [Cx.put, hget_hset] at hp ⊢
    split at hp
    · rename_i e
      subst e
      rw [h0] at hp
      cases hp
      exact ⟨o, h0, by rw [upd_same]; exact hk⟩
    · rename_i e
      exact ⟨p, hp, by rw [upd_ne _ _ (Ne.symm e)]; exact p.like_refl _⟩

theorem Cx.Ok.put {W0 : World} {c : Cx} {id : Nat} {o o' : AObj} {l : Loc} {w : World} (hc : c.Ok W0) (h0 : hget c.hp id = some o) (hk : o.like (c.mu id) o' l) (hw : Below W0.heap.size W0 w)
    (hs : c.w.heap.size ≤ w.heap.size) (hb : ∀ b, b < c.w.heap.size → o.blk (c.mu id) ≠ some b → w.heap[b]? = c.w.heap[b]?) (hl : ∀ b, o'.blk l = some b → o.blk (c.mu id) = some b ∨ c.w.heap.size ≤ b)
    (hlp : ∀ (b : Nat) (L : Loop), o.blk (c.mu id) = some b → c.w.heap[b]? = some (Obj.loop L) → ∃ L' : Loop, w.heap[b]? = some (Obj.loop L')) (ho : (c.put id o' l w).ORel W0.heap.size id o') : (c.put id o' l w).Ok W0 := by
  have hle := Cx.Le.put (w := w) hc h0 hk hs hb hl hlp
  refine ⟨hw, fun j p hp => ?_, fun i j p q b h1 h2 h3 h4 => ?_, fun r hr => ⟨(hc.mks r hr).1, (hb r (hc.mark_lt hr) fun e => (hc.obj id o h0).no_mark e (hc.mks r hr).2).trans (hc.mks r hr).2⟩, fun b hb => (hle.out b (hc.bar b hb)).1, hc.phi⟩
  · by_cases e : id = j
    · subst e
      have : p = o' := by rw [Cx.put_get h0] at hp; exact (Option.some.inj hp).symm
      subst this; exact ho
    · have hp' : hget c.hp j = some p := by simpa [Cx.put, hget_hset, e] using hp
      refine (hc.obj j p hp').le hle (upd_ne _ _ (Ne.symm e)) fun b hbj => hb b ((hc.obj j p hp').lt hbj).2 fun e2 => e (hc.inj id j o p b h0 hp' e2 hbj)
  · have key : ∀ i p, hget (c.put id o' l w).hp i = some p → id ≠ i → hget c.hp i = some p := fun i p h e => by simpa [Cx.put, hget_hset, e] using h
    have key2 : ∀ p, hget (c.put id o' l w).hp id = some p → p = o' := fun p h => by rw [Cx.put_get h0] at h; exact (Option.some.inj h).symm
    by_cases e1 : id = i <;> by_cases e2 : id = j
    · rw [← e1, ← e2]
    · subst e1
      have e3 := key2 p h1
      have h2' := key j q h2 e2
      subst e3
      simp only [Cx.put, upd_same, upd_ne _ _ (Ne.symm e2)] at h3 h4
      rcases hl b h3 with h5 | h5
      · exact hc.inj id j o q b h0 h2' h5 h4
      · have := ((hc.obj j q h2').lt h4).2; omega
    · subst e2
      have e3 := key2 q h2
      have h1' := key i p h1 e1
      subst e3
      simp only [Cx.put, upd_same, upd_ne _ _ (Ne.symm e1)] at h3 h4
      rcases hl b h4 with h5 | h5
      · exact hc.inj i id p o b h1' h0 h3 h5
      · have := ((hc.obj i p h1').lt h3).2; omega
    · have h1' := key i p h1 e1
      have h2' := key j q h2 e2
      simp only [Cx.put, upd_ne _ _ (Ne.symm e1), upd_ne _ _ (Ne.symm e2)] at h3 h4
      exact hc.inj i j p q b h1' h2' h3 h4

/-! ### rows of values -/

theorem VRels.length {c : Cx} : ∀ (l : List AVal) (xs : List Value), VRels c l xs → l.length = xs.length
  | [], [], _ => rfl
  | v :: l, x :: xs, h => by simp only [VRels] at h; simp [VRels.length l xs h.2]
  | [], _ :: _, h => by simp [VRels] at h
  | _ :: _, [], h => by simp [VRels] at h

theorem VRels.get {c : Cx} : ∀ (l : List AVal) (xs : List Value), VRels c l xs → ∀ (i : Nat) (h : i < l.length) (h' : i < xs.length), VRel c l[i] xs[i]
  | v :: l, x :: xs, h, 0, _, _ => by simp only [VRels] at h; exact h.1
  | v :: l, x :: xs, h, i + 1, h1, h2 => by simp only [VRels] at h; exact VRels.get l xs h.2 i (by simpa using h1) (by simpa using h2)
  | [], _, _, _, h1, _ => by simp at h1
  | _ :: _, [], h, _, _, _ => by simp [VRels] at h

theorem VRels.append {c : Cx} : ∀ (l m : List AVal) (xs ys : List Value), VRels c l xs → VRels c m ys → VRels c (l ++ m) (xs ++ ys)
  | [], m, [], ys, _, h => h
  | v :: l, m, x :: xs, ys, h, k => by simp only [VRels, List.cons_append] at h ⊢; exact ⟨h.1, VRels.append l m xs ys h.2 k⟩
  | [], _, _ :: _, _, h, _ => by simp [VRels] at h
  | _ :: _, _, [], _, h, _ => by simp [VRels] at h

theorem VRels.take {c : Cx} : ∀ (k : Nat) (l : List AVal) (xs : List Value), VRels c l xs → VRels c (l.take k) (xs.take k)
  | 0, _, _, _ => by simp [VRels]
  | k + 1, [], [], _ => by simp [VRels]
  | k + 1, v :: l, x :: xs, h => by simp only [VRels, List.take_succ_cons] at h ⊢; exact ⟨h.1, VRels.take k l xs h.2⟩
  | _ + 1, [], _ :: _, h => by simp [VRels] at h
  | _ + 1, _ :: _, [], h => by simp [VRels] at h

theorem VRels.drop {c : Cx} : ∀ (k : Nat) (l : List AVal) (xs : List Value), VRels c l xs → VRels c (l.drop k) (xs.drop k)
  | 0, _, _, h => by simpa using h
  | k + 1, [], [], _ => by simp [VRels]
  | k + 1, v :: l, x :: xs, h => by simp only [VRels, List.drop_succ_cons] at h ⊢; exact VRels.drop k l xs h.2
  | _ + 1, [], _ :: _, h => by simp [VRels] at h
  | _ + 1, _ :: _, [], h => by simp [VRels] at h

theorem VRels.set {c : Cx} {v : AVal} {x : Value} (h0 : VRel c v x) : ∀ (i : Nat) (l : List AVal) (xs : List Value), VRels c l xs → VRels c (l.set i v) (xs.set i x)
  | _, [], [], _ => by simp [VRels]
  | 0, u :: l, y :: xs, h => by simp only [VRels, List.set_cons_zero] at h ⊢; exact ⟨h0, h.2⟩
  | i + 1, u :: l, y :: xs, h => by simp only [VRels, List.set_cons_succ] at h ⊢; exact ⟨h.1, VRels.set h0 i l xs h.2⟩
  | _, [], _ :: _, h => by simp [VRels] at h
  | _, _ :: _, [], h => by simp [VRels] at h

/-- cut after so many -/
theorem VRels.split {c : Cx} : ∀ (l m : List AVal) (xs : List Value), VRels c (l ++ m) xs → ∃ ys zs, xs = ys ++ zs ∧ VRels c l ys ∧ VRels c m zs
  | [], m, xs, h => ⟨[], xs, rfl, by simp [VRels], h⟩
  | v :: l, m, x :: xs, h => by
    simp only [VRels, List.cons_append] at h
    obtain ⟨ys, zs, h1, h2, h3⟩ := VRels.split l m xs h.2
    exact ⟨x :: ys, zs, by rw [h1]; rfl, by simp only [VRels]; exact ⟨h.1, h2⟩, h3⟩
  | v :: l, m, [], h => by simp [VRels] at h

/-! ### data and cells -/

theorem VD.leaf {c : Cx} {t : Ty} {x : t.den} {v : Value} (h : t.isAgg = false) : VD c t x v ↔ DRel c.w c.free t x [v] := ⟨fun hv => hv.2 h, fun hv => ⟨(fun e => by rw [h] at e; cases e), (fun _ => hv)⟩⟩

theorem VD.agg {c : Cx} {t : Ty} {x : t.den} {v : Value} (h : t.isAgg = true) : VD c t x v ↔ ∃ cs, v = .agg cs ∧ DRel c.w c.free t x cs.toList := ⟨fun hv => hv.1 h, fun hv => ⟨(fun _ => hv), (fun e => by rw [h] at e; cases e)⟩⟩

theorem VD.cells {c : Cx} {t : Ty} {x : t.den} {v : Value} (h : VD c t x v) : DRel c.w c.free t x v.cells.toList := by
  by_cases e : t.isAgg = true
  · obtain ⟨cs, rfl, h2⟩ := h.1 e; exact h2
  · have e' : t.isAgg = false := by simpa using e
    have h2 := h.2 e'
    have h3 := DRel.one _ _ _ h2 v (by simp)
    cases v <;> simp_all [Value.cells, Value.oneCell']

theorem flat_rel {c : Cx} : ∀ (t : Ty) (x : t.den) (cs : List Value), DRel c.w c.free t x cs → VRels c (flat t x) cs
  | .unit, _, _, h => by cases h; simp [flat, VRels]
  | .bool, x, cs, h => by simp only [DRel] at h; subst h; simp only [flat, VRels, VRel]; exact ⟨(VD.leaf rfl).2 rfl, trivial⟩
  | .int k, x, cs, h => by simp only [DRel] at h; subst h; simp only [flat, VRels, VRel]; exact ⟨(VD.leaf rfl).2 rfl, trivial⟩
  | .str, x, cs, h => by simp only [DRel] at h; subst h; simp only [flat, VRels, VRel]; exact ⟨(VD.leaf rfl).2 rfl, trivial⟩
  | .list t, x, cs, h => by
    have h' := h
    obtain ⟨a, n, zs, h1, _⟩ := h
    subst h1
    simp only [flat, VRels, VRel]
    exact ⟨(VD.leaf rfl).2 h', trivial⟩
  | .pair a b, x, cs, ⟨l1, l2, h1, h2, h3⟩ => by
    subst h1
    exact VRels.append _ _ _ _ (flat_rel a x.1 l1 h2) (flat_rel b x.2 l2 h3)

theorem castTy_spec {t' t : Ty} {x : t'.den} {y : t.den} (h : castTy t x = some y) : ∃ e : t' = t, y = cast (congrArg Ty.den e) x := by
  unfold castTy at h
  split at h
  · rename_i e; exact ⟨e, (Option.some.inj h).symm⟩
  · cases h

theorem castTy_same {t : Ty} (x : t.den) : castTy t x = some x := by simp [castTy]

theorem castTy_ty {t' t : Ty} {x : t'.den} {y : t.den} (h : castTy t x = some y) : t' = t := (castTy_spec h).1

theorem leaf_rel {c : Cx} {t : Ty} (ht : t.isAgg = false) {v : AVal} {x : t.den} (h : leaf t v = some x) {u : Value} (hv : VRel c v u) : DRel c.w c.free t x [u] := by
  cases v with
  | val t' y =>
    simp only [leaf] at h
    obtain ⟨e, h2⟩ := castTy_spec h
    subst e
    subst h2
    simp only [VRel] at hv
    exact (VD.leaf ht).1 hv
  | nils =>
    cases t <;> simp only [leaf] at h
    case list t =>
      cases h
      simp only [VRel] at hv
      subst hv
      exact ⟨none, 0, [], rfl, by simp, rfl, .inl rfl⟩
    all_goals cases h
  | _ => simp [leaf] at h

theorem mk_rel {c : Cx} : ∀ (t : Ty) (l : List AVal) (x : t.den) (rest : List AVal) (vs : List Value), mk t l = some (x, rest) → VRels c l vs →
    ∃ cs vs', vs = cs ++ vs' ∧ DRel c.w c.free t x cs ∧ VRels c rest vs'
  | .unit, l, x, rest, vs, h, hv => by
    simp only [mk, Option.some.injEq, Prod.mk.injEq] at h
    obtain ⟨_, rfl⟩ := h
    exact ⟨[], vs, rfl, rfl, hv⟩
  | .pair a b, l, x, rest, vs, h, hv => by
    simp only [mk] at h
    split at h
    · rename_i y l1 h1
      split at h
      · rename_i z l2 h2
        cases h
        obtain ⟨c1, v1, e1, e2, e3⟩ := mk_rel a l y l1 vs h1 hv
        obtain ⟨c2, v2, e4, e5, e6⟩ := mk_rel b l1 z rest v1 h2 e3
        exact ⟨c1 ++ c2, v2, by rw [e1, e4, List.append_assoc], ⟨c1, c2, rfl, e2, e5⟩, e6⟩
      · cases h
    · cases h
  | .bool, [], _, _, _, h, _ => by simp [mk] at h
  | .int _, [], _, _, _, h, _ => by simp [mk] at h
  | .str, [], _, _, _, h, _ => by simp [mk] at h
  | .list _, [], _, _, _, h, _ => by simp [mk] at h
  | .bool, v :: l, x, rest, u :: vs, h, hv => by
    simp only [VRels] at hv
    simp only [mk] at h
    split at h
    · rename_i y hy; cases h; exact ⟨[u], vs, rfl, leaf_rel rfl hy hv.1, hv.2⟩
    · cases h
  | .int k, v :: l, x, rest, u :: vs, h, hv => by
    simp only [VRels] at hv
    simp only [mk] at h
    split at h
    · rename_i y hy; cases h; exact ⟨[u], vs, rfl, leaf_rel rfl hy hv.1, hv.2⟩
    · cases h
  | .str, v :: l, x, rest, u :: vs, h, hv => by
    simp only [VRels] at hv
    simp only [mk] at h
    split at h
    · rename_i y hy; cases h; exact ⟨[u], vs, rfl, leaf_rel rfl hy hv.1, hv.2⟩
    · cases h
  | .list t, v :: l, x, rest, u :: vs, h, hv => by
    simp only [VRels] at hv
    simp only [mk] at h
    split at h
    · rename_i y hy; cases h; exact ⟨[u], vs, rfl, leaf_rel rfl hy hv.1, hv.2⟩
    · cases h
  | .bool, _ :: _, _, _, [], _, hv => by simp [VRels] at hv
  | .int _, _ :: _, _, _, [], _, hv => by simp [VRels] at hv
  | .str, _ :: _, _, _, [], _, hv => by simp [VRels] at hv
  | .list _, _ :: _, _, _, [], _, hv => by simp [VRels] at hv

theorem mkAll_rel {c : Cx} {t : Ty} {l : List AVal} {x : t.den} {vs : List Value} (h : mkAll t l = some x) (hv : VRels c l vs) : DRel c.w c.free t x vs := by
  unfold mkAll at h
  split at h
  · rename_i y h1
    cases h
    obtain ⟨cs, vs', h2, h3, h4⟩ := mk_rel t l x [] vs h1 hv
    cases vs' with
    | nil => rw [h2, List.append_nil]; exact h3
    | cons a b => simp [VRels] at h4
  · cases h

/-- a value's cells -/
theorem cells_rel {c : Cx} {v : AVal} {l : List AVal} (h : v.cells = some l) {x : Value} (hv : VRel c v x) : VRels c l x.cells.toList ∧ ∀ u ∈ x.cells.toList, u.oneCell' = true := by
  cases v with
  | val t y =>
    simp only [AVal.cells, Option.some.injEq] at h
    subst h
    simp only [VRel] at hv
    exact ⟨flat_rel t y _ hv.cells, DRel.one _ _ _ hv.cells⟩
  | agg l' =>
    simp only [AVal.cells, Option.some.injEq] at h
    subst h
    simp only [VRel] at hv
    obtain ⟨vs, rfl, h2, h3⟩ := hv
    exact ⟨h2, h3⟩
  | undef => simp [AVal.cells] at h
  | tup _ => simp [AVal.cells] at h
  | _ =>
    simp only [AVal.cells, Option.some.injEq] at h
    subst h
    have h1 : x.oneCell' = true := by
      simp only [VRel] at hv
      first
        | (subst hv; rfl)
        | exact hv.1
        | (obtain ⟨_, _, _, rfl, _⟩ := hv; rfl)
        | (obtain ⟨_, rfl, _⟩ := hv; rfl)
        | (obtain ⟨_, _, _, _, rfl, _⟩ := hv; rfl)
    have h2 : x.cells = #[x] := by cases x <;> simp_all [Value.cells, Value.oneCell']
    rw [h2]
    simp only [VRels]
    exact ⟨⟨hv, trivial⟩, by simpa using h1⟩
end Go.Proofs.YtnmaceljkegenaaDoor
