/-
  The plain machine: functions that are given the address of a block.
-/
import Derived.Test.YtnmaceljkegenaaDoorAx
namespace Go.Proofs.YtnmaceljkegenaaDoor
open Go.RowKit
set_option linter.unusedVariables false
set_option linter.unusedSimpArgs false

section
variable {P : Program} {T : TT} {W0 : World} {b0 : Nat} {rd : Option Nat} {R : Type} {r : R} {c : Cx} {ats : List (Array Value)}

/-! ### many things turn at once -/

theorem Cx.many {c2 : Cx} (hc : c.Ok W0) (S : Nat → Prop) (hmks : c2.mks = c.mks) (hbar : c2.bar = c.bar) (hnxt : c2.nxt = c.nxt)
    (hsame : ∀ i, ¬ S i → hget c2.hp i = hget c.hp i ∧ c2.mu i = c.mu i)
    (htouch : ∀ i, S i → ∃ o o', hget c.hp i = some o ∧ hget c2.hp i = some o' ∧ o.like (c.mu i) o' (c2.mu i) ∧ ∀ f fr ps asg bd ky n p, o ≠ .lp f fr ps asg bd ky n p)
    (hw : Below W0.heap.size W0 c2.w) (hs : c.w.heap.size ≤ c2.w.heap.size)
    (hblk : ∀ b, b < c.w.heap.size → (∀ i o, S i → hget c.hp i = some o → o.blk (c.mu i) ≠ some b) → c2.w.heap[b]? = c.w.heap[b]?)
    (hnew : ∀ i o' b, S i → hget c2.hp i = some o' → o'.blk (c2.mu i) = some b → c.w.heap.size ≤ b ∨ ∃ j o, S j ∧ hget c.hp j = some o ∧ o.blk (c.mu j) = some b)
    (hinj : ∀ i j o' p' b, S i → S j → hget c2.hp i = some o' → hget c2.hp j = some p' → o'.blk (c2.mu i) = some b → p'.blk (c2.mu j) = some b → i = j)
    (hlp : ∀ (b : Nat) (L : Loop) (i : Nat) o, S i → hget c.hp i = some o → o.blk (c.mu i) = some b → c.w.heap[b]? ≠ some (Obj.loop L)) :
    c.Le c2 ∧ ((∀ i o', S i → hget c2.hp i = some o' → c2.ORel W0.heap.size i o') → c2.Ok W0) := by
  have hle : c.Le c2 := by
    refine ⟨fun b hb => ⟨⟨Nat.lt_of_lt_of_le hb.1 hs, ?_, by rw [hmks]; exact hb.2.2⟩, hblk b hb.1 fun i o _ h1 h2 => hb.2.1 ⟨i, o, h1, h2⟩⟩, fun i hi => ?_, fun i o' hi ho => ?_, fun r hr => by rw [hmks]; exact hr, fun b L hL => ?_, hs, hbar⟩
    · rintro ⟨i, o', h1, h2⟩
      by_cases hS : S i
      · rcases hnew i o' b hS h1 h2 with h3 | ⟨j, o, _, h3, h4⟩
        · have := hb.1; omega
        · exact hb.2.1 ⟨j, o, h3, h4⟩
      · obtain ⟨h3, h4⟩ := hsame i hS
        rw [h3] at h1
        rw [h4] at h2
        exact hb.2.1 ⟨i, o', h1, h2⟩
    · by_cases hS : S i
      · obtain ⟨o, o', _, h2, _⟩ := htouch i hS
        exact .inl ⟨o', h2⟩
      · rcases hi with ⟨o, ho⟩ | hi
        · exact .inl ⟨o, by rw [(hsame i hS).1]; exact ho⟩
        · exact .inr (by rw [hnxt]; exact hi)
    · by_cases hS : S i
      · obtain ⟨o, o2, h1, h2, h3, _⟩ := htouch i hS
        rw [h2] at ho
        cases ho
        exact ⟨o, h1, h3⟩
      · obtain ⟨h3, h4⟩ := hsame i hS
        rw [h3] at ho
        exact ⟨o', ho, by rw [h4]; exact o'.like_refl _⟩
    · exact ⟨L, (hblk b (Array.getElem?_eq_some_iff.1 hL).1 fun i o hS h1 h2 => hlp b L i o hS h1 h2 hL).trans hL⟩
  refine ⟨hle, fun hO => ⟨hw, fun i o' ho => ?_, fun i j o' p' b h1 h2 h3 h4 => ?_, fun r hr => ?_, fun b hb => ?_, hc.phi⟩⟩
  · by_cases hS : S i
    · exact hO i o' hS ho
    · obtain ⟨h3, h4⟩ := hsame i hS
      rw [h3] at ho
      refine (hc.obj i o' ho).le hle h4 fun b hb => hblk b ((hc.obj i o' ho).lt hb).2 fun j o hS2 h5 h6 => ?_
      have := hc.inj j i o o' b h5 ho h6 hb
      subst this
      exact hS hS2
  · have old : ∀ i o' b, ¬ S i → hget c2.hp i = some o' → o'.blk (c2.mu i) = some b → hget c.hp i = some o' ∧ o'.blk (c.mu i) = some b := fun i o' b hS h1 h2 => by
      obtain ⟨h3, h4⟩ := hsame i hS
      rw [h3] at h1
      rw [h4] at h2
      exact ⟨h1, h2⟩
    have mixed : ∀ i j o' p' b, S i → ¬ S j → hget c2.hp i = some o' → hget c2.hp j = some p' → o'.blk (c2.mu i) = some b → p'.blk (c2.mu j) = some b → False := fun i j o' p' b h1 h2 h3 h4 h5 h6 => by
      obtain ⟨h7, h8⟩ := old j p' b h2 h4 h6
      rcases hnew i o' b h1 h3 h5 with h9 | ⟨k, o, hk, h9, h10⟩
      · have := ((hc.obj j p' h7).lt h8).2; omega
      · have := hc.inj k j o p' b h9 h7 h10 h8
        subst this
        exact h2 hk
    by_cases hi : S i <;> by_cases hj : S j
    · exact hinj i j o' p' b hi hj h1 h2 h3 h4
    · exact (mixed i j o' p' b hi hj h1 h2 h3 h4).elim
    · exact (mixed j i p' o' b hj hi h2 h1 h4 h3).elim
    · obtain ⟨q1, q2⟩ := old i o' b hi h1 h3
      obtain ⟨q3, q4⟩ := old j p' b hj h2 h4
      exact hc.inj i j o' p' b q1 q3 q2 q4
  · rw [hmks] at hr
    exact ⟨(hc.mks r hr).1, (hblk r (hc.mark_lt hr) fun i o hS h1 h2 => hc.mark_own hr ⟨i, o, h1, h2⟩).trans (hc.mks r hr).2⟩
  · rw [hbar] at hb
    exact (hle.out b (hc.bar b hb)).1

/-! ### data, at another place -/

/-- the block of a slice of our own -/
theorem slc_blk {size : Nat} {s u : Value} {vw : Option (Int × Int)} (h : ViewIs size s vw u) {b off n cp : Nat} (hu : u = .slice (some ⟨b, off, none⟩) n cp) : s.ownBlock = some b := by
  subst hu
  cases vw with
  | none => simp only [ViewIs] at h; subst h; rfl
  | some p =>
    obtain ⟨lo, hi⟩ := p
    simp only [ViewIs] at h
    obtain ⟨a, m, q, rfl, _, _, _, h4⟩ := h
    have h5 : (some ⟨b, off, none⟩ : Option Addr) = if q = lo.toNat then a else a.map (·.add (lo.toNat * size)) := by injection h4
    split at h5
    · subst h5; rfl
    · cases a with
      | none => cases h5
      | some a =>
        simp only [Option.map_some, Option.some.injEq] at h5
        have := congrArg Addr.block h5
        simp only [Value.ownBlock, Option.some.injEq]
        unfold Addr.add at this
        split at this <;> exact this.symm

theorem as_own (hok : c.Ok W0) {cb : Cx} (hs : ∀ b, c.free b → cb.free b ∧ cb.w.heap[b]? = c.w.heap[b]?) {t : Ty} {v : AVal} {x : t.den} {u : Value}
    (ho : ∀ id ver vw, v = .slc id ver vw → ∀ o b, hget c.hp id = some o → o.blk (c.mu id) = some b → cb.free b ∧ cb.w.heap[b]? = c.w.heap[b]?) (h : v.as c.hp t = some x) (hv : VRel c v u) : VD cb t x u := by
  cases hno : ownArg v with
  | false => exact as_free hs hno h hv
  | true =>
    cases v with
    | slc id ver vw =>
      cases t with
      | list e =>
        obtain ⟨a, cp, zs, h1, h2, h3⟩ := src_rel2 hok h hv
        have h4 := src_cap hok h hv h1
        have h5 : ∃ t xs, hget c.hp id = some (.arr t ver xs) := by
          simp only [AVal.as, content] at h
          split at h
          · rename_i t' v' xs harr
            replace h := bif_some h; obtain ⟨hver, h⟩ := h
            have hver : v' = ver := by simpa using hver
            subst hver
            exact ⟨_, _, harr⟩
          · cases h
        obtain ⟨t', xs', harr⟩ := h5
        simp only [VRel] at hv
        have hview := (hv.2.2 _ _ _ harr).2 rfl
        refine (VD.leaf rfl).2 ⟨a, cp, zs, by rw [h1], h4, LRel.mono (DRel.mono hs e) _ _ h2, h3.imp (fun h => h) fun ⟨b, off, q1, q2, q4, q3⟩ => ?_⟩
        have hb := slc_blk hview (b := b) (off := off) (n := x.length) (cp := cp) (by rw [h1, q1])
        obtain ⟨p1, p2⟩ := ho id ver vw rfl _ b harr (by simpa [AObj.blk] using hb)
        exact ⟨b, off, q1, p1, q3.of_block p2⟩
      | _ => simp [AVal.as] at h
    | agg l =>
      simp only [AVal.as] at h
      replace h := bif_some h; obtain ⟨ha, h⟩ := h
      simp only [VRel] at hv
      obtain ⟨vs, rfl, h1, h2⟩ := hv
      have := (VD.agg ha).2 ⟨vs, rfl, mkAll_rel h h1⟩
      exact ⟨fun e => let ⟨cs, h1, h2⟩ := this.1 e; ⟨cs, h1, DRel.mono hs _ _ _ h2⟩, fun e => DRel.mono hs _ _ _ (this.2 e)⟩
    | _ => simp [ownArg] at hno

/-! ### cells and their own memory -/

theorem nodupN_spec : ∀ {l : List Nat}, nodupN l = true → l.Nodup
  | [], _ => List.nodup_nil
  | i :: l, h => by
    simp only [nodupN, Bool.and_eq_true, Bool.not_eq_true'] at h
    refine List.nodup_cons.2 ⟨fun hm => ?_, nodupN_spec h.2⟩
    have : memN l i = true := List.any_eq_true.2 ⟨i, hm, by simp⟩
    rw [this] at h; cases h.1

theorem readC_len {hp : Heap} {b : Bool} : ∀ (cs : List (Ty × Bool)) (cells : List AVal) {x}, readC hp b cs cells = some x → ∀ n, (firstP cs n).length = (ownP cs cells).length := by
  intro cs
  induction cs with
  | nil => intro cells x h n; cases cells <;> rfl
  | cons tc cs ih =>
    intro cells x h n
    obtain ⟨t, o⟩ := tc
    cases cells with
    | nil => cases o <;> simp [readC] at h
    | cons v cells =>
      cases o with
      | false =>
        simp only [readC] at h
        rw [cond_eq_ite] at h
        split at h
        · cases h
        · split at h
          · split at h
            · rename_i h2
              simpa [firstP, ownP] using ih cells h2 n
            · cases h
          · cases h
      | true =>
        cases t with
        | list e =>
          cases v with
          | slc id ver vw =>
            cases vw with
            | none =>
              simp only [readC] at h
              split at h
              · replace h := bif_some h; obtain ⟨_, h⟩ := h
                split at h
                · split at h
                  · rename_i h2
                    simp only [firstP, ownP, List.length_cons, ih cells h2 (n + 1)]
                  · cases h
                · cases h
              · cases h
            | some p => simp [readC] at h
          | _ => simp [readC] at h
        | _ => simp [readC] at h

theorem firstP_ge : ∀ (cs : List (Ty × Bool)) (n : Nat), ∀ p ∈ firstP cs n, n ≤ p.1
  | [], n, p, h => by simp [firstP] at h
  | (_, true) :: cs, n, p, h => by
    simp only [firstP, List.mem_cons] at h
    rcases h with rfl | h
    · exact Nat.le_refl _
    · exact Nat.le_trans (Nat.le_succ n) (firstP_ge cs (n + 1) p h)
  | (_, false) :: cs, n, p, h => firstP_ge cs n p h

theorem firstP_nodup : ∀ (cs : List (Ty × Bool)) (n : Nat), ((firstP cs n).map (·.1)).Nodup
  | [], n => List.nodup_nil
  | (_, true) :: cs, n => by
    simp only [firstP, List.map_cons]
    refine List.nodup_cons.2 ⟨fun h => ?_, firstP_nodup cs (n + 1)⟩
    obtain ⟨p, h1, h2⟩ := List.mem_map.1 h
    have := firstP_ge cs (n + 1) p h1
    omega
  | (_, false) :: cs, n => firstP_nodup cs n

/-- the memory that is made, and the memory that was read -/
theorem own_match {hp : Heap} {b : Bool} : ∀ (cs : List (Ty × Bool)) (cells : List AVal) (ids : List (Nat × Nat)) {x}, readC hp b cs cells = some x → ids.length = (ownP cs cells).length → ∀ i' o, (i', o) ∈ arrH cs ids x →
    ∃ (k i v v' : Nat) (e : Ty) (xs : List e.den), (ownP cs cells)[k]? = some (i, v) ∧ ids[k]? = some (i', v') ∧ o = .arr e v' xs ∧ hget hp i = some (.arr e v xs) ∧ (.list e, true) ∈ cs := by
  intro cs
  induction cs with
  | nil => intro cells ids x h hl i' o hm; simp [arrH] at hm
  | cons tc cs ih =>
    intro cells ids x h hl i' o hm
    obtain ⟨t, ob⟩ := tc
    cases cells with
    | nil => cases ob <;> simp [readC] at h
    | cons v cells =>
      cases ob with
      | false =>
        simp only [readC] at h
        rw [cond_eq_ite] at h
        split at h
        · cases h
        · split at h
          · split at h
            · rename_i h2
              cases h
              obtain ⟨k, i, v, v', e, xs, q1, q2, q3, q4, q5⟩ := ih cells ids h2 (by simpa [ownP] using hl) i' o (by simpa [arrH] using hm)
              exact ⟨k, i, v, v', e, xs, by simpa [ownP] using q1, q2, q3, q4, List.mem_cons_of_mem _ q5⟩
            · cases h
          · cases h
      | true =>
        cases t with
        | list e =>
          cases v with
          | slc id ver vw =>
            cases vw with
            | none =>
              simp only [readC] at h
              split at h
              · rename_i t' v1 xs hg
                replace h := bif_some h; obtain ⟨hver, h⟩ := h
                have hver : v1 = ver := by simpa using hver
                subst hver
                split at h
                · rename_i x1 hx1
                  split at h
                  · rename_i y1 h2
                    cases h
                    have ee := castTy_ty hx1
                    cases ee
                    rw [castTy_same] at hx1
                    cases hx1
                    cases ids with
                    | nil => simp [ownP] at hl
                    | cons p ids =>
                      obtain ⟨i0, v0⟩ := p
                      simp only [arrH, List.mem_cons] at hm
                      rcases hm with hm | hm
                      · cases hm
                        exact ⟨0, id, v1, v0, _, x1, by simp [ownP], by simp, rfl, hg, by simp⟩
                      · obtain ⟨k, i, v, v', e, xs, q1, q2, q3, q4, q5⟩ := ih cells ids h2 (by simpa [ownP] using hl) i' o hm
                        exact ⟨k + 1, i, v, v', e, xs, by simpa [ownP] using q1, by simpa using q2, q3, q4, List.mem_cons_of_mem _ q5⟩
                  · cases h
                · cases h
              · cases h
            | some p => simp [readC] at h
          | _ => simp [readC] at h
        | _ => simp [readC] at h

theorem own_get {hp : Heap} {b : Bool} : ∀ (cs : List (Ty × Bool)) (cells : List AVal) (ids : List (Nat × Nat)) {x}, readC hp b cs cells = some x → ∀ (k i v i' v' : Nat), (ownP cs cells)[k]? = some (i, v) → ids[k]? = some (i', v') →
    ∃ e xs, hget hp i = some (.arr e v xs) ∧ (i', AObj.arr e v' xs) ∈ arrH cs ids x := by
  intro cs
  induction cs with
  | nil => intro cells ids x h k i v i' v' h1 h2; cases cells <;> simp [ownP] at h1
  | cons tc cs ih =>
    intro cells ids x h k i v i' v' h1 h2
    obtain ⟨t, ob⟩ := tc
    cases cells with
    | nil => cases ob <;> simp [readC] at h
    | cons u cells =>
      cases ob with
      | false =>
        simp only [readC] at h
        rw [cond_eq_ite] at h
        split at h
        · cases h
        · split at h
          · split at h
            · rename_i h3
              cases h
              obtain ⟨e, xs, q1, q2⟩ := ih cells ids h3 k i v i' v' (by simpa [ownP] using h1) h2
              exact ⟨e, xs, q1, by simpa [arrH] using q2⟩
            · cases h
          · cases h
      | true =>
        cases t with
        | list e =>
          cases u with
          | slc id ver vw =>
            cases vw with
            | none =>
              simp only [readC] at h
              split at h
              · rename_i t' v1 xs hg
                replace h := bif_some h; obtain ⟨hver, h⟩ := h
                have hver : v1 = ver := by simpa using hver
                subst hver
                split at h
                · rename_i x1 hx1
                  split at h
                  · rename_i y1 h3
                    cases h
                    have ee := castTy_ty hx1
                    cases ee
                    rw [castTy_same] at hx1
                    cases hx1
                    cases ids with
                    | nil => simp at h2
                    | cons p ids =>
                      obtain ⟨i0, v0⟩ := p
                      cases k with
                      | zero =>
                        simp only [ownP, List.getElem?_cons_zero, Option.some.injEq, Prod.mk.injEq] at h1 h2
                        obtain ⟨rfl, rfl⟩ := h1
                        obtain ⟨rfl, rfl⟩ := h2
                        exact ⟨_, _, hg, by simp [arrH]⟩
                      | succ k =>
                        obtain ⟨e, xs, q1, q2⟩ := ih cells ids h3 k i v i' v' (by simpa [ownP] using h1) (by simpa using h2)
                        exact ⟨e, xs, q1, by simp only [arrH]; exact List.mem_cons_of_mem _ q2⟩
                  · cases h
                · cases h
              · cases h
            | some p => simp [readC] at h
          | _ => simp [readC] at h
        | _ => simp [readC] at h

/-- cells that are read here are cells there -/
theorem cells_tr {c' : Cx} {b : Bool} : ∀ (cs : List (Ty × Bool)) (cells : List AVal) (ids : List (Nat × Nat)) {x} (vs : List Value), readC c.hp b cs cells = some x → VRels c cells vs → ids.length = (ownP cs cells).length →
    (∀ (k i v i' v' : Nat), (ownP cs cells)[k]? = some (i, v) → ids[k]? = some (i', v') → ∀ e xs, hget c.hp i = some (.arr e v xs) → hget c'.hp i' = some (.arr e v' xs) ∧ (c'.mu i').v = (c.mu i).v) →
    (∀ t v x u, (t, false) ∈ cs → (b = true → ownArg v = false ∨ t.rigid = true) → (∀ i ∈ refs v, i ∈ dataRefs cs cells) → v.as c.hp t = some x → VRel c v u → VD c' t x u) → VRels c' (celC cs ids x) vs := by
  intro cs
  induction cs with
  | nil =>
    intro cells ids x vs h hv _ _ _
    cases cells with
    | nil => cases vs with
      | nil => simp [celC, VRels]
      | cons => simp [VRels] at hv
    | cons => simp [readC] at h
  | cons tc cs ih =>
    intro cells ids x vs h hv hl hi hd
    obtain ⟨t, ob⟩ := tc
    cases cells with
    | nil => cases ob <;> simp [readC] at h
    | cons v cells =>
      cases vs with
      | nil => simp [VRels] at hv
      | cons u vs =>
        simp only [VRels] at hv
        cases ob with
        | false =>
          simp only [readC] at h
          rw [cond_eq_ite] at h
          split at h
          · cases h
          · rename_i hno
            split at h
            · rename_i x1 hx1
              split at h
              · rename_i y1 h2
                cases h
                simp only [celC, VRels, VRel]
                refine ⟨hd t v x1 u (by simp) (fun hb => ?_) (fun i hi => by simp [dataRefs, hi]) hx1 hv.1, ih cells ids vs h2 hv.2 (by simpa [ownP] using hl) (fun k i v i' v' q1 q2 => hi k i v i' v' (by simpa [ownP] using q1) q2) fun t v x u q1 q2 q3 => hd t v x u (List.mem_cons_of_mem _ q1) q2 fun i hi => by simp [dataRefs, q3 i hi]⟩
                subst hb
                simp only [Bool.true_and, Bool.and_eq_true, not_and, Bool.not_eq_true, Bool.not_eq_eq_eq_not, Bool.not_false] at hno
                cases ho : ownArg v with
                | false => exact .inl rfl
                | true => exact .inr (by simpa using hno ho)
              · cases h
            · cases h
        | true =>
          cases t with
          | list e =>
            cases v with
            | slc id ver vw =>
              cases vw with
              | none =>
                simp only [readC] at h
                split at h
                · rename_i t' v1 xs hg
                  replace h := bif_some h; obtain ⟨hver, h⟩ := h
                  have hver : v1 = ver := by simpa using hver
                  subst hver
                  split at h
                  · rename_i x1 hx1
                    split at h
                    · rename_i y1 h2
                      cases h
                      have ee := castTy_ty hx1
                      cases ee
                      rw [castTy_same] at hx1
                      cases hx1
                      cases ids with
                      | nil => simp [ownP] at hl
                      | cons p ids =>
                        obtain ⟨i0, v0⟩ := p
                        simp only [celC, VRels]
                        obtain ⟨q1, q2⟩ := hi 0 id v1 i0 v0 (by simp [ownP]) (by simp) _ _ hg
                        refine ⟨?_, ih cells ids vs h2 hv.2 (by simpa [ownP] using hl) (fun k i v i' v' q1 q2 => hi (k + 1) i v i' v' (by simpa [ownP] using q1) (by simpa using q2)) fun t v x u q1 q2 q3 => hd t v x u (List.mem_cons_of_mem _ q1) q2 fun i hi => by simp only [dataRefs]; exact q3 i hi⟩
                        have h1 := hv.1
                        simp only [VRel] at h1 ⊢
                        refine ⟨h1.1, .inl ⟨_, q1⟩, fun t u xs' hh => ?_⟩
                        rw [q1] at hh
                        cases hh
                        refine ⟨Nat.le_refl _, fun _ => ?_⟩
                        have := (h1.2.2 _ _ _ hg).2 rfl
                        simp only [ViewIs] at this ⊢
                        rw [q2]; exact this
                    · cases h
                  · cases h
                · cases h
              | some p => simp [readC] at h
            | _ => simp [readC] at h
          | _ => simp [readC] at h

theorem arrH_keys : ∀ (cs : List (Ty × Bool)) (ids : List (Nat × Nat)) (x), List.Sublist ((arrH cs ids x).map (·.1)) (ids.map (·.1)) := by
  intro cs
  induction cs with
  | nil => intro ids x; simp [arrH]
  | cons tc cs ih =>
    intro ids x
    obtain ⟨t, o⟩ := tc
    cases o with
    | false => simpa only [arrH] using ih ids x.2
    | true =>
      cases t with
      | list e =>
        cases ids with
        | nil => simpa only [arrH] using ih [] x.2
        | cons p ids =>
          obtain ⟨i, v⟩ := p
          simp only [arrH, List.map_cons]
          exact List.Sublist.cons_cons _ (ih ids x.2)
      | _ => simpa only [arrH] using ih ids x.2

theorem hget_of_mem : ∀ (h : Heap) (i : Nat) (o : AObj), (h.map (·.1)).Nodup → (i, o) ∈ h → hget h i = some o
  | (k, p) :: h, i, o, hn, hm => by
    simp only [List.map_cons, List.nodup_cons] at hn
    rw [hget_cons]
    rcases List.mem_cons.1 hm with e | hm
    · cases e; simp
    · have : k ≠ i := fun e => hn.1 (e ▸ List.mem_map.2 ⟨_, hm, rfl⟩)
      rw [if_neg this]
      exact hget_of_mem h i o hn.2 hm

theorem hget_hsets_not : ∀ (l h : Heap) (i : Nat), i ∉ l.map (·.1) → hget (hsets l h) i = hget h i
  | [], h, i, _ => rfl
  | (k, o) :: l, h, i, hn => by
    simp only [List.map_cons, List.mem_cons, not_or] at hn
    simp only [hsets]
    rw [hget_hsets_not l _ i hn.2, hget_hset, if_neg (Ne.symm hn.1)]

theorem hget_hsets_mem : ∀ (l h : Heap) (i : Nat) (o : AObj), (l.map (·.1)).Nodup → (i, o) ∈ l → (hget h i).isSome = true → hget (hsets l h) i = some o
  | (k, p) :: l, h, i, o, hn, hm, hs => by
    simp only [List.map_cons, List.nodup_cons] at hn
    simp only [hsets]
    rcases List.mem_cons.1 hm with e | hm
    · have e1 := (Prod.mk.inj e).1
      have e2 := (Prod.mk.inj e).2
      subst e1 e2
      rw [hget_hsets_not l _ i hn.1, hget_hset, if_pos rfl]
      cases hg : hget h i with
      | none => rw [hg] at hs; cases hs
      | some q => rfl
    · refine hget_hsets_mem l _ i o hn.2 hm ?_
      rw [hget_hset]
      split
      · rename_i e; subst e; cases hg : hget h k with
        | none => rw [hg] at hs; cases hs
        | some q => rfl
      · exact hs

/-- other places for some -/
def relo : List Nat → List Nat → (Nat → Loc) → (Nat → Loc) → Nat → Loc
  | a :: qs, j :: js, m1, m, i => if a = i then m1 j else relo qs js m1 m i
  | _, _, _, m, i => m i

theorem relo_get {m1 m : Nat → Loc} : ∀ (qs js : List Nat) (k a j : Nat), qs.Nodup → qs[k]? = some a → js[k]? = some j → relo qs js m1 m a = m1 j
  | [], _, k, a, j, _, h, _ => by simp at h
  | _ :: _, [], k, a, j, _, _, h => by simp at h
  | a0 :: qs, j0 :: js, 0, a, j, _, h1, h2 => by
    simp only [List.getElem?_cons_zero, Option.some.injEq] at h1 h2
    subst h1 h2
    simp [relo]
  | a0 :: qs, j0 :: js, k + 1, a, j, hn, h1, h2 => by
    simp only [List.getElem?_cons_succ] at h1 h2
    simp only [List.nodup_cons] at hn
    have : a0 ≠ a := fun e => hn.1 (e ▸ List.mem_of_getElem? h1)
    simp only [relo, if_neg this]
    exact relo_get qs js k a j hn.2 h1 h2

theorem relo_not {m1 m : Nat → Loc} : ∀ (qs js : List Nat) (i : Nat), i ∉ qs → relo qs js m1 m i = m i
  | [], _, i, _ => by simp [relo]
  | _ :: _, [], i, _ => by simp [relo]
  | a :: qs, j :: js, i, h => by
    simp only [List.mem_cons, not_or] at h
    simp only [relo, if_neg (Ne.symm h.1)]
    exact relo_not qs js i h.2

/-! ### what is known of such functions -/

def BPost (W0 : World) (c : Cx) (s : SumB) (z : ((s.cs.map (·.1)).foldr Ty.pair Ty.unit).den × (s.rs.foldr Ty.pair Ty.unit).den) : Ending → World → Prop := fun e w' =>
  ∃ (c1 : Cx) (us : List Value) (cells : List AVal), e = .returned (resV us) ∧ c1.w = w' ∧ c1.Ok W0 ∧ c.Mono c1 ∧ hget c1.hp 0 = some (.box s.bt cells) ∧ (c1.mu 0).blk = (c.mu 0).blk ∧
    ((ownP s.cs cells).map (·.1)).Nodup ∧ readC c1.hp true s.cs cells = some z.1 ∧ DVals c1 s.rs z.2 us

def SumBOk (P : Program) (g : FuncId) (s : SumB) : Prop :=
  ∀ (W0 : World) (c : Cx) x y z, c.Ok W0 → c.mks = [] → c.nxt = 0 → c.hp = (0, .box s.bt (celC s.cs (firstP s.cs 1) x)) :: arrH s.cs (firstP s.cs 1) x → ∀ args' : Array Value, VRels c (.ptr 0 0 :: dvals s.ps y) args'.toList → s.f x y = some z →
    (callFunc g args').run P c.w = .ok (.enter g args') c.w ∧ Calls P g args' c.w (BPost W0 c s z)

theorem firstP_zero : ∀ (cs : List (Ty × Bool)) (n : Nat), ∀ p ∈ firstP cs n, p.2 = 0
  | [], n, p, h => by simp [firstP] at h
  | (_, true) :: cs, n, p, h => by
    simp only [firstP, List.mem_cons] at h
    rcases h with rfl | h
    · rfl
    · exact firstP_zero cs (n + 1) p h
  | (_, false) :: cs, n, p, h => firstP_zero cs n p h

theorem dvals_rel : ∀ (ps : List Ty) x (us : List Value), DVals c ps x us → VRels c (dvals ps x) us
  | [], x, us, h => by
    simp only [DVals] at h
    subst h
    simp [dvals, VRels]
  | t :: ps, x, us, h => by
    obtain ⟨u, us', rfl, h1, h2⟩ := h
    simp only [dvals, VRels, VRel]
    exact ⟨h1, dvals_rel ps x.2 us' h2⟩

theorem DVals.move {c' c2 : Cx} (hw : c2.w = c'.w) : ∀ (ps : List Ty) x (us : List Value), ((∀ b, c'.free b → c2.free b) ∨ ps.all Ty.rigid = true) → DVals c' ps x us → DVals c2 ps x us
  | [], x, us, _, h => h
  | t :: ps, x, us, hr, h => by
    obtain ⟨u, us', rfl, h1, h2⟩ := h
    refine ⟨u, us', rfl, VD.move hw (hr.imp (fun h => h) fun h => ?_) h1, DVals.move hw ps x.2 us' (hr.imp (fun h => h) fun h => ?_) h2⟩
    · simp only [List.all_cons, Bool.and_eq_true] at h; exact h.1
    · simp only [List.all_cons, Bool.and_eq_true] at h; exact h.2

theorem refsL_mem : ∀ (l : List AVal) (v : AVal), v ∈ l → ∀ i ∈ refs v, i ∈ refsL l
  | u :: l, v, hm, i, hi => by
    simp only [refsL, List.mem_append]
    rcases List.mem_cons.1 hm with e | hm
    · subst e; exact .inl hi
    · exact .inr (refsL_mem l v hm i hi)

theorem go_v {g : FuncId} {s : SumB} (hs : SumBOk P g s) {id : Nat} {qs : List AVal} {st : St} {K : AVal → St → Option R} (h : s.go id qs st K = some r) {a : Act} (hr : Rel W0 b0 rd c st a ats) {us : Array Value} (hv : VRels c (.ptr id 0 :: qs) us.toList)
    (Rr : Ending → World → Prop) (hR : ∀ c' z u st', K z st' = some r → Rel W0 b0 rd c' st' a ats → VRel c' z u → c.Mono c' → Rr (.returned u) c'.w) :
    (callFunc g us).run P c.w = .ok (.enter g us) c.w ∧ Calls P g us c.w Rr := by
  unfold SumB.go at h
  split at h <;> try (cases h; done)
  rename_i t cells hbx
  replace h := bif_some h
  obtain ⟨hc, h⟩ := h
  simp only [Bool.and_eq_true, Bool.or_eq_true, Bool.not_eq_true'] at hc
  obtain ⟨ht, ⟨hnd, hno⟩, hrg⟩ := hc
  have ht : t = s.bt := Nat.eq_of_beq_eq_true ht
  subst ht
  split at h <;> try (cases h; done)
  rename_i x hx
  split at h <;> try (cases h; done)
  rename_i y hy
  cases hz : s.f x y with
  | none => rw [hz] at h; cases h
  | some z =>
  rw [hz] at h
  simp only [obind] at h
  rw [← hr.hp] at hbx hx hy
  have hnd := nodupN_spec hnd
  have hno := noneOf_spec hno
  generalize hown : ownP s.cs cells = own at *
  have hok := hr.ok
  obtain ⟨hB, vs, hw, hvs, hone⟩ := hok.obj id _ hbx
  -- the memory of the cells' own
  have harr : ∀ (k i v : Nat), own[k]? = some (i, v) → ∃ (e : Ty) (xs : List e.den), hget c.hp i = some (.arr e v xs) := fun k i v hk => by
    obtain ⟨e, xs, h1, _⟩ := own_get s.cs cells own hx k i v i v (by rw [hown]; exact hk) hk
    exact ⟨e, xs, h1⟩
  have hidx : ∀ p ∈ own, ∃ k : Nat, own[k]? = some p := fun p hp => List.getElem?_of_mem hp
  have hidn : id ∉ own.map (·.1) := fun hm => by
    obtain ⟨p, hp, rfl⟩ := List.mem_map.1 hm
    obtain ⟨k, hk⟩ := hidx p hp
    obtain ⟨e, xs, h1⟩ := harr k p.1 p.2 hk
    rw [hbx] at h1; cases h1
  let S : Nat → Prop := fun i => i = id ∨ i ∈ own.map (·.1)
  have hSo : ∀ i, S i → ∃ o, hget c.hp i = some o ∧ ∀ f fr ps asg bd ky n p, o ≠ .lp f fr ps asg bd ky n p := fun i hi => by
    rcases hi with rfl | hi
    · exact ⟨_, hbx, by simp⟩
    · obtain ⟨p, hp, rfl⟩ := List.mem_map.1 hi
      obtain ⟨k, hk⟩ := hidx p hp
      obtain ⟨e, xs, h1⟩ := harr k p.1 p.2 hk
      exact ⟨_, h1, by simp⟩
  let ownS : Nat → Prop := fun b => ∃ i o, S i ∧ hget c.hp i = some o ∧ o.blk (c.mu i) = some b
  have hownS : ∀ b, ownS b → c.own b := fun b ⟨i, o, _, h1, h2⟩ => ⟨i, o, h1, h2⟩
  let c0 : Cx := ⟨fun k => if k = 0 then c.mu id else relo ((firstP s.cs 1).map (·.1)) (own.map (·.1)) c.mu c.mu k, (0, .box s.bt (celC s.cs (firstP s.cs 1) x)) :: arrH s.cs (firstP s.cs 1) x, 0, c.w, [], fun b => s.rigid = false ∧ b < c.w.heap.size ∧ ¬ c.free b ∧ ¬ ownS b⟩
  have hlen : (firstP s.cs 1).length = own.length := by rw [← hown]; exact readC_len s.cs cells hx 1
  have hmu0 : ∀ (k i v i' : Nat), own[k]? = some (i, v) → (firstP s.cs 1)[k]? = some (i', 0) → i' ≠ 0 ∧ c0.mu i' = c.mu i := fun k i v i' h1 h2 => by
    have h3 := firstP_ge s.cs 1 _ (List.mem_of_getElem? h2)
    refine ⟨by simp at h3; omega, ?_⟩
    have h4 : i' ≠ 0 := by simp at h3; omega
    simp only [c0, if_neg h4]
    exact relo_get _ _ k i' i (firstP_nodup s.cs 1) (by rw [List.getElem?_map, h2]; rfl) (by rw [List.getElem?_map, h1]; rfl)
  have get0 : ∀ (i' : Nat) (o : AObj), hget c0.hp i' = some o → (i' = 0 ∧ o = .box s.bt (celC s.cs (firstP s.cs 1) x)) ∨
      ∃ (k i v : Nat) (e : Ty) (xs : List e.den), own[k]? = some (i, v) ∧ (firstP s.cs 1)[k]? = some (i', 0) ∧ o = .arr e 0 xs ∧ hget c.hp i = some (.arr e v xs) := fun i' o ho => by
    simp only [c0, hget_cons] at ho
    split at ho
    · rename_i e
      cases ho
      exact .inl ⟨e.symm, rfl⟩
    · right
      obtain ⟨k, i, v, v', e, xs, q1, q2, q3, q4, _⟩ := own_match s.cs cells (firstP s.cs 1) hx (by rw [hown]; exact hlen) i' o (hget_mem _ _ _ ho)
      rw [hown] at q1
      have := firstP_zero s.cs 1 _ (List.mem_of_getElem? q2)
      simp only at this
      subst this
      exact ⟨k, i, v, e, xs, q1, q2, q3, q4⟩
  have hown0 : ∀ b, c0.own b → ownS b := fun b ⟨i', o, h1, h2⟩ => by
    rcases get0 i' o h1 with ⟨rfl, rfl⟩ | ⟨k, i, v, e, xs, q1, q2, rfl, q4⟩
    · exact ⟨id, _, .inl rfl, hbx, by simpa [c0, AObj.blk] using h2⟩
    · rw [(hmu0 k i v i' q1 q2).2] at h2
      exact ⟨i, _, .inr (List.mem_map.2 ⟨_, List.mem_of_getElem? q1, rfl⟩), q4, h2⟩
  have hfree0 : ∀ b, c.free b → c0.free b ∧ c0.w.heap[b]? = c.w.heap[b]? := fun b hb => ⟨⟨hb.1, fun ho => hb.2.1 (hownS b (hown0 b ho)), by simp [c0], fun hbar => hbar.2.2.1 hb⟩, rfl⟩
  have conv : ∀ (t : Ty) (v : AVal) (x : t.den) (u : Value), (∀ i ver vw, v = .slc i ver vw → s.rigid = true ∧ i ≠ id ∧ i ∉ own.map (·.1)) → v.as c.hp t = some x → VRel c v u → VD c0 t x u := fun t v x u hcond h1 h2 => by
    refine as_own hok hfree0 (fun i ver vw hvw o b h3 h4 => ?_) h1 h2
    obtain ⟨h5, h6, h7⟩ := hcond i ver vw hvw
    refine ⟨⟨((hok.obj i o h3).lt h4).2, fun ho => ?_, by simp [c0], fun hbar => by have := hbar.1; rw [h5] at this; cases this⟩, rfl⟩
    obtain ⟨j, o', hj, h8, h9⟩ := hown0 b ho
    have := hok.inj i j o o' b h3 h8 h4 h9
    subst this
    rcases hj with hj | hj
    · exact h6 hj
    · exact h7 hj
  have hnot : ∀ i, i ∈ refsL qs ++ dataRefs s.cs cells → i ≠ id ∧ i ∉ own.map (·.1) := fun i hi => by
    have := hno i hi
    simp only [List.mem_cons, not_or] at this
    exact this
  have hok0 : c0.Ok W0 := by
    refine ⟨hok.bel, fun i' o ho => ?_, fun i j o p b h1 h2 h3 h4 => ?_, fun r hr => by simp [c0] at hr, fun b hb => ⟨hb.2.1, fun ho => hb.2.2.2 (hown0 b ho), by simp [c0]⟩, hok.phi⟩
    · rcases get0 i' o ho with ⟨rfl, rfl⟩ | ⟨k, i, v, e, xs, q1, q2, rfl, q4⟩
      · refine ⟨by simpa [c0] using hB, vs, by simpa [c0] using hw, ?_, hone⟩
        refine cells_tr s.cs cells (firstP s.cs 1) vs.toList hx hvs (by rw [hown]; exact hlen) (fun k i v i' v' q1 q2 e xs q3 => ?_) fun t v x u q1 q2 q3 q4 q5 => conv t v x u (fun i ver vw hvw => ?_) q4 q5
        · rw [hown] at q1
          have hz0 := firstP_zero s.cs 1 _ (List.mem_of_getElem? q2)
          simp only at hz0
          subst hz0
          obtain ⟨h6, h7⟩ := hmu0 k i v i' q1 q2
          refine ⟨?_, by rw [h7]⟩
          obtain ⟨e2, xs2, h8, h9⟩ := own_get s.cs cells (firstP s.cs 1) hx k i v i' 0 (by rw [hown]; exact q1) q2
          rw [q3] at h8
          cases h8
          have hget := hget_of_mem _ _ _ (List.Sublist.nodup (arrH_keys s.cs (firstP s.cs 1) x) (firstP_nodup s.cs 1)) h9
          simp only [c0, hget_cons, if_neg (Ne.symm h6)]
          exact hget
        · subst hvw
          obtain ⟨h6, h7⟩ := hnot i (List.mem_append_right _ (q3 i (by simp [refs])))
          refine ⟨?_, h6, h7⟩
          cases hrg2 : s.rigid with
          | true => rfl
          | false =>
            rcases q2 (by rw [hrg2]; rfl) with h8 | h8
            · simp [ownArg] at h8
            · cases t <;> simp [Ty.rigid] at h8 <;> simp [AVal.as] at q4
      · obtain ⟨hpos, el, zs, w1, w2, w3⟩ := hok.obj i _ q4
        refine ⟨hpos, el, zs, by rw [(hmu0 k i v i' q1 q2).2]; exact w1, LRel.mono (DRel.mono hfree0 e) _ _ w2, w3⟩
    · rcases get0 i o h1 with ⟨rfl, rfl⟩ | ⟨k, i1, v, e, xs, q1, q2, rfl, q4⟩ <;> rcases get0 j p h2 with ⟨rfl, rfl⟩ | ⟨k', i2, v', e', xs', q1', q2', rfl, q4'⟩
      · rfl
      · rw [(hmu0 k' i2 v' j q1' q2').2] at h4
        have := hok.inj id i2 _ _ b hbx q4' (by simpa [c0, AObj.blk] using h3) h4
        subst this
        rw [hbx] at q4'; cases q4'
      · rw [(hmu0 k i1 v i q1 q2).2] at h3
        have := hok.inj id i1 _ _ b hbx q4 (by simpa [c0, AObj.blk] using h4) h3
        subst this
        rw [hbx] at q4; cases q4
      · rw [(hmu0 k i1 v i q1 q2).2] at h3
        rw [(hmu0 k' i2 v' j q1' q2').2] at h4
        have := hok.inj i1 i2 _ _ b q4 q4' h3 h4
        subst this
        have hkk : k = k' := by
          have e1 : (own.map (·.1))[k]? = some i1 := by rw [List.getElem?_map, q1]; rfl
          have e2 : (own.map (·.1))[k']? = some i1 := by rw [List.getElem?_map, q1']; rfl
          exact (List.getElem?_inj (List.getElem?_eq_some_iff.1 e1).1 hnd).1 (e1.trans e2.symm)
        subst hkk
        rw [q2] at q2'
        cases q2'
        rfl
  -- the call
  obtain ⟨us⟩ := us
  cases us with
  | nil => simp [VRels] at hv
  | cons u0 us =>
  simp only [VRels] at hv
  obtain ⟨hu0, hqs⟩ := hv
  have hv0 : VRels c0 (.ptr 0 0 :: dvals s.ps y) (u0 :: us) := by
    simp only [VRels]
    refine ⟨?_, dvals_rel s.ps y us (asAll_rel s.ps qs y us hy hqs fun t v x u hm h1 h2 => conv t v x u (fun i ver vw hvw => ?_) h1 h2)⟩
    · simp only [VRel] at hu0 ⊢
      exact ⟨hu0.1, .inl ⟨_, by simp [c0, hget_cons]; rfl⟩, fun t' cs' _ => by simpa [c0] using hu0.2.2 _ _ hbx⟩
    · subst hvw
      have hm2 : i ∈ refsL qs := refsL_mem _ _ hm i (by simp [refs])
      obtain ⟨h6, h7⟩ := hnot i (List.mem_append_left _ hm2)
      refine ⟨?_, h6, h7⟩
      rcases hrg with hrg | hrg
      · exact hrg
      · have := List.any_eq_false.1 hrg _ hm
        simp [ownArg] at this
  obtain ⟨hrun, hcall⟩ := hs W0 c0 x y z hok0 rfl rfl rfl ⟨u0 :: us⟩ hv0 hz
  refine ⟨hrun, hcall.mono ?_⟩
  rintro e w' ⟨c1, us1, cells1, rfl, rfl, hok1, hm1, hb1, hblk1, hnd1, hx1, hdv⟩
  let ids2 : List (Nat × Nat) := own.map fun p => (p.1, p.2 + 1)
  generalize hown1 : ownP s.cs cells1 = own1 at *
  let c2 : Cx := ⟨fun i => if i = id then c.mu id else relo (own.map (·.1)) (own1.map (·.1)) c1.mu c.mu i, hset (hsets (arrH s.cs ids2 z.1) c.hp) id (.box s.bt (celC s.cs ids2 z.1)), c.nxt, c1.w, c.mks, c.bar⟩
  have hlen1 : own1.length = own.length := by rw [← hown1, ← readC_len s.cs cells1 hx1 1, hlen]
  have hlen2 : ids2.length = (ownP s.cs cells1).length := by rw [hown1]; simp [ids2, hlen1]
  have hkeys : (ids2.map (·.1)) = own.map (·.1) := by simp [ids2, List.map_map, Function.comp_def]
  have hndk : ((arrH s.cs ids2 z.1).map (·.1)).Nodup := List.Sublist.nodup (arrH_keys s.cs ids2 z.1) (by rw [hkeys]; exact hnd)
  have hsubk : ∀ i, i ∈ (arrH s.cs ids2 z.1).map (·.1) → i ∈ own.map (·.1) := fun i hi => by
    have := (arrH_keys s.cs ids2 z.1).subset hi
    rwa [hkeys] at this
  have get2 : ∀ (k i v : Nat), own[k]? = some (i, v) → ∃ (j w : Nat) (e : Ty) (xs : List e.den), own1[k]? = some (j, w) ∧ hget c1.hp j = some (.arr e w xs) ∧ hget c2.hp i = some (.arr e (v + 1) xs) ∧ c2.mu i = c1.mu j ∧ (.list e, true) ∈ s.cs := fun k i v hk => by
    have hk1 : k < own1.length := by rw [hlen1]; exact (List.getElem?_eq_some_iff.1 hk).1
    obtain ⟨⟨j, w⟩, hj⟩ : ∃ p, own1[k]? = some p := ⟨_, List.getElem?_eq_getElem hk1⟩
    have hid2 : ids2[k]? = some (i, v + 1) := by simp [ids2, List.getElem?_map, hk]
    obtain ⟨e, xs, h1, h2⟩ := own_get s.cs cells1 ids2 hx1 k j w i (v + 1) (by rw [hown1]; exact hj) hid2
    obtain ⟨k', i1, v1, v2, e', xs', q1, q2, q3, q4, q5⟩ := own_match s.cs cells1 ids2 hx1 hlen2 i _ h2
    have him : i ∈ own.map (·.1) := List.mem_map.2 ⟨_, List.mem_of_getElem? hk, rfl⟩
    have hne : id ≠ i := fun e => hidn (e ▸ him)
    obtain ⟨e0, xs0, h0⟩ := harr k i v hk
    refine ⟨j, w, e, xs, hj, h1, ?_, ?_, ?_⟩
    · simp only [c2]
      rw [hget_hset, if_neg hne]
      exact hget_hsets_mem _ _ _ _ hndk h2 (by rw [h0]; rfl)
    · simp only [c2, if_neg (Ne.symm hne)]
      exact relo_get _ _ k i j hnd (by rw [List.getElem?_map, hk]; rfl) (by rw [List.getElem?_map, hj]; rfl)
    · cases q3; exact q5
  have get2id : hget c2.hp id = some (.box s.bt (celC s.cs ids2 z.1)) := by
    simp only [c2]
    rw [hget_hset, if_pos rfl, hget_hsets_not _ _ _ fun h => hidn (hsubk id h), hbx]
    rfl
  have mu2id : c2.mu id = c.mu id := by simp [c2]
  have hm0 : (c1.mu 0).blk = (c.mu id).blk := by rw [hblk1]; simp [c0]
  -- what a thing that turned is, there
  have new2 : ∀ (i : Nat) (o' : AObj), S i → hget c2.hp i = some o' → ∃ j o1, hget c1.hp j = some o1 ∧ o1.blk (c1.mu j) = o'.blk (c2.mu i) ∧ ((i = id ∧ j = 0 ∧ o1 = .box s.bt cells1) ∨ ∃ (k v w : Nat), own[k]? = some (i, v) ∧ own1[k]? = some (j, w) ∧ ∃ (e : Ty) (xs : List e.den), o1 = .arr e w xs) := fun i o' hi ho => by
    rcases hi with rfl | hi
    · rw [get2id] at ho
      cases ho
      exact ⟨0, _, hb1, by simp [AObj.blk, mu2id, hm0], .inl ⟨rfl, rfl, rfl⟩⟩
    · obtain ⟨p, hp, rfl⟩ := List.mem_map.1 hi
      obtain ⟨k, hk⟩ := hidx p hp
      obtain ⟨j, w, e, xs, q1, q2, q3, q4, _⟩ := get2 k p.1 p.2 hk
      rw [q3] at ho
      cases ho
      exact ⟨j, _, q2, by simp only [AObj.blk]; rw [q4], .inr ⟨k, p.2, w, hk, q1, e, xs, rfl⟩⟩
  have out1 : ∀ b, b < c.w.heap.size → ¬ ownS b → c1.out b ∧ c1.w.heap[b]? = c.w.heap[b]? := fun b hb hn => hm1.out b ⟨hb, fun ho => hn (hown0 b ho), by simp [c0]⟩
  obtain ⟨hle, hmk⟩ := Cx.many (c2 := c2) hok S rfl rfl rfl (fun i hi => by
      have h1 : i ≠ id := fun e => hi (.inl e)
      have h2 : i ∉ own.map (·.1) := fun e => hi (.inr e)
      refine ⟨?_, by simp only [c2, if_neg h1]; exact relo_not _ _ _ h2⟩
      simp only [c2]
      rw [hget_hset, if_neg (Ne.symm h1), hget_hsets_not _ _ _ fun h => h2 (hsubk i h)])
    (fun i hi => by
      rcases hi with rfl | hi
      · exact ⟨_, _, hbx, get2id, by simp [AObj.like, mu2id], by simp⟩
      · obtain ⟨p, hp, rfl⟩ := List.mem_map.1 hi
        obtain ⟨k, hk⟩ := hidx p hp
        obtain ⟨j, w, e, xs, q1, q2, q3, q4, _⟩ := get2 k p.1 p.2 hk
        obtain ⟨e0, xs0, h0⟩ := harr k p.1 p.2 hk
        exact ⟨_, _, h0, q3, ⟨by omega, fun e => by omega⟩, by simp⟩)
    hok1.bel hm1.size (fun b hb hn => (out1 b hb fun ⟨i, o, h1, h2, h3⟩ => hn i o h1 h2 h3).2)
    (fun i o' b hi ho hb => by
      by_cases hlt : b < c.w.heap.size
      · right
        refine Classical.byContradiction fun hn => ?_
        obtain ⟨j, o1, h1, h2, _⟩ := new2 i o' hi ho
        exact (out1 b hlt fun ⟨j, o, h3, h4, h5⟩ => hn ⟨j, o, h3, h4, h5⟩).1.2.1 ⟨j, o1, h1, h2.trans hb⟩
      · left; omega)
    (fun i i' o' p' b hi hi' ho hp hb hb' => by
      obtain ⟨j, o1, h1, h2, h3⟩ := new2 i o' hi ho
      obtain ⟨j', o1', h1', h2', h3'⟩ := new2 i' p' hi' hp
      have hj := hok1.inj j j' o1 o1' b h1 h1' (h2.trans hb) (h2'.trans hb')
      subst hj
      rw [h1] at h1'
      cases h1'
      rcases h3 with ⟨rfl, rfl, rfl⟩ | ⟨k, v, w, q1, q2, e, xs, rfl⟩
      · rcases h3' with ⟨rfl, _⟩ | ⟨k', v', w', q1', q2', e', xs', he⟩
        · rfl
        · cases he
      · rcases h3' with ⟨_, _, he⟩ | ⟨k', v', w', q1', q2', e', xs', he⟩
        · cases he
        · have hkk : k = k' := by
            have e1 : (own1.map (·.1))[k]? = some j := by rw [List.getElem?_map, q2]; rfl
            have e2 : (own1.map (·.1))[k']? = some j := by rw [List.getElem?_map, q2']; rfl
            exact (List.getElem?_inj (List.getElem?_eq_some_iff.1 e1).1 hnd1).1 (e1.trans e2.symm)
          subst hkk
          rw [q1] at q1'
          cases q1'
          rfl)
    (fun b L i o hi ho hb => by
      obtain ⟨o2, h1, h2⟩ := hSo i hi
      rw [ho] at h1
      cases h1
      exact (hok.obj i o ho).no_loop h2 hb)
  have hfree2 : s.rigid = true ∨ ∀ b, c1.free b → c2.free b := by
    cases hrg2 : s.rigid with
    | true => exact .inl rfl
    | false =>
      right
      intro b hb
      have hbar1 : ∀ b, b < c.w.heap.size → ¬ c.free b → ¬ ownS b → ¬ c1.free b := fun b h1 h2 h3 hf => hf.2.2.2 (by rw [hm1.bar]; exact ⟨hrg2, h1, h2, h3⟩)
      refine ⟨hb.1, ?_, fun hm => ?_, fun hm => ?_⟩
      · rintro ⟨i, o', h1, h2⟩
        by_cases hi : S i
        · obtain ⟨j, o1, h3, h4, _⟩ := new2 i o' hi h1
          exact hb.2.1 ⟨j, o1, h3, h4.trans h2⟩
        · have h1' : i ≠ id := fun e => hi (.inl e)
          have h2' : i ∉ own.map (·.1) := fun e => hi (.inr e)
          simp only [c2] at h1 h2
          rw [hget_hset, if_neg (Ne.symm h1'), hget_hsets_not _ _ _ fun h => h2' (hsubk i h)] at h1
          rw [if_neg h1', relo_not _ _ _ h2'] at h2
          refine hbar1 b ((hok.obj i o' h1).lt h2).2 (fun hf => hf.2.1 ⟨i, o', h1, h2⟩) ?_ hb
          rintro ⟨j, o, hj, h3, h4⟩
          have := hok.inj i j o' o b h1 h3 h2 h4
          subst this
          exact hi hj
      · exact hbar1 b (hok.mark_lt hm) (fun hf => hf.2.2.1 hm) (fun ho => hok.mark_own hm (hownS b ho)) hb
      · exact hbar1 b (hok.bar b hm).1 (fun hf => hf.2.2.2 hm) (fun ho => (hok.bar b hm).2.1 (hownS b ho)) hb
  have hrgc : s.rigid = true → (∀ p ∈ s.cs, p.1.rigid = true ∨ p.2 = true ∧ p.1.elem.rigid = true) ∧ s.rs.all Ty.rigid = true := fun h => by
    simp only [SumB.rigid, Bool.and_eq_true] at h
    exact ⟨fun p hp => by have := List.all_eq_true.1 h.1 p hp; simpa using this, h.2⟩
  have hok2 : c2.Ok W0 := hmk fun i o' hi ho => by
    rcases hi with rfl | hi
    · rw [get2id] at ho
      cases ho
      obtain ⟨hB1, vs1, hw1, hvs1, hone1⟩ := hok1.obj 0 _ hb1
      refine ⟨by rw [mu2id]; exact hB, vs1, by rw [mu2id, ← hm0]; exact hw1, ?_, hone1⟩
      refine cells_tr s.cs cells1 ids2 vs1.toList hx1 hvs1 hlen2 (fun k j w i v q1 q2 e xs q3 => ?_) fun t v x u q1 q2 q3 q4 q5 => ?_
      · rw [hown1] at q1
        have hk : ∃ v0, own[k]? = some (i, v0) ∧ v = v0 + 1 := by
          simp only [ids2, List.getElem?_map, Option.map_eq_some_iff] at q2
          obtain ⟨p, hp1, hp2⟩ := q2
          cases hp2
          exact ⟨p.2, hp1, rfl⟩
        obtain ⟨v0, hk, rfl⟩ := hk
        obtain ⟨j', w', e', xs', p1, p2, p3, p4, _⟩ := get2 k i v0 hk
        rw [q1] at p1
        cases p1
        rw [q3] at p2
        cases p2
        exact ⟨p3, by rw [p4]⟩
      · rcases hfree2 with hf | hf
        · have ht : t.rigid = true := by
            rcases (hrgc hf).1 (t, false) q1 with h | h
            · exact h
            · cases h.1
          cases ho : ownArg v with
          | false => exact VD.move (c' := c1) (c2 := c2) rfl (.inr ht) (as_free (cb := c1) (fun b hb => ⟨hb, rfl⟩) ho q4 q5)
          | true =>
            refine VD.move (c' := c1) (c2 := c2) rfl (.inr ht) (as_own (cb := c1) hok1 (fun b hb => ⟨hb, rfl⟩) (fun i ver vw hvw => ?_) q4 q5)
            subst hvw
            cases t <;> simp [Ty.rigid] at ht <;> simp [AVal.as] at q4
        · refine VD.move (c' := c1) (c2 := c2) rfl (.inl hf) (as_own (cb := c1) hok1 (fun b hb => ⟨hb, rfl⟩) (fun i ver vw hvw => ?_) q4 q5)
          subst hvw
          rcases q2 rfl with h8 | h8
          · simp [ownArg] at h8
          · cases t <;> simp [Ty.rigid] at h8 <;> simp [AVal.as] at q4
    · obtain ⟨p, hp, rfl⟩ := List.mem_map.1 hi
      obtain ⟨k, hk⟩ := hidx p hp
      obtain ⟨j, w, e, xs, q1, q2, q3, q4, q5⟩ := get2 k p.1 p.2 hk
      rw [q3] at ho
      cases ho
      obtain ⟨hpos, el, zs, w1, w2, w3⟩ := hok1.obj j _ q2
      refine ⟨hpos, el, zs, by rw [q4]; exact w1, LRel.move (c' := c1) (c2 := c2) rfl ?_ w2, w3⟩
      rcases hfree2 with hf | hf
      · right
        rcases (hrgc hf).1 _ q5 with h | h
        · simp [Ty.rigid] at h
        · exact h.2
      · exact .inl hf
  have hd : Did W0 c st c2 { st with hp := hset (hsets (arrH s.cs ids2 z.1) st.hp) id (.box s.bt (celC s.cs ids2 z.1)) } := ⟨by simp [c2, hr.hp], hr.nxt, rfl, rfl, hok2, hle⟩
  exact hR c2 _ _ _ h (hr.did hd) (resA_rel (dvals_rel s.rs z.2 us1 (DVals.move (c' := c1) (c2 := c2) rfl s.rs z.2 us1 (hfree2.symm.imp (fun h => h) fun h => (hrgc h).2) hdv))) hle.mono

theorem fixNils_rel {cl : Bool} : ∀ (cs : List (Ty × Bool)) (n : Nat) (cells : List AVal) (st : St) (K : List AVal → St → Option R), fixNils cl n cs cells st K = some r → ∀ (c : Cx) (vs : List Value), c.Ok W0 → c.hp = st.hp → c.nxt = st.nxt → VRels c cells vs →
    ∃ c' st' cells', Did W0 c st c' st' ∧ c'.w = c.w ∧ VRels c' cells' vs ∧ K cells' st' = some r ∧ ∀ i o, hget st.hp i = some o → hget st'.hp i = some o := by
  have plain : ∀ (cells : List AVal) (st : St) (K : List AVal → St → Option R), K cells st = some r → ∀ (c : Cx) (vs : List Value), c.Ok W0 → c.hp = st.hp → c.nxt = st.nxt → VRels c cells vs →
      ∃ c' st' cells', Did W0 c st c' st' ∧ c'.w = c.w ∧ VRels c' cells' vs ∧ K cells' st' = some r ∧ ∀ i o, hget st.hp i = some o → hget st'.hp i = some o :=
    fun cells st K h c vs hok h1 h2 hv => ⟨c, st, cells, Did.refl hok h1 h2, rfl, hv, h, fun i o h => h⟩
  intro cs
  induction cs with
  | nil => intro n cells st K h; cases cells <;> exact plain _ st K h
  | cons tc cs ih =>
    intro n cells st K h c vs hok h1 h2 hv
    cases cells with
    | nil => exact plain _ st K (by obtain ⟨t, o⟩ := tc; cases o <;> cases t <;> simpa only [fixNils] using h) c vs hok h1 h2 hv
    | cons v cells =>
      cases vs with
      | nil => simp [VRels] at hv
      | cons u vs =>
        have step : fixNils cl (n + 1) cs cells st (fun l st => K (v :: l) st) = some r → ∃ c' st' cells', Did W0 c st c' st' ∧ c'.w = c.w ∧ VRels c' cells' (u :: vs) ∧ K cells' st' = some r ∧ ∀ i o, hget st.hp i = some o → hget st'.hp i = some o := fun h => by
          simp only [VRels] at hv
          obtain ⟨c', st', cells', hd, hw, hv', hK, hp⟩ := ih (n + 1) cells st _ h c vs hok h1 h2 hv.2
          exact ⟨c', st', v :: cells', hd, hw, by simp only [VRels]; exact ⟨VRel.le hd.le _ _ hv.1, hv'⟩, hK, hp⟩
        obtain ⟨t, o⟩ := tc
        cases o with
        | false => exact step (by simpa only [fixNils] using h)
        | true =>
          cases t with
          | list e =>
            cases v with
            | nils =>
              simp only [fixNils] at h
              replace h := bif_some h
              obtain ⟨hpos, h⟩ := h
              have hpos : 0 < e.size := by simpa [ltN] using hpos
              obtain ⟨id, n', h3, h4, h5, h⟩ := alloc_some h
              simp only [VRels] at hv
              have hu := hv.1
              simp only [VRel] at hu
              subst hu
              obtain ⟨c1, hd1, hw1, hv1⟩ := new_arr hok h1 h2 h3 h4 h5 (y := e) hpos (xs := []) (v := .slice none 0 0) (w := c.w) (Below.refl _ _) byteTy [] ⟨by simp, .inl ⟨rfl, rfl⟩⟩ (by simp [LRel]) rfl (fun _ => rfl)
              obtain ⟨c', st', cells', hd, hw, hv', hK, hp⟩ := ih (n + 1) cells _ _ h c1 vs hd1.ok hd1.hp hd1.nxt (VRels.le hd1.le _ _ hv.2)
              refine ⟨c', st', .slc id 0 none :: cells', hd1.trans hd, hw.trans hw1, by simp only [VRels]; exact ⟨VRel.le hd.le _ _ hv1, hv'⟩, hK, fun i o ho => hp i o ?_⟩
              have : id ≠ i := fun e => by subst e; rw [h3] at ho; cases ho
              simp only [hget_cons, if_neg this]
              exact ho
            | _ => exact step (by simpa only [fixNils] using h)
          | _ => exact step (by simpa only [fixNils] using h)

theorem sumB_v {g : FuncId} {s : SumB} (hs : SumBOk P g s) (cl : Bool) (n : Nat) : CallOk (R := R) P W0 n (sumBFn g s cl) := by
  intro b0 rd fv args dst st K r h c a ats fv' args' hr hfv hargs o next Q hn
  cases fv with
  | fn g' caps =>
    simp only [sumBFn] at h
    split at h
    · rename_i hg
      subst hg
      simp only [VRel] at hfv
      obtain ⟨vs, rfl, hcaps⟩ := hfv
      have hall := VRels.append_arr hargs hcaps
      have key : ∀ Rr : Ending → World → Prop, (∀ c' z u st', K z st' = some r → Rel W0 b0 rd c' st' a ats → VRel c' z u → c.Mono c' → Rr (.returned u) c'.w) →
          (callFunc g' (args' ++ vs)).run P c.w = .ok (.enter g' (args' ++ vs)) c.w ∧ Calls P g' (args' ++ vs) c.w Rr := by
        intro Rr hRr
        generalize args ++ caps = al at h hall
        unfold SumB.call at h
        split at h <;> try (cases h; done)
        rename_i id qs
        split at h <;> try (cases h; done)
        rename_i t cells hbx
        rw [cond_eq_ite] at h
        split at h
        · rw [← hr.hp] at hbx
          obtain ⟨hB, vs0, hw, hvs, hone⟩ := hr.ok.obj id _ hbx
          obtain ⟨c', st', cells', hd, hw', hv', hK, hp⟩ := fixNils_rel s.cs _ cells st _ h c vs0.toList hr.ok hr.hp hr.nxt hvs
          have hr' := hr.did hd
          have hbx' : hget c'.hp id = some (.box t cells) := by rw [hr'.hp]; exact hp id _ (by rw [← hr.hp]; exact hbx)
          obtain ⟨o1, q1, q2⟩ := hd.le.obj id _ (.inl ⟨_, hbx⟩) hbx'
          rw [hbx] at q1
          cases q1
          simp only [AObj.like] at q2
          have hlike : AObj.like (.box t cells) (c'.mu id) (.box t cells') (c'.mu id) := rfl
          have hll : ∀ b, (AObj.box t cells').blk (c'.mu id) = some b → (AObj.box t cells).blk (c'.mu id) = some b ∨ c'.w.heap.size ≤ b := fun b hb => .inl hb
          have hlp : ∀ (b : Nat) (L : Loop), (AObj.box t cells).blk (c'.mu id) = some b → c'.w.heap[b]? = some (Obj.loop L) → ∃ L' : Loop, c'.w.heap[b]? = some (Obj.loop L') := fun b L _ hL => ⟨L, hL⟩
          have hle := Cx.Le.put (w := c'.w) hr'.ok hbx' hlike (Nat.le_refl _) (fun b _ _ => rfl) hll hlp
          have hput : Did W0 c' st' (c'.put id (.box t cells') (c'.mu id) c'.w) { st' with hp := hset st'.hp id (.box t cells') } := by
            refine ⟨by simp only [Cx.put]; rw [hr'.hp], hr'.nxt, rfl, rfl, Cx.Ok.put hr'.ok hbx' hlike hr'.ok.bel (Nat.le_refl _) (fun b _ _ => rfl) hll hlp ?_, hle⟩
            refine ⟨by simp only [Cx.put, upd_same]; rw [q2]; exact hB, vs0, by simp only [Cx.put, upd_same]; rw [q2, hw']; exact hw, VRels.le hle _ _ hv', hone⟩
          have hd2 := hd.trans hput
          have hG := go_v hs hK (hr.did hd2) (VRels.le hd2.le _ _ hall) Rr fun c3 z u st3 k1 k2 k3 k4 => hRr c3 z u st3 k1 k2 k3 (hd2.le.mono.trans k4)
          change (callFunc g' (args' ++ vs)).run P c'.w = .ok (.enter g' (args' ++ vs)) c'.w ∧ Calls P g' (args' ++ vs) c'.w Rr at hG
          rw [hw'] at hG
          exact hG
        · exact go_v hs h hr hall Rr hRr
      obtain ⟨q1, q2⟩ := key (fun e w'' => match e with
          | .returned v => next (a.put o.dst v) w''
          | .panicked chain => Q (.panic chain) a w''
          | .outgrown => LetsOut Q) (fun c' z u st' k1 k2 k3 k4 => hn c' z u st' k1 k2 k3 k4)
      rw [invoke_fn, q1]
      exact ⟨FW_depth rd, (callPost q2).mono fun e w'' he => by cases e <;> exact he⟩
    · cases h
  | _ => simp [sumBFn] at h
end
end Go.Proofs.YtnmaceljkegenaaDoor
