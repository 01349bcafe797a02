/-
  The plain machine: slices that become our own; what stays at a loop's head.
-/
import Derived.Test.YtipbcgjogddigaaGreatDoorAp
namespace Go.Proofs.YtipbcgjogddigaaGreatDoor
open Go.RowKit
set_option linter.unusedVariables false
set_option linter.unusedSimpArgs false

section
variable {P : Program} {T : TT} {W0 : World} {b0 n : Nat} {rd : Option Nat} {c : Cx} {R : Type} {r : R} {st : St} {a : Act} {ats : List (Array Value)}

theorem partI_cases {n lo hi : Int} (h : partI n lo hi = true) : 0 ≤ lo ∧ lo ≤ hi ∧ hi ≤ n := by
  simpa [partI, and_assoc] using h

/-- the front of a row of our own -/
theorem ownsRow_front {w : World} {B : Nat} {e : TypeId} {size n : Nat} {v v' : Value} {zs : List Value} (h : w.ownsRow B e size v n zs) {hi : Int} (h0 : 0 ≤ hi) (hn : hi ≤ n) (hv : ViewIs size v (some (0, hi)) v') :
    w.ownsRow B e size v' hi.toNat (zs.take (hi.toNat * size)) ∧ ∀ b, v'.ownBlock = some b → v.ownBlock = some b := by
  obtain ⟨a, m, cp, e1, _, _, e4, e5⟩ := hv
  have hk : hi.toNat ≤ n := by omega
  have hlen : (zs.take (hi.toNat * size)).length = hi.toNat * size := by
    rw [List.length_take, h.1]
    exact Nat.min_eq_left (Nat.mul_le_mul_right _ hk)
  rcases h.2 with ⟨h1, h2⟩ | ⟨g, cap, cur, h1, h2, h3, h4, h5, h6, h7⟩
  · rw [e1] at h1
    cases h1
    subst h2
    have : hi.toNat = 0 := by omega
    have hv' : v' = .slice none 0 0 := by rw [e5, this]; rfl
    subst hv'
    refine ⟨⟨hlen, .inl ⟨rfl, this⟩⟩, fun b hb => by cases hb⟩
  · rw [e1] at h1
    cases h1
    have hv' : v' = .slice (some ⟨g, 0, none⟩) hi.toNat cp := by
      rw [e5]
      simp [Addr.add]
    subst hv'
    subst e1
    refine ⟨⟨hlen, .inr ⟨g, cp, cur, rfl, h2, h3, by omega, h5, h6, ?_⟩⟩, fun b hb => hb⟩
    rw [← h7, List.take_take, Nat.min_eq_left (Nat.mul_le_mul_right _ hk)]

theorem ownSlot_rel (hr : Rel W0 b0 rd c st a ats) {s : Nat} {t : Ty} {st' : St} (h : ownSlot s t st = some st') : ∃ c', Rel W0 b0 rd c' st' a ats ∧ c.Mono c' ∧ c'.w = c.w := by
  have hslot : ∀ hs : s < a.tmps.toList.length, VRel c (st.fr.getD s .undef) a.tmps.toList[s] := fun hs => by
    have := hr.fr.getD s
    rwa [Array.getD, dif_pos (by simpa using hs)] at this
  obtain ⟨fr, stk, hp, nxt⟩ := st
  simp only [ownSlot] at h
  split at h
  · rename_i hn
    simp only at hslot
    rw [hn] at hslot
    split at h
    · cases h
    · rename_i hg
      rw [cond_eq_ite] at h
      split at h
      · rename_i hb
        cases h
        simp only [Bool.and_eq_true] at hb
        have h1 : nxt ≤ 1000000 * stk.length + 800000 + s := by simpa [Nat.ble_eq] using hb.1
        have h2 : 0 < t.size := by have := hb.2; simp [Nat.blt] at this; omega
        obtain ⟨c', hd, hw, hv⟩ := new_arr hr.ok (st := ⟨fr, stk, hp, nxt⟩) hr.hp hr.nxt hg h1 (Nat.le_refl nxt) (y := t) h2 (xs := []) (v := .slice none 0 0) (w := c.w) (Below.refl _ _) byteTy [] ⟨by simp, .inl ⟨rfl, rfl⟩⟩ (by simp [LRel]) rfl (fun _ => rfl)
        have hr' := hr.did hd
        refine ⟨c', ⟨hr'.hp, hr'.nxt, hr'.ok, VRels.setL _ _ _ hr'.fr fun hs => ?_, hr'.stk, hr'.df, hr'.rd⟩, hd.le.mono, hw⟩
        have := hslot hs
        simp only [VRel] at this
        rw [this]; exact hv
      · cases h
  · rename_i id ver vw hn
    simp only at hslot
    rw [hn] at hslot
    split at h
    · rename_i u w xs hg
      rw [cond_eq_ite] at h
      split at h
      · rename_i hver
        have hver : w = ver := by simpa using hver
        subst hver
        split at h
        · cases h; exact ⟨c, hr, Cx.Mono.refl c, rfl⟩
        · rename_i lo hi
          rw [cond_eq_ite] at h
          split at h
          · rename_i hb
            cases h
            simp only [beq_iff_eq] at hb
            subst hb
            have hhp := hr.hp
            simp only at hhp
            subst hhp
            have hobj := hr.ok.obj id _ hg
            obtain ⟨hpos, e, zs, hown, hL, hty⟩ := hobj
            by_cases hs : s < a.tmps.toList.length
            · have hv := hslot hs
              simp only [VRel] at hv
              have hview := (hv.2.2 _ _ _ hg).2 rfl
              have ⟨hb1, hb2⟩ : 0 ≤ hi ∧ hi ≤ lenI xs := by
                obtain ⟨a1, n1, c1, e1, _, p2, p3, _⟩ := hview
                obtain ⟨a2, c2, e2, _⟩ := row_form hown
                rw [e2] at e1
                cases e1
                exact ⟨p2, p3⟩
              obtain ⟨hown', hblk⟩ := ownsRow_front hown hb1 hb2 hview
              have hk : (AObj.arr u w xs).like (c.mu id) (.arr u (w + 1) (xs.take hi.toNat)) ⟨(c.mu id).blk, a.tmps.toList[s]⟩ := ⟨by omega, fun e => by omega⟩
              have hle := Cx.Le.put (w := c.w) hr.ok hg hk (Nat.le_refl _) (fun _ _ _ => rfl) (fun b hb => .inl (hblk b hb)) (fun b L _ hL => ⟨L, hL⟩)
              have hok := Cx.Ok.put (w := c.w) hr.ok hg hk hr.ok.bel (Nat.le_refl _) (fun _ _ _ => rfl) (fun b hb => .inl (hblk b hb)) (fun b L _ hL => ⟨L, hL⟩) (by
                refine ⟨hpos, e, zs.take (hi.toNat * u.size), ?_, LRel.take _ _ _ (LRel.mono (DRel.mono hle.free u) _ _ hL), hty⟩
                have : (xs.take hi.toNat).length = hi.toNat := by rw [List.length_take]; simp only [lenI] at hb2; omega
                rw [this]
                simp only [Cx.put, upd_same]
                exact hown')
              refine ⟨c.put id (AObj.arr u (w + 1) (List.take hi.toNat xs)) ⟨(c.mu id).blk, a.tmps.toList[s]⟩ c.w, ⟨rfl, hr.nxt, hok, VRels.setL _ _ _ (VRels.le hle _ _ hr.fr) fun _ => ?_, Stk.le hle _ _ hr.stk, ?_, ?_⟩, hle.mono, rfl⟩
              · simp only [VRel]
                refine ⟨hv.1, .inl ⟨_, Cx.put_get hg⟩, fun t' u' xs' hg' => ?_⟩
                rw [Cx.put_get hg] at hg'
                cases hg'
                exact ⟨Nat.le_refl _, fun _ => by simp [ViewIs, Cx.put, upd_same]⟩
              · obtain ⟨ds, h1, h2, h3⟩ := hr.df
                exact ⟨ds, h1, h2, h3⟩
              · exact hr.rd
            · exfalso
              have hl := VRels.length _ _ hr.fr
              rw [List.getD_eq_getElem?_getD, List.getElem?_eq_none (by simp only at hl; omega)] at hn
              cases hn
          · cases h
      · cases h
    · cases h
  · cases h

theorem giveSlot_rel (hr : Rel W0 b0 rd c st a ats) {s : Nat} {t : Ty} {st' : St} (h : giveSlot s t st = some st') : ∃ c', Rel W0 b0 rd c' st' a ats ∧ c.Mono c' ∧ c'.w = c.w := by
  have hslot : ∀ hs : s < a.tmps.toList.length, VRel c (st.fr.getD s .undef) a.tmps.toList[s] := fun hs => by
    have := hr.fr.getD s
    rwa [Array.getD, dif_pos (by simpa using hs)] at this
  have empty : ∀ (hv : ∀ hs : s < a.tmps.toList.length, ∃ av, a.tmps.toList[s] = .slice av 0 0), ∃ c', Rel W0 b0 rd c' { st with fr := st.fr.set s (.val (.list t) []) } a ats ∧ c.Mono c' ∧ c'.w = c.w := fun hv =>
    ⟨c, ⟨hr.hp, hr.nxt, hr.ok, VRels.setL _ _ _ hr.fr fun hs => by
      obtain ⟨av, hav⟩ := hv hs
      rw [hav]
      simp only [VRel]
      exact (VD.leaf rfl).2 ⟨av, 0, [], rfl, Nat.le_refl _, rfl, .inl rfl⟩, hr.stk, hr.df, hr.rd⟩, Cx.Mono.refl c, rfl⟩
  unfold giveSlot at h
  split at h
  · rename_i hn
    rw [hn] at hslot
    cases h
    exact empty fun hs => ⟨none, by have := hslot hs; simpa only [VRel] using this⟩
  · rename_i hn
    rw [hn] at hslot
    cases h
    exact empty fun hs => by have := hslot hs; simpa only [VRel] using this
  · rename_i id ver hn
    rw [hn] at hslot
    split at h
    · rename_i u w xs hg
      replace h := bif_some h
      obtain ⟨hb, h⟩ := h
      simp only [Bool.and_eq_true, beq_iff_eq] at hb
      obtain ⟨rfl, hno⟩ := hb
      cases h
      obtain ⟨fr, stk, hp, nxt⟩ := st
      have hhp := hr.hp
      simp only at hhp hg hno hn
      subst hhp
      have hfr0 : VRels c (fr.set s .undef) a.tmps.toList := VRels.setL _ _ _ hr.fr fun _ => by simp [VRel]
      have hk := Cx.keeps_filter (c := c) (p := fun i => !Nat.beq i id) (noneOf_spec hno)
      have hok' := hr.ok.filter (p := fun i => !Nat.beq i id) hk.right
      have hrel : Rel W0 b0 rd { c with hp := c.hp.filter fun e => !Nat.beq e.1 id } ⟨fr.set s .undef, stk, c.hp.filter fun e => !Nat.beq e.1 id, nxt⟩ a ats :=
        ⟨rfl, hr.nxt, hok', VRels.keeps _ _ hk.left.left hfr0, Stk.keeps _ _ hk.left.right hr.stk, hr.df, hr.rd⟩
      refine ⟨{ c with hp := c.hp.filter fun e => !Nat.beq e.1 id }, ⟨rfl, hrel.nxt, hrel.ok, ?_, hrel.stk, hrel.df, hrel.rd⟩, ⟨fun _ h => h, fun b L h => ⟨L, h⟩, Nat.le_refl _, rfl, out_filter c fun i => !Nat.beq i id⟩, rfl⟩
      have hset := VRels.setL (z := .val (.list u) xs) s _ _ hrel.fr fun hs => by
        have hv := hslot hs
        simp only [VRel] at hv ⊢
        have hu := (hv.2.2 _ _ _ hg).2 rfl
        simp only [ViewIs] at hu
        obtain ⟨hpos, e, zs, hown, hL, hty⟩ := hr.ok.obj id _ hg
        rw [hu]
        have hL' := LRel.mono (DRel.mono hk.free u) _ _ hL
        rcases hown.2 with ⟨e1, e2⟩ | ⟨g, cap, cur, e1, e2, e3, e4, e5, e6, e7⟩
        · have hx : xs = [] := List.eq_nil_of_length_eq_zero e2
          subst hx
          rw [e1]
          exact (VD.leaf rfl).2 ⟨none, 0, [], rfl, Nat.le_refl _, rfl, .inl rfl⟩
        · obtain ⟨a2, cp2, f1, f2, f3⟩ := row_form2 hown
          rw [e1] at f1
          cases f1
          rw [e1]
          refine (VD.leaf rfl).2 ⟨_, _, zs, rfl, e4, hL', f3.imp (fun h => h) fun ⟨g', q1, q2, q4, q3⟩ => ?_⟩
          cases q1
          refine ⟨g, 0, rfl, ⟨q2, ?_, ?_, fun hb => (hr.ok.bar _ hb).2.1 ⟨id, _, hg, by simp [AObj.blk, e1, Value.ownBlock]⟩⟩, q3⟩
          · rintro ⟨j, o, h1, h2⟩
            simp only at h1
            rw [hget_filter (fun i => !Nat.beq i id)] at h1
            split at h1
            · rename_i hj
              have := hr.ok.inj j id o _ g h1 hg h2 (by simp [AObj.blk, e1, Value.ownBlock])
              subst this
              simp at hj
            · cases h1
          · intro hm
            obtain ⟨_, hd⟩ := hr.ok.mks g hm
            rw [e3] at hd
            cases hd
      rw [List.set_set] at hset
      exact hset
    · cases h
  · cases h
  · cases h
    exact ⟨c, hr, Cx.Mono.refl c, rfl⟩

theorem ownSlots_case {s : Nat} {t : Ty} {l : List (Nat × Ty)} {st st' : St} (h : ownSlots ((s, t) :: l) st = some st') : (∃ t' st1, giveSlot s t' st = some st1 ∧ ownSlots l st1 = some st') ∨ ∃ st1, ownSlot s t st = some st1 ∧ ownSlots l st1 = some st' := by
  have own : (match ownSlot s t st with | some st => ownSlots l st | none => none) = some st' → ∃ st1, ownSlot s t st = some st1 ∧ ownSlots l st1 = some st' := fun h => by
    cases ho : ownSlot s t st with
    | none => rw [ho] at h; cases h
    | some st1 => rw [ho] at h; exact ⟨st1, rfl, h⟩
  cases t with
  | pair x y =>
    cases x with
    | unit =>
      left
      simp only [ownSlots] at h
      cases ho : giveSlot s y st with
      | none => rw [ho] at h; cases h
      | some st1 => rw [ho] at h; exact ⟨y, st1, ho, h⟩
    | _ => right; exact own h
  | _ => right; exact own h

theorem ownSlots_rel : ∀ (l : List (Nat × Ty)) {c : Cx} {st : St}, Rel W0 b0 rd c st a ats → ∀ {st' : St}, ownSlots l st = some st' → ∃ c', Rel W0 b0 rd c' st' a ats ∧ c.Mono c' ∧ c'.w = c.w
  | [], c, st, hr, st', h => by cases h; exact ⟨c, hr, Cx.Mono.refl c, rfl⟩
  | (s, t) :: l, c, st, hr, st', h => by
    rcases ownSlots_case h with ⟨t', st1, h1, h2⟩ | ⟨st1, h1, h2⟩
    · obtain ⟨c1, hr1, hm1, hw1⟩ := giveSlot_rel hr h1
      obtain ⟨c2, hr2, hm2, hw2⟩ := ownSlots_rel l hr1 h2
      exact ⟨c2, hr2, hm1.trans hm2, hw2.trans hw1⟩
    · obtain ⟨c1, hr1, hm1, hw1⟩ := ownSlot_rel hr h1
      obtain ⟨c2, hr2, hm2, hw2⟩ := ownSlots_rel l hr1 h2
      exact ⟨c2, hr2, hm1.trans hm2, hw2.trans hw1⟩

theorem trim_rel (hr : Rel W0 b0 rd c st a ats) {slots : List Nat} {owns : List (Nat × Ty)} {st' : St} (h : trim slots owns st = some st') : ∃ c', Rel W0 b0 rd c' st' a ats ∧ c.Mono c' ∧ c'.w = c.w := by
  simp only [trim] at h
  split at h
  · rename_i st1 h1
    have hr0 : Rel W0 b0 rd c { st with fr := keepL slots 0 st.fr } a ats := ⟨hr.hp, hr.nxt, hr.ok, keepL_rel 0 _ _ hr.fr, hr.stk, hr.df, hr.rd⟩
    obtain ⟨c1, hr1, hm1, hw1⟩ := ownSlots_rel owns hr0 h1
    split at h
    · rename_i st2 h2
      cases h
      obtain ⟨c2, hr2, _, hm2, hw2, _, _⟩ := hr1.gc (v := .undef) (u := undef) (by simp [VRel]) h2
      obtain ⟨c3, hr3, hm3, hw3⟩ := hr2.anew
      exact ⟨c3, hr3, (hm1.trans hm2).trans hm3, hw3.trans (hw2.trans hw1)⟩
    · cases h
  · cases h

/-! ### slices that are given away -/

theorem giveSlots_rel : ∀ (l : List (Nat × Ty)) {c : Cx} {st : St}, Rel W0 b0 rd c st a ats → ∀ {st' : St}, giveSlots l st = some st' → ∃ c', Rel W0 b0 rd c' st' a ats ∧ c.Mono c' ∧ c'.w = c.w
  | [], c, st, hr, st', h => by cases h; exact ⟨c, hr, Cx.Mono.refl c, rfl⟩
  | (s, t) :: l, c, st, hr, st', h => by
    simp only [giveSlots] at h
    split at h
    · rename_i st1 h1
      obtain ⟨c1, hr1, hm1, hw1⟩ := giveSlot_rel hr h1
      obtain ⟨c2, hr2, hm2, hw2⟩ := giveSlots_rel l hr1 h
      exact ⟨c2, hr2, hm1.trans hm2, hw2.trans hw1⟩
    · cases h

theorem trimR_rel (hr : Rel W0 b0 rd c st a ats) {k : Keep} {st' : St} (h : trimR k st = some st') : ∃ c', Rel W0 b0 rd c' st' a ats ∧ c.Mono c' ∧ c'.w = c.w := by
  simp only [trimR] at h
  split at h
  · rename_i st1 h1
    have hr0 : Rel W0 b0 rd c { st with fr := keepL k.rets 0 st.fr } a ats := ⟨hr.hp, hr.nxt, hr.ok, keepL_rel 0 _ _ hr.fr, hr.stk, hr.df, hr.rd⟩
    obtain ⟨c1, hr1, hm1, hw1⟩ := giveSlots_rel k.give hr0 h1
    split at h
    · rename_i st2 h2
      cases h
      obtain ⟨c2, hr2, _, hm2, hw2, _, _⟩ := hr1.gc (v := .undef) (u := undef) (by simp [VRel]) h2
      obtain ⟨c3, hr3, hm3, hw3⟩ := hr2.anew
      exact ⟨c3, hr3, (hm1.trans hm2).trans hm3, hw3.trans (hw2.trans hw1)⟩
    · cases h
  · cases h
end
end Go.Proofs.YtipbcgjogddigaaGreatDoor
