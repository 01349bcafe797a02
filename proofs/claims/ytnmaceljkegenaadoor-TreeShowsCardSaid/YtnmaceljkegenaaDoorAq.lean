/-
  The plain machine: slices that become our own; what stays at a loop's head.
-/
import Derived.Test.YtnmaceljkegenaaDoorAp
namespace Go.Proofs.YtnmaceljkegenaaDoor
open Go.RowKit
set_option linter.unusedVariables false
set_option linter.unusedSimpArgs false

section
variable {P : Program} {T : TT} {W0 : World} {b0 n : Nat} {rd : Option Nat} {c : Cx} {R : Type} {r : R} {st : St} {a : Act} {ats : List (Array Value)}

theorem partI_cases {n lo hi : Int} (h : partI n lo hi = true) : 0 ≤ lo ∧ lo ≤ hi ∧ hi ≤ n := by
  simpa [partI, and_assoc] using h

theorem ownSlot_rel (hr : Rel W0 b0 rd c st a ats) {s : Nat} {t : Ty} {st' : St} (h : ownSlot s t st = some st') : ∃ c', Rel W0 b0 rd c' st' a ats ∧ c.Mono c' ∧ c'.w = c.w := by
  have hslot : ∀ hs : s < a.tmps.toList.length, VRel c (st.fr.getD s .undef) a.tmps.toList[s] := fun hs => by
    have := hr.fr.getD s
    rwa [Array.getD, dif_pos (by simpa using hs)] at this
  obtain ⟨fr, stk, hp, nxt⟩ := st
  simp only [ownSlot] at h
  split at h
  · rename_i hn
    simp only at hslot
    rw [hn] at hslot
    split at h
    · cases h
    · rename_i hg
      rw [cond_eq_ite] at h
      split at h
      · rename_i hb
        cases h
        simp only [Bool.and_eq_true] at hb
        have h1 : nxt ≤ 1000000 * stk.length + 800000 + s := by simpa [Nat.ble_eq] using hb.1
        have h2 : 0 < t.size := by have := hb.2; simp [Nat.blt] at this; omega
        obtain ⟨c', hd, hw, hv⟩ := new_arr hr.ok (st := ⟨fr, stk, hp, nxt⟩) hr.hp hr.nxt hg h1 (Nat.le_refl nxt) (y := t) h2 (xs := []) (v := .slice none 0 0) (w := c.w) (Below.refl _ _) byteTy [] ⟨by simp, .inl ⟨rfl, rfl⟩⟩ (by simp [LRel]) rfl (fun _ => rfl)
        have hr' := hr.did hd
        refine ⟨c', ⟨hr'.hp, hr'.nxt, hr'.ok, VRels.setL _ _ _ hr'.fr fun hs => ?_, hr'.stk, hr'.df, hr'.rd⟩, hd.le.mono, hw⟩
        have := hslot hs
        simp only [VRel] at this
        rw [this]; exact hv
      · cases h
  · rename_i id ver vw hn
    simp only at hslot
    rw [hn] at hslot
    split at h
    · rename_i u w xs hg
      rw [cond_eq_ite] at h
      split at h
      · rename_i hver
        have hver : w = ver := by simpa using hver
        subst hver
        split at h
        · cases h; exact ⟨c, hr, Cx.Mono.refl c, rfl⟩
        · rename_i lo hi
          rw [cond_eq_ite] at h
          split at h
          · rename_i hb
            cases h
            simp only [beq_iff_eq] at hb
            subst hb
            have hhp := hr.hp
            simp only at hhp
            subst hhp
            have hobj := hr.ok.obj id _ hg
            obtain ⟨hpos, e, zs, hown, hL, hty⟩ := hobj
            by_cases hs : s < a.tmps.toList.length
            · have hv := hslot hs
              simp only [VRel] at hv
              have hview := (hv.2.2 _ _ _ hg).2 rfl
              have ⟨hb1, hb2⟩ : 0 ≤ hi ∧ hi ≤ lenI xs := by
                obtain ⟨a1, n1, c1, e1, _, p2, p3, _⟩ := hview
                obtain ⟨a2, c2, e2, _⟩ := row_form hown
                rw [e2] at e1
                cases e1
                exact ⟨p2, p3⟩
              obtain ⟨hown', hblk⟩ := ownsRow_front hown hb1 hb2 hview
              have hk : (AObj.arr u w xs).like (c.mu id) (.arr u (w + 1) (xs.take hi.toNat)) ⟨(c.mu id).blk, a.tmps.toList[s]⟩ := ⟨by omega, fun e => by omega⟩
              have hle := Cx.Le.put (w := c.w) hr.ok hg hk (Nat.le_refl _) (fun _ _ _ => rfl) (fun b hb => .inl (hblk b hb)) (fun b L _ hL => ⟨L, hL⟩)
              have hok := Cx.Ok.put (w := c.w) hr.ok hg hk hr.ok.bel (Nat.le_refl _) (fun _ _ _ => rfl) (fun b hb => .inl (hblk b hb)) (fun b L _ hL => ⟨L, hL⟩) (by
                refine ⟨hpos, e, zs.take (hi.toNat * u.size), ?_, LRel.take _ _ _ (LRel.mono (DRel.mono hle.free u) _ _ hL), hty⟩
                have : (xs.take hi.toNat).length = hi.toNat := by rw [List.length_take]; simp only [lenI] at hb2; omega
                rw [this]
                simp only [Cx.put, upd_same]
                exact hown')
              refine ⟨c.put id (AObj.arr u (w + 1) (List.take hi.toNat xs)) ⟨(c.mu id).blk, a.tmps.toList[s]⟩ c.w, ⟨rfl, hr.nxt, hok, VRels.setL _ _ _ (VRels.le hle _ _ hr.fr) fun _ => ?_, Stk.le hle _ _ hr.stk, ?_, ?_⟩, hle.mono, rfl⟩
              · simp only [VRel]
                refine ⟨hv.1, .inl ⟨_, Cx.put_get hg⟩, fun t' u' xs' hg' => ?_⟩
                rw [Cx.put_get hg] at hg'
                cases hg'
                exact ⟨Nat.le_refl _, fun _ => by simp [ViewIs, Cx.put, upd_same]⟩
              · obtain ⟨ds, h1, h2, h3⟩ := hr.df
                exact ⟨ds, h1, h2, h3⟩
              · exact hr.rd
            · exfalso
              have hl := VRels.length _ _ hr.fr
              rw [List.getD_eq_getElem?_getD, List.getElem?_eq_none (by simp only at hl; omega)] at hn
              cases hn
          · cases h
      · cases h
    · cases h
  · cases h

theorem giveSlot_rel (hr : Rel W0 b0 rd c st a ats) {s : Nat} {t : Ty} {st' : St} (h : giveSlot s t st = some st') : ∃ c', Rel W0 b0 rd c' st' a ats ∧ c.Mono c' ∧ c'.w = c.w := by
  have hslot : ∀ hs : s < a.tmps.toList.length, VRel c (st.fr.getD s .undef) a.tmps.toList[s] := fun hs => by
    have := hr.fr.getD s
    rwa [Array.getD, dif_pos (by simpa using hs)] at this
  have empty : ∀ (hv : ∀ hs : s < a.tmps.toList.length, ∃ av, a.tmps.toList[s] = .slice av 0 0), ∃ c', Rel W0 b0 rd c' { st with fr := st.fr.set s (.val (.list t) []) } a ats ∧ c.Mono c' ∧ c'.w = c.w := fun hv =>
    ⟨c, ⟨hr.hp, hr.nxt, hr.ok, VRels.setL _ _ _ hr.fr fun hs => by
      obtain ⟨av, hav⟩ := hv hs
      rw [hav]
      simp only [VRel]
      exact (VD.leaf rfl).2 ⟨av, 0, [], rfl, Nat.le_refl _, rfl, .inl rfl⟩, hr.stk, hr.df, hr.rd⟩, Cx.Mono.refl c, rfl⟩
  unfold giveSlot at h
  split at h
  · rename_i hn
    rw [hn] at hslot
    cases h
    exact empty fun hs => ⟨none, by have := hslot hs; simpa only [VRel] using this⟩
  · rename_i hn
    rw [hn] at hslot
    cases h
    exact empty fun hs => by have := hslot hs; simpa only [VRel] using this
  · rename_i id ver hn
    rw [hn] at hslot
    split at h
    · rename_i u w xs hg
      replace h := bif_some h
      obtain ⟨hb, h⟩ := h
      simp only [Bool.and_eq_true, beq_iff_eq] at hb
      obtain ⟨rfl, hno⟩ := hb
      cases h
      obtain ⟨fr, stk, hp, nxt⟩ := st
      have hhp := hr.hp
      simp only at hhp hg hno hn
      subst hhp
      have hfr0 : VRels c (fr.set s .undef) a.tmps.toList := VRels.setL _ _ _ hr.fr fun _ => by simp [VRel]
      have hk := Cx.keeps_filter (c := c) (p := fun i => !Nat.beq i id) (noneOf_spec hno)
      have hok' := hr.ok.filter (p := fun i => !Nat.beq i id) hk.right
      have hrel : Rel W0 b0 rd { c with hp := c.hp.filter fun e => !Nat.beq e.1 id } ⟨fr.set s .undef, stk, c.hp.filter fun e => !Nat.beq e.1 id, nxt⟩ a ats :=
        ⟨rfl, hr.nxt, hok', VRels.keeps _ _ hk.left.left hfr0, Stk.keeps _ _ hk.left.right hr.stk, hr.df, hr.rd⟩
      refine ⟨{ c with hp := c.hp.filter fun e => !Nat.beq e.1 id }, ⟨rfl, hrel.nxt, hrel.ok, ?_, hrel.stk, hrel.df, hrel.rd⟩, ⟨fun _ h => h, fun b L h => ⟨L, h⟩, Nat.le_refl _, rfl, out_filter c fun i => !Nat.beq i id⟩, rfl⟩
      have hset := VRels.setL (z := .val (.list u) xs) s _ _ hrel.fr fun hs => by
        have hv := hslot hs
        simp only [VRel] at hv ⊢
        have hu := (hv.2.2 _ _ _ hg).2 rfl
        simp only [ViewIs] at hu
        obtain ⟨hpos, e, zs, hown, hL, hty⟩ := hr.ok.obj id _ hg
        rw [hu]
        have hL' := LRel.mono (DRel.mono hk.free u) _ _ hL
        rcases hown.2 with ⟨e1, e2⟩ | ⟨g, cap, cur, e1, e2, e3, e4, e5, e6, e7⟩
        · have hx : xs = [] := List.eq_nil_of_length_eq_zero e2
          subst hx
          rw [e1]
          exact (VD.leaf rfl).2 ⟨none, 0, [], rfl, Nat.le_refl _, rfl, .inl rfl⟩
        · obtain ⟨a2, cp2, f1, f2, f3⟩ := row_form2 hown
          rw [e1] at f1
          cases f1
          rw [e1]
          refine (VD.leaf rfl).2 ⟨_, _, zs, rfl, e4, hL', f3.imp (fun h => h) fun ⟨g', q1, q2, q4, q3⟩ => ?_⟩
          cases q1
          refine ⟨g, 0, rfl, ⟨q2, ?_, ?_, fun hb => (hr.ok.bar _ hb).2.1 ⟨id, _, hg, by simp [AObj.blk, e1, Value.ownBlock]⟩⟩, q3⟩
          · rintro ⟨j, o, h1, h2⟩
            simp only at h1
            rw [hget_filter (fun i => !Nat.beq i id)] at h1
            split at h1
            · rename_i hj
              have := hr.ok.inj j id o _ g h1 hg h2 (by simp [AObj.blk, e1, Value.ownBlock])
              subst this
              simp at hj
            · cases h1
          · intro hm
            obtain ⟨_, hd⟩ := hr.ok.mks g hm
            rw [e3] at hd
            cases hd
      rw [List.set_set] at hset
      exact hset
    · cases h
  · cases h
  · cases h
    exact ⟨c, hr, Cx.Mono.refl c, rfl⟩

theorem ownCell0_rel (hr : Rel W0 b0 rd c st a ats) {id off : Nat} {t : Ty} {st' : St} (h : ownCell0 id off t st = some st') : ∃ c', Rel W0 b0 rd c' st' a ats ∧ c.Mono c' ∧ c'.w = c.w := by
  have same : some st = some st' → ∃ c', Rel W0 b0 rd c' st' a ats ∧ c.Mono c' ∧ c'.w = c.w := fun h => by cases h; exact ⟨c, hr, Cx.Mono.refl c, rfl⟩
  obtain ⟨fr, stk, hp, nxt⟩ := st
  simp only [ownCell0] at h
  split at h
  · rename_i bt cs hbox
    split at h
    · rename_i hcell
      split at h
      · rename_i t'
        cases h
        have hbox' : hget c.hp id = some (.box bt cs) := by rw [hr.hp]; exact hbox
        obtain ⟨hB, us, h3, h4, h5⟩ := hr.ok.obj id _ hbox'
        have hnil : ∀ ho : off < us.toList.length, us.toList[off] = .slice none 0 0 := fun ho => by
          have := VRels.getD h4 off
          rw [hcell, Array.getD, dif_pos (by simpa using ho)] at this
          simp only [VRel] at this
          exact this
        have hk2 : (AObj.box bt cs).like (c.mu id) (.box bt (cs.set off (.val (.list t') []))) (c.mu id) := rfl
        have hle2 := Cx.Le.put (w := c.w) hr.ok hbox' hk2 (Nat.le_refl _) (fun _ _ _ => rfl) (fun b hb => .inl hb) (fun b L _ hL => ⟨L, hL⟩)
        have hok2 := Cx.Ok.put (w := c.w) hr.ok hbox' hk2 hr.ok.bel (Nat.le_refl _) (fun _ _ _ => rfl) (fun b hb => .inl hb) (fun b L _ hL => ⟨L, hL⟩) (by
          refine ⟨by simp only [Cx.put, upd_same]; exact hB, us, by simp only [Cx.put, upd_same]; exact h3, ?_, h5⟩
          exact VRels.le hle2 _ _ (VRels.setL off _ _ h4 fun ho => by
            rw [hnil ho]
            simp only [VRel]
            exact (VD.leaf rfl).2 ⟨none, 0, [], rfl, Nat.le_refl _, rfl, .inl rfl⟩))
        refine ⟨c.put id (.box bt (cs.set off (.val (.list t') []))) (c.mu id) c.w, ⟨?_, hr.nxt, hok2, VRels.le hle2 _ _ hr.fr, Stk.le hle2 _ _ hr.stk, ?_, ?_⟩, hle2.mono, rfl⟩
        · simp only [Cx.put]
          rw [hr.hp]
        · obtain ⟨ds, q1, q2, q3⟩ := hr.df
          exact ⟨ds, q1, q2, q3⟩
        · exact hr.rd
      generalize id + 500000 + 2000 * off = nm at h
      split at h
      · cases h
      · rename_i hg
        rw [cond_eq_ite] at h
        split at h
        · rename_i hb
          cases h
          simp only [Bool.and_eq_true] at hb
          have h1 : nxt ≤ nm := by simpa [Nat.ble_eq] using hb.1
          have h2 : 0 < t.size := by have := hb.2; simp [Nat.blt] at this; omega
          have hne : nm ≠ id := fun e => by rw [e, hbox] at hg; cases hg
          obtain ⟨c', hd, hw, hv⟩ := new_arr hr.ok (st := ⟨fr, stk, hp, nxt⟩) hr.hp hr.nxt hg h1 (Nat.le_refl nxt) (y := t) h2 (xs := []) (v := .slice none 0 0) (w := c.w) (Below.refl _ _) byteTy [] ⟨by simp, .inl ⟨rfl, rfl⟩⟩ (by simp [LRel]) rfl (fun _ => rfl)
          have hr' := hr.did hd
          have hbox' : hget c'.hp id = some (.box bt cs) := by
            rw [hd.hp]
            simp only [hget_cons]
            rw [if_neg hne]
            exact hbox
          obtain ⟨hB, us, h3, h4, h5⟩ := hr'.ok.obj id _ hbox'
          have hnil : ∀ ho : off < us.toList.length, us.toList[off] = .slice none 0 0 := fun ho => by
            have := VRels.getD h4 off
            rw [hcell, Array.getD, dif_pos (by simpa using ho)] at this
            simp only [VRel] at this
            exact this
          have hk2 : (AObj.box bt cs).like (c'.mu id) (.box bt (cs.set off (.slc nm 0 none))) (c'.mu id) := rfl
          have hle2 := Cx.Le.put (w := c'.w) hr'.ok hbox' hk2 (Nat.le_refl _) (fun _ _ _ => rfl) (fun b hb => .inl hb) (fun b L _ hL => ⟨L, hL⟩)
          have hok2 := Cx.Ok.put (w := c'.w) hr'.ok hbox' hk2 hr'.ok.bel (Nat.le_refl _) (fun _ _ _ => rfl) (fun b hb => .inl hb) (fun b L _ hL => ⟨L, hL⟩) (by
            refine ⟨by simp only [Cx.put, upd_same]; exact hB, us, by simp only [Cx.put, upd_same]; exact h3, ?_, h5⟩
            exact VRels.le hle2 _ _ (VRels.setL off _ _ h4 fun ho => by rw [hnil ho]; exact hv))
          refine ⟨c'.put id (.box bt (cs.set off (.slc nm 0 none))) (c'.mu id) c'.w, ⟨?_, hr'.nxt, hok2, VRels.le hle2 _ _ hr'.fr, Stk.le hle2 _ _ hr'.stk, ?_, ?_⟩, hd.le.mono.trans hle2.mono, hw⟩
          · simp only [Cx.put]
            rw [hd.hp]
          · obtain ⟨ds, q1, q2, q3⟩ := hr'.df
            exact ⟨ds, q1, q2, q3⟩
          · exact hr'.rd
        · cases h
    · exact same h
  · exact same h

theorem hget_hins (k : Nat) (o : AObj) (i : Nat) : ∀ h : Heap, hget (hins k o h) i = if k = i then some o else hget h i
  | [] => by simp [hins, hget_cons]
  | (j, p) :: h => by
    simp only [hins]
    rw [cond_eq_ite]
    split
    · rw [hget_cons]
    · rename_i hb
      have hne : j ≠ k := fun e => hb (by subst e; exact by simp [Nat.ble_eq])
      rw [hget_cons, hget_hins k o i h, hget_cons]
      split
      · rename_i e; subst e; rw [if_neg (fun e => hne e.symm)]
      · rfl
theorem hget_sortH (i : Nat) : ∀ h : Heap, hget (sortH h) i = hget h i
  | [] => rfl
  | (k, o) :: h => by simp only [sortH]; rw [hget_hins, hget_sortH i h, hget_cons]

theorem Rel.sorted (hr : Rel W0 b0 rd c st a ats) : ∃ c', Rel W0 b0 rd c' { st with hp := sortH st.hp } a ats ∧ c.Mono c' ∧ c'.w = c.w := by
  have hg : ∀ i, hget (sortH c.hp) i = hget c.hp i := fun i => hget_sortH i _
  have hself : ∀ (o : AObj) (l : Loc), o.like l o l := fun o l => by
    cases o <;> simp [AObj.like]
  have hle : c.Le { c with hp := sortH c.hp } := by
    refine ⟨fun b hb => ⟨⟨hb.1, fun ⟨j, o, h1, h2⟩ => hb.2.1 ⟨j, o, by rw [← hg]; exact h1, h2⟩, hb.2.2⟩, rfl⟩, fun id hk => ?_, fun id o' _ h => ⟨o', by rw [← hg]; exact h, hself _ _⟩, fun _ h => h, fun b L h => ⟨L, h⟩, Nat.le_refl _, rfl⟩
    rcases hk with ⟨o, h⟩ | h
    · exact .inl ⟨o, by show hget (sortH c.hp) id = some o; rw [hg]; exact h⟩
    · exact .inr h
  have hok : ({ c with hp := sortH c.hp } : Cx).Ok W0 := by
    refine ⟨hr.ok.bel, fun id o h => ?_, fun i j o p b h1 h2 => hr.ok.inj i j o p b (by rw [← hg]; exact h1) (by rw [← hg]; exact h2), hr.ok.mks, fun b hb => (hle.out b (hr.ok.bar b hb)).1, hr.ok.phi⟩
    exact (hr.ok.obj id o (by rw [← hg]; exact h)).le hle rfl fun b _ => rfl
  exact ⟨{ c with hp := sortH c.hp }, ⟨by show sortH c.hp = sortH st.hp; rw [hr.hp], hr.nxt, hok, VRels.le hle _ _ hr.fr, Stk.le hle _ _ hr.stk, hr.df, hr.rd⟩, hle.mono, rfl⟩

theorem ownCell_rel (hr : Rel W0 b0 rd c st a ats) {id off : Nat} {t : Ty} {st' : St} (h : ownCell id off t st = some st') : ∃ c', Rel W0 b0 rd c' st' a ats ∧ c.Mono c' ∧ c'.w = c.w := by
  simp only [ownCell] at h
  split at h
  · rename_i st1 h1
    cases h
    obtain ⟨c1, r1, m1, w1⟩ := ownCell0_rel hr h1
    obtain ⟨c2, r2, m2, w2⟩ := r1.sorted
    exact ⟨c2, r2, m1.trans m2, w2.trans w1⟩
  · cases h

theorem renSlot_rel (hr : Rel W0 b0 rd c st a ats) {s : Nat} {t : Ty} {st' : St} (h : renSlot s t st = some st') : ∃ c', Rel W0 b0 rd c' st' a ats ∧ c.Mono c' ∧ c'.w = c.w := by
  have hslot : ∀ hs : s < a.tmps.toList.length, VRel c (st.fr.getD s .undef) a.tmps.toList[s] := fun hs => by
    have := hr.fr.getD s
    rwa [Array.getD, dif_pos (by simpa using hs)] at this
  unfold renSlot at h
  generalize hN : 1000000 * st.stk.length + 800000 + s = N at h
  split at h
  · rename_i id ver hn
    rw [hn] at hslot
    rw [cond_eq_ite] at h
    split at h
    · cases h; exact hr.sorted
    · rename_i hne
      have hne : id ≠ N := fun e => hne (by simp [e])
      split at h
      · rename_i u w xs hg
        obtain ⟨hb, h⟩ := bif_some h
        simp only [Bool.and_eq_true] at hb
        obtain ⟨hnx, hno⟩ := hb
        cases h
        obtain ⟨fr, stk, hp, nxt⟩ := st
        have hhp := hr.hp
        have hcn := hr.nxt
        simp only at hhp hg hno hn hnx hcn
        subst hhp
        subst hcn
        have hnx : c.nxt ≤ N := by simpa [Nat.ble_eq] using hnx
        have hno' : ∀ i ∈ refsL (fr.set s .undef) ++ refsLL stk ++ refsH (c.hp.filter fun e => !(Nat.beq e.1 id || Nat.beq e.1 N)), i ≠ id ∧ i ≠ N := fun i hi => by
          have := noneOf_spec hno i hi
          simp only [List.mem_cons, List.not_mem_nil, or_false, not_or] at this
          exact this
        have hget2 : ∀ i, hget (sortH ((N, .arr u w xs) :: c.hp.filter fun e => !(Nat.beq e.1 id || Nat.beq e.1 N))) i = if N = i then some (.arr u w xs) else if i = id then none else hget c.hp i := fun i => by
          rw [hget_sortH, hget_cons]
          split
          · rfl
          · rename_i hNi
            rw [hget_filter (fun i => !(Nat.beq i id || Nat.beq i N))]
            have h1 : Nat.beq i N = false := Bool.eq_false_iff.2 fun h => hNi (Nat.eq_of_beq_eq_true h).symm
            by_cases e : i = id
            · simp [e]
            · have h2 : Nat.beq i id = false := Bool.eq_false_iff.2 fun h => e (Nat.eq_of_beq_eq_true h)
              rw [h1, h2, if_neg e]; rfl
        generalize hH : sortH ((N, .arr u w xs) :: c.hp.filter fun e => !(Nat.beq e.1 id || Nat.beq e.1 N)) = H at *
        generalize hc2 : ({ c with mu := Go.Proofs.YtnmaceljkegenaaDoor.upd c.mu N (c.mu id), hp := H } : Cx) = c2
        have e_hp : c2.hp = H := by rw [← hc2]
        have e_w : c2.w = c.w := by rw [← hc2]
        have e_nxt : c2.nxt = c.nxt := by rw [← hc2]
        have e_mks : c2.mks = c.mks := by rw [← hc2]
        have e_bar : c2.bar = c.bar := by rw [← hc2]
        have e_muN : c2.mu N = c.mu id := by rw [← hc2]; exact upd_same ..
        have e_mu : ∀ i, i ≠ N → c2.mu i = c.mu i := fun i hi => by rw [← hc2]; simp [Go.Proofs.YtnmaceljkegenaaDoor.upd, hi]
        have claim : ∀ b, (∃ i o, hget c2.hp i = some o ∧ o.blk (c2.mu i) = some b) → ∃ i o, hget c.hp i = some o ∧ o.blk (c.mu i) = some b := fun b ⟨i, o, h1, h2⟩ => by
          rw [e_hp, hget2] at h1
          split at h1
          · rename_i e; subst e; cases h1; rw [e_muN] at h2; exact ⟨id, _, hg, h2⟩
          · rename_i e
            split at h1
            · cases h1
            · rw [e_mu i (fun q => e q.symm)] at h2; exact ⟨i, o, h1, h2⟩
        have hout : ∀ b, c.out b → c2.out b := fun b hb => ⟨by rw [e_w]; exact hb.1, fun h => hb.2.1 (claim b h), by rw [e_mks]; exact hb.2.2⟩
        have hfree : ∀ b, c.free b → c2.free b ∧ c2.w.heap[b]? = c.w.heap[b]? := fun b hb => ⟨⟨by rw [e_w]; exact hb.1, fun h => hb.2.1 (claim b h), by rw [e_mks, e_bar]; exact hb.2.2⟩, by rw [e_w]⟩
        have keeps : ∀ l : List Nat, (∀ i ∈ l, i ≠ id ∧ i ≠ N) → c.Keeps c2 l := fun l hl => by
          refine ⟨hfree, fun i hi hk => ?_, fun i hi o' ho => ?_⟩
          · rcases hk with ⟨o, ho⟩ | hk
            · left
              refine ⟨o, ?_⟩
              rw [e_hp, hget2, if_neg (fun e => (hl i hi).2 e.symm), if_neg (hl i hi).1]
              exact ho
            · right; rw [e_nxt]; exact hk
          · rw [e_hp, hget2, if_neg (fun e => (hl i hi).2 e.symm), if_neg (hl i hi).1] at ho
            refine ⟨o', ho, ?_⟩
            rw [e_mu i (hl i hi).2]
            exact o'.like_refl _
        have hmemf : ∀ i o, i ≠ id → i ≠ N → hget c.hp i = some o → (i, o) ∈ c.hp.filter fun e => !(Nat.beq e.1 id || Nat.beq e.1 N) := fun i o hi hi2 ho => List.mem_filter.2 ⟨hget_mem _ _ _ ho, by
          have h1 : Nat.beq i N = false := Bool.eq_false_iff.2 fun h => hi2 (Nat.eq_of_beq_eq_true h)
          have h2 : Nat.beq i id = false := Bool.eq_false_iff.2 fun h => hi (Nat.eq_of_beq_eq_true h)
          show (!(Nat.beq i id || Nat.beq i N)) = true
          rw [h1, h2]; rfl⟩
        have hok : c2.Ok W0 := by
          refine ⟨by rw [e_w]; exact hr.ok.bel, fun i o ho => ?_, fun i j o q b h1 h2 h3 h4 => ?_, fun r hrm => by rw [e_w]; exact hr.ok.mks r (by rw [← e_mks]; exact hrm), fun b hb => hout b (hr.ok.bar b (by rw [← e_bar]; exact hb)), hr.ok.phi⟩
          · rw [e_hp, hget2] at ho
            split at ho
            · rename_i e; subst e; cases ho
              obtain ⟨hpos, e, zs, hown, hL, hty⟩ := hr.ok.obj id _ hg
              refine ⟨hpos, e, zs, ?_, ?_, hty⟩
              · rw [e_muN, e_w]; exact hown
              · rw [e_w]
                have := LRel.mono (DRel.mono hfree u) _ _ hL
                rwa [e_w] at this
            · rename_i e
              split at ho
              · cases ho
              · rename_i e2
                have h0 := hr.ok.obj i o ho
                have hm := hmemf i o e2 (fun q => e q.symm) ho
                have hk := fun j hj => hno' j (List.mem_append_right _ (refsH_mem _ _ hm j hj))
                have hmu := e_mu i (fun q => e q.symm)
                cases o with
                | box e cs =>
                  obtain ⟨h1, vs, h2, h3, h4⟩ := h0
                  refine ⟨by rw [hmu]; exact h1, vs, by rw [hmu, e_w]; exact h2, VRels.keeps _ _ (keeps _ hk) h3, h4⟩
                | arr t ver xs =>
                  obtain ⟨h0, e, zs, h1, h2, h3⟩ := h0
                  refine ⟨h0, e, zs, by rw [hmu, e_w]; exact h1, ?_, h3⟩
                  have := LRel.mono (DRel.mono hfree t) _ _ h2
                  exact this
                | lp f fr ps asg bd ky n p =>
                  obtain ⟨h0, h1, L, h2, h3, h4⟩ := h0
                  refine ⟨h0, by rw [hmu]; exact h1, L, by rw [hmu, e_w]; exact h2, VRels.keeps _ _ (keeps _ hk) h3, h4⟩
                | dead => trivial
                | mp kk vk es => 
                  have hmp := h0
                  simp only [Cx.ORel, hmu, e_w] at hmp ⊢
                  exact hmp
          · rw [e_hp, hget2] at h1 h2
            split at h1 <;> split at h2
            · rename_i e1 e2; exact e1.symm.trans e2
            · rename_i e1 e2
              split at h2
              · cases h2
              · rename_i e3
                subst e1
                cases h1
                rw [e_muN] at h3
                rw [e_mu j (fun q => e2 q.symm)] at h4
                exact absurd (hr.ok.inj id j _ q b hg h2 h3 h4).symm e3
            · rename_i e1 e2
              split at h1
              · cases h1
              · rename_i e3
                subst e2
                cases h2
                rw [e_muN] at h4
                rw [e_mu i (fun q => e1 q.symm)] at h3
                exact absurd (hr.ok.inj i id o _ b h1 hg h3 h4) e3
            · rename_i e1 e2
              split at h1
              · cases h1
              · split at h2
                · cases h2
                · rw [e_mu i (fun q => e1 q.symm)] at h3
                  rw [e_mu j (fun q => e2 q.symm)] at h4
                  exact hr.ok.inj i j o q b h1 h2 h3 h4
        have hfr0 : VRels c (fr.set s .undef) a.tmps.toList := VRels.setL _ _ _ hr.fr fun _ => by simp [VRel]
        have kl := keeps _ hno'
        have hfr1 := VRels.keeps _ _ kl.left.left hfr0
        have hset := VRels.setL (z := .slc N ver none) s _ _ hfr1 fun hs => by
          have hv := hslot hs
          simp only [VRel] at hv ⊢
          refine ⟨hv.1, .inl ⟨_, by rw [e_hp, hget2, if_pos rfl]⟩, fun t' u' xs' hg' => ?_⟩
          rw [e_hp, hget2, if_pos rfl] at hg'
          cases hg'
          have := hv.2.2 _ _ _ hg
          refine ⟨this.1, fun e => ?_⟩
          have h2 := this.2 e
          simp only [ViewIs] at h2 ⊢
          rw [e_muN]; exact h2
        rw [List.set_set] at hset
        exact ⟨c2, ⟨by rw [e_hp], e_nxt, hok, hset, Stk.keeps _ _ kl.left.right hr.stk, by rw [e_mks]; exact hr.df, by rw [e_w]; exact hr.rd⟩,
          ⟨fun _ h => by rw [e_mks]; exact h, fun b L h => ⟨L, by rw [e_w]; exact h⟩, by rw [e_w]; exact Nat.le_refl _, e_bar, fun b hb => ⟨hout b hb, by rw [e_w]⟩⟩, e_w⟩
      · cases h
  · cases ho : ownSlot s t st with
    | none => rw [ho] at h; cases h
    | some st1 =>
      rw [ho] at h
      cases h
      obtain ⟨c1, hr1, hm1, hw1⟩ := ownSlot_rel hr ho
      obtain ⟨c2, hr2, hm2, hw2⟩ := hr1.sorted
      exact ⟨c2, hr2, hm1.trans hm2, hw2.trans hw1⟩

theorem ownSlots_case {s : Nat} {t : Ty} {l : List (Nat × Ty)} {st st' : St} (h : ownSlots ((s, t) :: l) st = some st') : (∃ t' st1, giveSlot s t' st = some st1 ∧ ownSlots l st1 = some st') ∨ (∃ t' st1, ownCell (s / 100) (s % 100) t' st = some st1 ∧ ownSlots l st1 = some st') ∨ (∃ t' st1, renSlot s t' st = some st1 ∧ ownSlots l st1 = some st') ∨ ∃ st1, ownSlot s t st = some st1 ∧ ownSlots l st1 = some st' := by
  have own : (match ownSlot s t st with | some st => ownSlots l st | none => none) = some st' → ∃ st1, ownSlot s t st = some st1 ∧ ownSlots l st1 = some st' := fun h => by
    cases ho : ownSlot s t st with
    | none => rw [ho] at h; cases h
    | some st1 => rw [ho] at h; exact ⟨st1, rfl, h⟩
  cases t with
  | pair x y =>
    cases x with
    | unit =>
      left
      simp only [ownSlots] at h
      cases ho : giveSlot s y st with
      | none => rw [ho] at h; cases h
      | some st1 => rw [ho] at h; exact ⟨y, st1, ho, h⟩
    | list z =>
      cases z with
      | unit =>
        right; left
        simp only [ownSlots] at h
        cases ho : ownCell (s / 100) (s % 100) y st with
        | none => rw [ho] at h; cases h
        | some st1 => rw [ho] at h; exact ⟨y, st1, ho, h⟩
      | bool =>
        right; right; left
        simp only [ownSlots] at h
        cases ho : renSlot s y st with
        | none => rw [ho] at h; cases h
        | some st1 => rw [ho] at h; exact ⟨y, st1, ho, h⟩
      | _ => right; right; right; exact own h
    | _ => right; right; right; exact own h
  | _ => right; right; right; exact own h

theorem ownSlots_rel : ∀ (l : List (Nat × Ty)) {c : Cx} {st : St}, Rel W0 b0 rd c st a ats → ∀ {st' : St}, ownSlots l st = some st' → ∃ c', Rel W0 b0 rd c' st' a ats ∧ c.Mono c' ∧ c'.w = c.w
  | [], c, st, hr, st', h => by cases h; exact ⟨c, hr, Cx.Mono.refl c, rfl⟩
  | (s, t) :: l, c, st, hr, st', h => by
    rcases ownSlots_case h with ⟨t', st1, h1, h2⟩ | ⟨t', st1, h1, h2⟩ | ⟨t', st1, h1, h2⟩ | ⟨st1, h1, h2⟩
    · obtain ⟨c1, hr1, hm1, hw1⟩ := giveSlot_rel hr h1
      obtain ⟨c2, hr2, hm2, hw2⟩ := ownSlots_rel l hr1 h2
      exact ⟨c2, hr2, hm1.trans hm2, hw2.trans hw1⟩
    · obtain ⟨c1, hr1, hm1, hw1⟩ := ownCell_rel hr h1
      obtain ⟨c2, hr2, hm2, hw2⟩ := ownSlots_rel l hr1 h2
      exact ⟨c2, hr2, hm1.trans hm2, hw2.trans hw1⟩
    · obtain ⟨c1, hr1, hm1, hw1⟩ := renSlot_rel hr h1
      obtain ⟨c2, hr2, hm2, hw2⟩ := ownSlots_rel l hr1 h2
      exact ⟨c2, hr2, hm1.trans hm2, hw2.trans hw1⟩
    · obtain ⟨c1, hr1, hm1, hw1⟩ := ownSlot_rel hr h1
      obtain ⟨c2, hr2, hm2, hw2⟩ := ownSlots_rel l hr1 h2
      exact ⟨c2, hr2, hm1.trans hm2, hw2.trans hw1⟩

theorem trim_rel (hr : Rel W0 b0 rd c st a ats) {slots : List Nat} {owns : List (Nat × Ty)} {st' : St} (h : trim slots owns st = some st') : ∃ c', Rel W0 b0 rd c' st' a ats ∧ c.Mono c' ∧ c'.w = c.w := by
  have hr0 : Rel W0 b0 rd c { st with fr := keepL slots 0 st.fr } a ats := ⟨hr.hp, hr.nxt, hr.ok, keepL_rel 0 _ _ hr.fr, hr.stk, hr.df, hr.rd⟩
  have go : ∀ {c0 : Cx} {st0 : St}, Rel W0 b0 rd c0 st0 a ats → (match ownSlots owns st0 with
      | some st => match gc (1000000 * st.stk.length) .undef st with
        | some st => some (anewSt st)
        | none => none
      | none => none) = some st' → ∃ c', Rel W0 b0 rd c' st' a ats ∧ c0.Mono c' ∧ c'.w = c0.w := fun {c0 st0} hr0 h => by
    split at h
    · rename_i st1 h1
      obtain ⟨c1, hr1, hm1, hw1⟩ := ownSlots_rel owns hr0 h1
      split at h
      · rename_i st2 h2
        cases h
        obtain ⟨c2, hr2, _, hm2, hw2, _, _⟩ := hr1.gc (v := .undef) (u := undef) (by simp [VRel]) h2
        obtain ⟨c3, hr3, hm3, hw3⟩ := hr2.anew
        exact ⟨c3, hr3, (hm1.trans hm2).trans hm3, hw3.trans (hw2.trans hw1)⟩
      · cases h
    · cases h
  unfold trim at h
  split at h
  · rename_i st1 h1
    split at h1
    · cases h1; exact go hr0 h
    · obtain ⟨c1, hr1, _, hm1, hw1, _, _⟩ := hr0.gc (v := .undef) (u := undef) (by simp [VRel]) h1
      obtain ⟨c2, hr2, hm2, hw2⟩ := go hr1 h
      exact ⟨c2, hr2, hm1.trans hm2, hw2.trans hw1⟩
  · cases h

/-! ### slices that are given away -/

theorem giveSlots_rel : ∀ (l : List (Nat × Ty)) {c : Cx} {st : St}, Rel W0 b0 rd c st a ats → ∀ {st' : St}, giveSlots l st = some st' → ∃ c', Rel W0 b0 rd c' st' a ats ∧ c.Mono c' ∧ c'.w = c.w
  | [], c, st, hr, st', h => by cases h; exact ⟨c, hr, Cx.Mono.refl c, rfl⟩
  | (s, t) :: l, c, st, hr, st', h => by
    simp only [giveSlots] at h
    split at h
    · rename_i st1 h1
      obtain ⟨c1, hr1, hm1, hw1⟩ := giveSlot_rel hr h1
      obtain ⟨c2, hr2, hm2, hw2⟩ := giveSlots_rel l hr1 h
      exact ⟨c2, hr2, hm1.trans hm2, hw2.trans hw1⟩
    · cases h

theorem trimR_rel (hr : Rel W0 b0 rd c st a ats) {k : Keep} {st' : St} (h : trimR k st = some st') : ∃ c', Rel W0 b0 rd c' st' a ats ∧ c.Mono c' ∧ c'.w = c.w := by
  simp only [trimR] at h
  split at h
  · rename_i st1 h1
    have hr0 : Rel W0 b0 rd c { st with fr := keepL k.rets 0 st.fr } a ats := ⟨hr.hp, hr.nxt, hr.ok, keepL_rel 0 _ _ hr.fr, hr.stk, hr.df, hr.rd⟩
    obtain ⟨c1, hr1, hm1, hw1⟩ := giveSlots_rel k.give hr0 h1
    split at h
    · rename_i st2 h2
      cases h
      obtain ⟨c2, hr2, _, hm2, hw2, _, _⟩ := hr1.gc (v := .undef) (u := undef) (by simp [VRel]) h2
      obtain ⟨c3, hr3, hm3, hw3⟩ := hr2.anew
      exact ⟨c3, hr3, (hm1.trans hm2).trans hm3, hw3.trans (hw2.trans hw1)⟩
    · cases h
  · cases h
end
end Go.Proofs.YtnmaceljkegenaaDoor
