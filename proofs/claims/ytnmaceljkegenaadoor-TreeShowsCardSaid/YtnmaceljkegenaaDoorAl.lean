/-
  The plain machine: appending, storing, converting.
-/
import Derived.Test.YtnmaceljkegenaaDoorAk
import Derived.Lib.AppendStr
namespace Go.Proofs.YtnmaceljkegenaaDoor
open Go.RowKit
set_option linter.unusedVariables false
set_option linter.unusedSimpArgs false

section
variable {P : Program} {T : TT} {W0 : World} {c : Cx} {R : Type} {r : R} {t : TypeId}

theorem ownsRow_take {w : World} {B : Nat} {e : TypeId} {size n cap g : Nat} {zs : List Value} (h : w.ownsRow B e size (.slice (some ⟨g, 0, none⟩) n cap) n zs) {k : Nat} (hk : k ≤ n) :
    w.ownsRow B e size (.slice (some ⟨g, 0, none⟩) k cap) k (zs.take (k * size)) := by
  have hl := h.1
  have hm := Nat.mul_le_mul_right size hk
  refine ⟨by simp; omega, .inr ?_⟩
  rcases h.2 with ⟨e1, _⟩ | ⟨g', cap', cur, e1, e2, e3, e4, e5, e6, e7⟩
  · cases e1
  · cases e1
    refine ⟨g, cap, cur, rfl, e2, e3, by omega, e5, e6, ?_⟩
    rw [← e7, List.take_take, Nat.min_eq_left hm]

/-- appending onto a row of our own, whatever its block was made for -/
theorem append_run (hT : TOk P T) {et : TypeId} (hu : P.underlying t = some (.slice et)) {w : World} {B : Nat} {i : TypeInfo} {z : Value} {size bytes : Nat} (hi : P.info? et = some i) (hz : i.zero = some z) (hsize : i.size = size) (hby : i.bytes = bytes)
    (hzs : z.cells.size = size) (hsz : 0 < size) {e0 : TypeId} {v : Value} {n : Nat} {zs : List Value} (hown : w.ownsRow B e0 size v n zs) {a : Option Addr} {m cp : Nat} {news : List Value} (hl : news.length = m * size) (h1 : ∀ u ∈ news, u.oneCell' = true)
    (hnews : news = [] ∨ ∃ b off, a = some ⟨b, off, none⟩ ∧ CellsAt w b off news) (h63 : n + m ≤ maxLen) (hbytes : (n + m) * bytes ≤ 140737488355328) (hB : B ≤ w.heap.size) (ty : TypeId) :
    ∃ v' w' e1, (Builtin.append_ #[t, t] ty #[v, .slice a m cp]).run P w = .ok v' w' ∧ w'.ownsRow B e1 size v' (n + m) (zs ++ news) ∧ w.grownBy w' v.ownBlock ∧ (v'.ownBlock = v.ownBlock ∨ v'.ownBlock = some w.heap.size) ∧ v'.oneCell' = true ∧ (e1 = e0 ∨ e1 = et) := by
  by_cases hm : m = 0
  · subst hm
    have hn : news = [] := List.eq_nil_of_length_eq_zero (by simpa using hl)
    subst hn
    obtain ⟨av, cv, hv, hcv, _⟩ := row_form hown
    refine ⟨v, w, e0, ?_, by simpa using hown, ⟨rfl, rfl, rfl, Nat.le_refl _, fun _ _ _ => rfl⟩, .inl rfl, by rw [hv]; rfl, .inl rfl⟩
    rw [hv]
    cases a <;> cases av <;> simp [Builtin.append_, run_underlying hu, sizeOf, typeInfo, hi, Builtin.lenOf, Builtin.firstCells, loadCells, loadCellsFrom, hcv, storeCells]
  · have hne : news ≠ [] := by
      intro h0
      rw [h0] at hl
      have := Nat.mul_pos (Nat.pos_of_ne_zero hm) hsz
      simp at hl; omega
    obtain ⟨b, off, rfl, hc⟩ := hnews.resolve_left hne
    have hcells : ∀ j u, news[j]? = some u → w.cell? ((⟨b, off, none⟩ : Addr).add j) = some u := fun j u hj => by
      obtain ⟨hj1, hj2⟩ := List.getElem?_eq_some_iff.1 hj
      rw [addr_add', hc j hj1, hj2]
    subst hsize
    subst hby
    by_cases he : e0 = et
    · subst he
      obtain ⟨v', w', e1, e2, e3, _, e5⟩ := run_append_own_at (P := P) w B t ty e0 i z i.size i.bytes hu hi hz rfl rfl hzs hsz v n zs hown ⟨b, off, none⟩ m cp news hl hcells h1 h63 hbytes hB
      obtain ⟨av, cv, hv, _⟩ := row_form e2
      exact ⟨v', w', e0, e1, e2, e3, e5, by rw [hv]; rfl, .inl rfl⟩
    · -- the same, with room in a block of another make
      rcases hown.2 with ⟨rfl, rfl⟩ | ⟨g, cap, cur, rfl, hbg, hg, hnc, hcm, hcs, htake⟩
      · have hx : zs = [] := List.eq_nil_of_length_eq_zero (by simpa using hown.1)
        subst hx
        obtain ⟨v', w', e1, e2, e3, _, e5⟩ := run_append_own_at (P := P) w B t ty et i z i.size i.bytes hu hi hz rfl rfl hzs hsz (.slice none 0 0) 0 [] (World.ownsRow_nil _ _ _ _) ⟨b, off, none⟩ m cp news hl hcells h1 h63 hbytes hB
        obtain ⟨av, cv, hv, _⟩ := row_form e2
        exact ⟨v', w', et, e1, e2, e3, e5, by rw [hv]; rfl, .inr rfl⟩
      · by_cases hroom : n + m ≤ cap
        · have hfit : n * i.size + news.length ≤ cur.size := by rw [hl, hcs, ← Nat.add_mul]; exact Nat.mul_le_mul_right _ hroom
          have hf := run_firstCells_some (P := P) w i.size m ⟨b, off, none⟩ m cp news hl hcells
          have hst := run_storeCells_at P g (n * i.size) e0 news 0 cur w hg (by simpa using hfit) h1
          simp only [Nat.add_zero] at hst
          have hr : (Builtin.append_ #[t, t] ty #[.slice (some ⟨g, 0, none⟩) n cap, .slice (some ⟨b, off, none⟩) m cp]).run P w =
              .ok (.slice (some ⟨g, 0, none⟩) (n + m) cap) (w.setRow g (cur.toList.take (n * i.size) ++ news ++ cur.toList.drop (n * i.size + news.length)).toArray) := by
            simp [Builtin.append_, run_underlying hu, sizeOf, typeInfo, hi, Builtin.lenOf, hroom, hf, Addr.add_lit, hst]
          have hlen : (zs ++ news).length = (n + m) * i.size := by rw [List.length_append, hown.1, hl, Nat.add_mul]
          refine ⟨_, _, e0, hr, ⟨hlen, .inr ⟨g, cap, _, rfl, hbg, setRow_heap w g cur _ e0 _ hg, hroom, hcm, ?_, ?_⟩⟩, ⟨rfl, rfl, rfl, by simp, fun k _ hk => setRow_other w g k _ (fun e => hk (by simp [Value.ownBlock, e]))⟩, Or.inl rfl, rfl, .inl rfl⟩
          · simp only [List.size_toArray, List.length_append, List.length_take, List.length_drop, Array.length_toList]
            omega
          · rw [htake, ← hlen]
            exact List.take_left
        · have holds : ∀ j u, zs[j]? = some u → w.cell? ((⟨g, 0, none⟩ : Addr).add j) = some u := hown.cells (g := g) rfl
          have hr := run_append_grow (P := P) w t ty et i z hu hi hz ⟨g, 0, none⟩ n cap zs hown.1 holds ⟨b, off, none⟩ m cp news hl hcells (by omega) (by simp only [maxLen] at h63; omega) (growslice_fits (by omega) hbytes)
          have hge := grownCap_ge w (n + m) cap et
          have hcm' : grownCap w (n + m) cap et ≤ maxLen := grownCap_le_maxLen w (n + m) cap et h63
          have hlen : (zs ++ news).length = (n + m) * i.size := by rw [List.length_append, hown.1, hl, Nat.add_mul]
          refine ⟨_, _, et, hr, ⟨hlen, .inr ⟨w.heap.size, _, _, rfl, hB, heap_alloc_new w.drew _, hge, hcm', ?_, ?_⟩⟩, ⟨rfl, rfl, rfl, by simp, fun k hk _ => Below.heap_alloc w.drew _ k hk⟩, Or.inr rfl, rfl, .inr rfl⟩
          · simp only [Array.size_append, List.size_toArray, size_zeroCells, hzs, hown.1, hl, ← Nat.add_mul]
            congr 1
            omega
          · simp only [Array.toList_append, List.append_assoc]
            rw [← List.append_assoc, ← hlen]
            exact List.take_left

/-- appending onto an empty slice without room -/
theorem append_emp (hT : TOk P T) {et : TypeId} (hu : P.underlying t = some (.slice et)) {w : World} {i : TypeInfo} {z : Value} {size bytes : Nat} (hi : P.info? et = some i) (hz : i.zero = some z) (hsize : i.size = size) (hby : i.bytes = bytes)
    (hzs : z.cells.size = size) (hsz : 0 < size) {av : Option Addr} {b off m cp : Nat} {news : List Value} (hl : news.length = m * size) (h1 : ∀ u ∈ news, u.oneCell' = true)
    (hc : CellsAt w b off news) (hm : 0 < m) (h63 : m ≤ maxLen) (hbytes : m * bytes ≤ 140737488355328) (ty : TypeId) :
    ∃ v' w' e1, (Builtin.append_ #[t, t] ty #[.slice av 0 0, .slice (some ⟨b, off, none⟩) m cp]).run P w = .ok v' w' ∧ w'.ownsRow w.heap.size e1 size v' m news ∧ Below w.heap.size w w' ∧ v'.oneCell' = true ∧ e1 = et := by
  have hcells : ∀ j u, news[j]? = some u → w.cell? ((⟨b, off, none⟩ : Addr).add j) = some u := fun j u hj => by
    obtain ⟨hj1, hj2⟩ := List.getElem?_eq_some_iff.1 hj
    rw [addr_add', hc j hj1, hj2]
  subst hsize
  subst hby
  cases av with
  | none =>
    obtain ⟨v', w', e1, e2, e3, _, e5⟩ := run_append_own_at (P := P) w w.heap.size t ty et i z i.size i.bytes hu hi hz rfl rfl hzs hsz (.slice none 0 0) 0 [] (World.ownsRow_nil _ _ _ _) ⟨b, off, none⟩ m cp news hl hcells h1 (by omega) (by rw [Nat.zero_add]; exact hbytes) (Nat.le_refl _)
    obtain ⟨av, cv, hv, _⟩ := row_form e2
    rw [Nat.zero_add, List.nil_append] at e2
    exact ⟨v', w', et, e1, e2, ⟨e3.os, e3.tape, e3.output, e3.size, fun k hk => e3.block k hk (by simp [Value.ownBlock])⟩, by rw [hv]; rfl, rfl⟩
  | some a0 =>
    have hr := run_append_grow (P := P) w t ty et i z hu hi hz a0 0 0 [] (by simp) (fun j v h => by simp at h) ⟨b, off, none⟩ m cp news hl hcells (by omega) (by simp only [maxLen] at h63; omega) (growslice_fits (by omega) (by rw [Nat.zero_add]; exact hbytes))
    have hge := grownCap_ge w (0 + m) 0 et
    have hcm' : grownCap w (0 + m) 0 et ≤ maxLen := grownCap_le_maxLen w (0 + m) 0 et (by omega)
    simp only [Nat.zero_add] at hr hge hcm'
    refine ⟨_, _, et, hr, ?_, ?_, rfl, rfl⟩
    · refine ⟨hl, .inr ⟨w.heap.size, _, _, rfl, Nat.le_refl _, heap_alloc_new w.drew _, hge, hcm', ?_, ?_⟩⟩
      · have := Nat.add_mul m (grownCap w m 0 et - m) i.size
        rw [show m + (grownCap w m 0 et - m) = grownCap w m 0 et by omega] at this
        simp only [List.nil_append, Array.size_append, List.size_toArray, size_zeroCells, hzs, hl, List.length_nil, Nat.zero_add]
        omega
      · simp only [List.nil_append, Array.toList_append]
        rw [← hl]
        exact List.take_left
    · exact ⟨rfl, rfl, rfl, by simp, fun k hk => Below.heap_alloc w.drew _ k hk⟩

/-- appending a text onto a row of bytes of our own -/
theorem append_str {u et : TypeId} (hu : P.underlying t = some (.slice et)) (hus : P.underlying u = some .string) {w : World} {B : Nat} {i : TypeInfo} (hi : P.info? et = some i) (hz : i.zero = some (.int .u8 0)) (hsize : i.size = 1) (hby : i.bytes = 1)
    {v : Value} {n : Nat} {zs : List Value} (hown : w.ownsRow B et 1 v n zs) (s : ByteArray) (hlen : n + s.size ≤ 140737488355328) (hB : B ≤ w.heap.size) (ty : TypeId) :
    ∃ v' w', (Builtin.append_ #[t, u] ty #[v, .string s]).run P w = .ok v' w' ∧ w'.ownsRow B et 1 v' (n + s.size) (zs ++ Lib.strCells s) ∧ w.grownBy w' v.ownBlock ∧ (v'.ownBlock = v.ownBlock ∨ v'.ownBlock = some w.heap.size) ∧ v'.oneCell' = true := by
  obtain ⟨v', w', h1, h2, h3, h4⟩ := Lib.run_append_own_string (P := P) w B t u ty et i hu hus hi hz hsize hby v n zs hown s (by simp only [maxLen]; omega) hlen hB
  obtain ⟨av, cv, hv, _⟩ := row_form h2
  refine ⟨v', w', h1, h2, h3, ?_, by rw [hv]; rfl⟩
  have hxl : zs.length = n := by simpa using hown.1
  rcases hown.2 with ⟨rfl, rfl⟩ | ⟨g, cap, cur, rfl, hbg, hg, hnc, hcm, hcs, htake⟩
  · by_cases hm : s.size = 0
    · left; rw [h4.2 ⟨rfl, hm⟩]
    · right
      have hr := run_append_nil_string (P := P) w t u ty et i (.int .u8 0) hu hus hi hz s (by omega) (by omega) (by rw [hby]; omega)
      rw [hr] at h1
      cases h1
      rfl
  · by_cases hroom : n + s.size ≤ cap
    · left
      have hr := Lib.run_append_room_string (P := P) w t u ty et i hu hus hi hsize g n cap cur hg s hroom (by omega)
      rw [hr] at h1
      cases h1
      rfl
    · right
      have holds : ∀ j u, zs[j]? = some u → w.cell? ((⟨g, 0, none⟩ : Addr).add j) = some u := hown.cells (g := g) rfl
      have hr := Lib.run_append_grow_string (P := P) w t u ty et i (.int .u8 0) hu hus hi hz ⟨g, 0, none⟩ n cap zs (by rw [hsize]; simpa using hxl) holds s (by omega) (by omega) (by rw [hby]; exact growslice_fits (by omega) (by omega))
      rw [hr] at h1
      cases h1
      rfl
end
end Go.Proofs.YtnmaceljkegenaaDoor
