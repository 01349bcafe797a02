/-
  A right tree's text, read again.
-/
import Derived.Test.YtnmaceljkegenaaDoorTf
namespace Go.Proofs.YtnmaceljkegenaaDoor
open Go.RowKit
set_option linter.unusedVariables false
set_option linter.unusedSimpArgs false
set_option maxRecDepth 100000

/-- the text from a node on, with what stands ahead of it -/
def wT (l : List Nd) (k : Nat) : Nat → List UInt8
  | 0 => List.replicate (dep l ((k : Int) - 1) - 1) 41
  | n + 1 => sepT l k ++ (nodeT (nd l (k : Int)) ++ wT l (k + 1) n)

theorem mid_w (l : List Nd) : ∀ n a, midT l a n ++ List.replicate (dep l (((a + n : Nat) : Int) - 1) - 1) 41 = wT l a n
  | 0, a => by rw [midT, List.nil_append, Nat.add_zero]; rfl
  | n + 1, a => by
    have h := mid_split l a 0 n
    rw [show 0 + (1 + n) = n + 1 by omega, show a + 0 = a from rfl] at h
    rw [h, wT, ← mid_w l n (a + 1), show a + (n + 1) = a + 1 + n by omega]
    simp only [midT, List.nil_append, List.append_assoc]

theorem tree_w {l : List Nd} (h : Rf l) : treeT l = nodeT (nd l 0) ++ wT l 1 (l.length - 1) := by
  have hp := h.pos
  unfold treeT
  rw [← mid_w l (l.length - 1) 1, show 1 + (l.length - 1) = l.length by omega, List.append_assoc]

theorem tree_len {l : List Nd} (h : Rf l) : (treeT l).length < 1000000 := by
  have h1 := lin_len h l.length (by omega)
  have hp := h.pos
  have h2 := dep_40 h (b := (l.length : Int) - 1) (by omega) (by omega)
  have h3 := h.len
  rw [← lin_all h, List.length_append, List.length_replicate]; omega

theorem noD : ¬ isDg 40 ∧ ¬ isDg 41 ∧ ¬ isDg 32 ∧ ¬ isDg 45 := by unfold isDg; decide

theorem w_head (l : List Nd) (k : Nat) : ∀ n b r, wT l k n = b :: r → ¬ isDg b
  | 0, b, r, h => by
    rw [wT] at h
    have hb : b ∈ List.replicate (dep l ((k : Int) - 1) - 1) (41 : UInt8) := by rw [h]; exact List.mem_cons_self
    rw [(List.mem_replicate.1 hb).2]
    exact noD.2.1
  | n + 1, b, r, h => by
    rw [wT] at h
    unfold sepT at h
    split at h
    · rw [List.singleton_append] at h
      rw [← (List.cons.inj h).1]; exact noD.1
    · rcases Nat.eq_zero_or_pos (dep l ((k : Int) - 1) - dep l (nd l (k : Int)).up - 1) with e | e
      · rw [e] at h
        simp only [List.replicate_zero, List.nil_append, List.singleton_append] at h
        rw [← (List.cons.inj h).1]; exact noD.2.2.1
      · obtain ⟨m, hm⟩ : ∃ m, dep l ((k : Int) - 1) - dep l (nd l (k : Int)).up - 1 = m + 1 := ⟨_, (Nat.succ_pred_eq_of_pos e).symm⟩
        rw [hm, List.replicate_succ, List.cons_append, List.cons_append] at h
        rw [← (List.cons.inj h).1]; exact noD.2.1

theorem num_split {v : Int} (h0 : 0 ≤ v) (h1 : v < 9223372036854775808) : ∃ ds d, numT v = ds ++ [d] ∧ isDg d := by
  obtain ⟨n, rfl⟩ := Int.eq_ofNat_of_zero_le h0
  have hv : valD 0 (numT (n : Int)) = (n : Int) := digK_val 20 n (by omega) (by
    have : (10 : Nat) ^ 20 = 100000000000000000000 := by decide
    omega)
  rcases List.eq_nil_or_concat (numT (n : Int)) with e | ⟨ds, d, e⟩
  · rw [e] at hv
    simp only [valD] at hv
    have : n = 0 := by omega
    subst this
    exact absurd e (by decide)
  · exact ⟨ds, d, by rw [e]; simp, digK_dig 20 n d (by
      have : d ∈ numT (n : Int) := by rw [e]; simp
      exact this)⟩

theorem close_go {l : List Nd} {i : Int} (hups : upsOk l i) (hi : i ≤ 1000000) {out : List Nd} (hout : ∀ j : Int, 0 ≤ j → j < i → inI out j = true ∧ ltL (natI j) out = true ∧ nthN out (0, (0, (0, (0, ())))) (natI j) = nd l j) {s : List UInt8} (hs : s.length < 1000000) (u : Int) (r : List UInt8) (hr : u = -1 ∨ ∀ x t, r = x :: t → x ≠ 41) : ∀ (n N : Nat) (b last : Int) (p : Nat), b < n → n < N → -1 ≤ b → b < i → (u ∈ anc l b ∨ u = -1) → s.drop p = List.replicate (dep l b - dep l u) 41 ++ r →
    ∃ last', (u = b → last' = last) ∧ lp8_8 N s (p : Int) b last out = some (.inl ((s, ((p + (dep l b - dep l u) : Nat) : Int), u, last', ()), (out, ())))
  | n, 0, b, last, p, _, h, _, _, _, _ => by omega
  | n, N + 1, b, last, p, hb, hN, hb1, hbi, hu, hd => by
    rw [lp8_8, st8_8]
    by_cases c0 : b < 0
    · have hu1 : u = b := by
        rw [anc_neg c0] at hu
        rcases hu with h | h
        · cases h
        · omega
      subst hu1
      rw [bif_f (leI_f c0), Nat.sub_self, Nat.add_zero]
      exact ⟨last, fun _ => rfl, rfl⟩
    · have hdc := dep_cons hups (by omega) hbi
      obtain ⟨o1, o2, o3⟩ := hout b (by omega) hbi
      have hub := hups b (by omega) hbi
      rw [bif_t (leI_t (by omega))]
      by_cases e : u = b
      · subst e
        rw [Nat.sub_self, List.replicate_zero, List.nil_append] at hd
        rw [Nat.sub_self, Nat.add_zero]
        by_cases c1 : p < s.length
        · have hd2 := List.drop_eq_getElem_cons c1
          obtain ⟨hby, _, _⟩ := byte_drop hd2
          have hne : s[p] ≠ 41 := by
            rcases hr with h | h
            · omega
            · exact h _ _ (by rw [← hd, hd2])
          have hne2 : ((s[p].toNat : Nat) : Int) ≠ 41 := fun h => hne (UInt8.toNat_inj.1 (by
            show s[p].toNat = 41
            omega))
          rw [bif_t (ltI_t (by rw [lenI_eq]; omega)), bif_t (inI_t (by omega) (by omega)), hby, bif_f (eqI_f hne2)]
          exact ⟨last, fun _ => rfl, rfl⟩
        · rw [bif_f (ltI_n (by rw [lenI_eq]; omega))]
          exact ⟨last, fun _ => rfl, rfl⟩
      · have hu2 : u ∈ anc l (nd l b).up ∨ u = -1 := by
          rcases hu with h | h
          · exact .inl (anc_up hups hbi h e).2.1
          · exact .inr h
        have hle : dep l u ≤ dep l (nd l b).up := by
          rcases hu2 with h | h
          · exact dep_mono hups (by omega) h
          · rw [h]; unfold dep; rw [anc_neg (by omega)]; exact Nat.zero_le _
        have hd3 : s.drop p = 41 :: (List.replicate (dep l (nd l b).up - dep l u) 41 ++ r) := by
          rw [hd, hdc, show dep l (nd l b).up + 1 - dep l u = (dep l (nd l b).up - dep l u) + 1 by omega, List.replicate_succ]; rfl
        obtain ⟨hby, c1, hd4⟩ := byte_drop hd3
        have hby' : byteAt s (p : Int) = 41 := hby
        have ea : addK .i64 (p : Int) 1 = ((p + 1 : Nat) : Int) := by rw [addK_eq (by omega) (by omega)]; rfl
        rw [bif_t (ltI_t (by rw [lenI_eq]; omega)), bif_t (inI_t (by omega) (by omega)), hby', bif_t (eqI_t rfl), bif_t o1, bif_t o2, ea, o3]
        obtain _ | n := n
        · omega
        obtain ⟨last', _, ih⟩ := close_go hups hi hout hs u r hr n N (nd l b).up b (p + 1) (by omega) (by omega) (by omega) (by omega) hu2 hd4
        refine ⟨last', fun h => absurd h e, Eq.trans ih ?_⟩
        rw [hdc, show p + 1 + (dep l (nd l b).up - dep l u) = p + (dep l (nd l b).up + 1 - dep l u) by omega]

theorem ltr_ix : ∀ k : Fin 19, ibW [63, 80, 76, 65, 73, 83, 88, 87, 82, 66, 85, 70, 72, 79, 67, 84, 78, 69, 77] (((ltrs.getD k.val 0).toNat : Nat) : Int) = ((k.val : Nat) : Int) := by decide
theorem ltr_63 : ∀ k : Fin 19, 1 ≤ k.val → (((ltrs.getD k.val 0).toNat : Nat) : Int) ≠ 63 := by decide

theorem node_read {s : List UInt8} (hs : s.length < 1000000) {p : Nat} {n : Nd} {rest : List UInt8} (k1 : 1 ≤ n.kind) (k2 : n.kind ≤ 18) (f0 : 0 ≤ n.fro) (f1 : n.fro < 10000000) (t0 : 0 ≤ n.too) (t1 : n.too < 10000000) (hd : s.drop p = nodeT n ++ rest) (hno : ∀ b r, rest = b :: r → ¬ isDg b) :
    fn16 s (p : Int) = some ((n.kind, (n.fro, (n.too, (0, ())))), (((p + (nodeT n).length : Nat) : Int), (true, ()))) := by
  have hd0 : s.drop p = ltrs.getD n.kind.toNat 0 :: (numT n.fro ++ (45 :: (numT n.too ++ rest))) := by
    rw [hd]; unfold nodeT; simp only [List.append_assoc, List.singleton_append, List.cons_append, List.nil_append]
  obtain ⟨hb, c1, hd1⟩ := byte_drop hd0
  have hl1 := numT_len n.fro
  have hl2 := numT_len n.too
  have hd2 : s.drop (p + 1 + (numT n.fro).length) = 45 :: (numT n.too ++ rest) := by
    rw [← List.drop_drop, hd1, List.drop_left]
  obtain ⟨hb2, c2, hd3⟩ := byte_drop hd2
  have hb2' : byteAt s ((p + 1 + (numT n.fro).length : Nat) : Int) = 45 := hb2
  have hd4 : s.drop (p + 1 + (numT n.fro).length + 1 + (numT n.too).length) = rest := by
    rw [← List.drop_drop, hd3, List.drop_left]
  have r1 := num_read hs f0 f1 hd1 (by
    intro b r h
    rw [hd2] at h
    rw [← (List.cons.inj h).1]; exact noD.2.2.2)
  have r2 := num_read hs t0 t1 hd3 (by
    intro b r h
    rw [hd4] at h
    exact hno b r h)
  have hkk : ((n.kind.toNat : Nat) : Int) = n.kind := by omega
  have hix := ltr_ix ⟨n.kind.toNat, by omega⟩
  have h63 := ltr_63 ⟨n.kind.toNat, by omega⟩ (by show 1 ≤ n.kind.toNat; omega)
  simp only at hix h63
  rw [hkk] at hix
  have ea1 : addK .i64 (p : Int) 1 = ((p + 1 : Nat) : Int) := by rw [addK_eq (by omega) (by omega)]; rfl
  have ea2 : addK .i64 ((p + 1 + (numT n.fro).length : Nat) : Int) 1 = ((p + 1 + (numT n.fro).length + 1 : Nat) : Int) := by rw [addK_eq (by omega) (by omega)]; rfl
  have hin : inI s (p : Int) = true := inI_t (by omega) (by omega)
  rw [fn16, bif_f (leI_n (by rw [lenI_eq]; omega)), bif_t hin, hb, bif_f (eqI_f h63), bif_t hin, fn21, fn25, obind_some, obind_some]
  simp only
  rw [hix, bif_f (ltI_f (by omega)), ea1, r1, obind_some]
  simp only
  rw [bif_f (by rfl), bif_f (leI_n (by rw [lenI_eq]; omega)), bif_t (inI_t (by omega) (by omega)), hb2', bif_f (by rfl), ea2, r2, obind_some]
  simp only
  rw [show p + (nodeT n).length = p + 1 + (numT n.fro).length + 1 + (numT n.too).length by unfold nodeT; simp only [List.length_append, List.length_singleton]; omega]

theorem root_anc {l : List Nd} (h : Rf l) : ∀ (n k : Nat), k < n → k < l.length → (0 : Int) ∈ anc l (k : Int)
  | 0, k, h1, _ => by omega
  | n + 1, k, h1, h2 => by
    by_cases e : k = 0
    · subst e; exact anc_self h.ups (by omega) (by omega)
    · obtain ⟨_, _, _, h5⟩ := h.ok (k : Int) (by omega) (by omega)
      obtain ⟨h6, h7, _⟩ := h5 (by omega)
      have ih := root_anc h n (nd l (k : Int)).up.toNat (by omega) (by omega)
      rw [show (((nd l (k : Int)).up.toNat : Nat) : Int) = (nd l (k : Int)).up by omega] at ih
      rw [anc_cons h.ups (b := (k : Int)) (by omega) (by omega)]
      exact List.mem_cons_of_mem _ ih

theorem take_nd {l : List Nd} {K : Nat} (hK : K ≤ l.length) (j : Int) (h0 : 0 ≤ j) (hj : j < (K : Int)) : inI (l.take K) j = true ∧ ltL (natI j) (l.take K) = true ∧ nthN (l.take K) (0, (0, (0, (0, ())))) (natI j) = nd l j := by
  have hlen : (l.take K).length = K := by rw [List.length_take]; omega
  have hj2 : j.toNat < K := by omega
  refine ⟨inI_t h0 (by omega), ltL_t (by rw [hlen]; show j.toNat < K; omega), ?_⟩
  show (l.take K).getD j.toNat _ = l.getD j.toNat _
  simp only [List.getD_eq_getElem?_getD, List.getElem?_take, hj2, if_true]

theorem take_succ_nd {l : List Nd} {k : Nat} (hk : k < l.length) : catL (l.take k) [nd l (k : Int)] = l.take (k + 1) := by
  have : nd l (k : Int) = l[k] := by
    show l.getD ((k : Int)).toNat _ = _
    rw [Int.toNat_natCast, List.getD_eq_getElem?_getD, List.getElem?_eq_getElem hk]; rfl
  rw [this, List.take_succ_eq_append_getElem hk]; rfl

theorem read_go {l : List Nd} (h : Rf l) (hm : (nd l 0).too ≤ 1000000) {s : List UInt8} (hs : s.length < 1000000) : ∀ (n k N p : Nat), k + n + 1 = l.length → n < N → s.drop p = nodeT (nd l (k : Int)) ++ wT l (k + 1) n →
    lp8_2 N s (p : Int) (nd l (k : Int)).up (l.take k) = some (.inl ((), (l, ())))
  | n, k, 0, p, _, hN, _ => by omega
  | n, k, N + 1, p, hk, hN, hd => by
    have hlen := h.len
    obtain ⟨k1, k2, f0, ft, _⟩ := h.node (i := (k : Int)) (by omega) (by omega)
    have hroot := root_anc h (k + 1) k (by omega) (by omega)
    have hin0 := (anc_in h.ok h.up (k + 1) (k : Int) 0 (by omega) (by omega) hroot).2
    have hnode := node_read hs k1 k2 f0 (by omega) (by omega) (by omega) hd (w_head l (k + 1) n)
    have hcat := take_succ_nd (l := l) (k := k) (by omega)
    have htl : (l.take (k + 1)).length = k + 1 := by rw [List.length_take]; omega
    have hub := h.ups (k : Int) (by omega) (by omega)
    have hnl := nodeT_len (nd l (k : Int))
    have hd1 : s.drop (p + (nodeT (nd l (k : Int))).length) = wT l (k + 1) n := by
      rw [← List.drop_drop, hd, List.drop_left]
    have hlast : subK .i64 (lenI (l.take (k + 1))) 1 = (k : Int) := by rw [lenI_eq, htl, subK_eq (by omega) (by omega)]; omega
    have hdc := dep_cons h.ups (b := (k : Int)) (by omega) (by omega)
    rw [lp8_2, st8_2, hnode, obind_some]
    simp only [Bool.not_true, cond_false]
    rw [show catL (l.take k) [((nd l (k : Int)).kind, ((nd l (k : Int)).fro, ((nd l (k : Int)).too, ((nd l (k : Int)).up, ()))))] = l.take (k + 1) from hcat, hlast, bif_t (fit_l (by rw [htl]; omega))]
    have hcl : ∀ (u : Int) (r : List UInt8), (u = -1 ∨ ∀ x t, r = x :: t → x ≠ 41) → (u ∈ anc l (nd l (k : Int)).up ∨ u = -1) → wT l (k + 1) n = List.replicate (dep l (nd l (k : Int)).up - dep l u) 41 ++ r → ∃ last', (u = (nd l (k : Int)).up → last' = (k : Int)) ∧ lp8_8 fuelN s ((p + (nodeT (nd l (k : Int))).length : Nat) : Int) (nd l (k : Int)).up (k : Int) (l.take (k + 1)) = some (.inl ((s, ((p + (nodeT (nd l (k : Int))).length + (dep l (nd l (k : Int)).up - dep l u) : Nat) : Int), u, last', ()), (l.take (k + 1), ()))) := fun u r h1 h2 h3 =>
      close_go (i := (k : Int)) (fun j a b => h.ups j a (by omega)) (by omega) (fun j a b => take_nd (K := k + 1) (by omega) j a (by omega)) hs u r h1 (k + 1) fuelN _ (k : Int) _ (by omega) (big_fuel (by omega)) (by omega) (by omega) h2 (hd1.trans h3)
    obtain _ | n := n
    · obtain ⟨last', _, h1⟩ := hcl (-1) [] (.inl rfl) (.inr rfl) (by
        rw [wT, show (((k + 1 : Nat) : Int)) - 1 = (k : Int) by omega, hdc, List.append_nil, show dep l (-1) = 0 by unfold dep; rw [anc_neg (by omega)]; rfl]; rfl)
      have hend : s.length = p + (nodeT (nd l (k : Int))).length + (dep l (nd l (k : Int)).up - dep l (-1)) := by
        have h2 := congrArg List.length hd1
        have h3 := congrArg List.length hd
        rw [wT, show (((k + 1 : Nat) : Int)) - 1 = (k : Int) by omega, hdc, List.length_replicate, List.length_drop] at h2
        rw [List.length_append, List.length_drop] at h3
        rw [show dep l (-1) = 0 by unfold dep; rw [anc_neg (by omega)]; rfl]
        have : 0 < (nodeT (nd l (k : Int))).length := by unfold nodeT; simp
        omega
      rw [h1, obind_some]
      simp only [osum]
      rw [bif_t (eqI_t (by rw [lenI_eq, hend])), bif_t (ltI_t (by omega)), List.take_of_length_le (by omega)]
    · have hup1 := h.ups (((k + 1 : Nat) : Int)) (by omega) (by omega)
      have hd2 := hd1
      rw [wT] at hd2
      by_cases e : (nd l ((k + 1 : Nat) : Int)).up = (k : Int)
      · have hsep : sepT l (k + 1) = [40] := by unfold sepT; rw [if_pos (by omega)]
        obtain ⟨last', hl', h1⟩ := hcl (nd l (k : Int)).up (wT l (k + 1) (n + 1)) (.inr (fun x t hx => by
            rw [wT, hsep] at hx
            rw [← (List.cons.inj hx).1]; decide)) (by
          by_cases c : (nd l (k : Int)).up < 0
          · exact .inr (by omega)
          · exact .inl (anc_self h.ups (by omega) (by omega))) (by rw [Nat.sub_self]; rfl)
        rw [Nat.sub_self, hl' rfl] at h1
        have h1 : lp8_8 fuelN s ((p + (nodeT (nd l (k : Int))).length : Nat) : Int) (nd l (k : Int)).up (k : Int) (l.take (k + 1)) = some (.inl ((s, ((p + (nodeT (nd l (k : Int))).length : Nat) : Int), (nd l (k : Int)).up, (k : Int), ()), (l.take (k + 1), ()))) := h1
        rw [hsep, List.singleton_append] at hd2
        obtain ⟨hb, c1, hd3⟩ := byte_drop hd2
        have hb' : byteAt s ((p + (nodeT (nd l (k : Int))).length : Nat) : Int) = 40 := hb
        obtain ⟨ds, d, hds, hdg⟩ := num_split (v := (nd l (k : Int)).too) (by omega) (by omega)
        have hnd : nodeT (nd l (k : Int)) = ([ltrs.getD (nd l (k : Int)).kind.toNat 0] ++ numT (nd l (k : Int)).fro ++ [45] ++ ds) ++ [d] := by
          unfold nodeT; rw [hds]; simp only [List.append_assoc]
        obtain ⟨m, hm1⟩ : ∃ m, (nodeT (nd l (k : Int))).length = m + 1 ∧ s.drop (p + m) = d :: wT l (k + 1) (n + 1) := by
          refine ⟨([ltrs.getD (nd l (k : Int)).kind.toNat 0] ++ numT (nd l (k : Int)).fro ++ [45] ++ ds).length, by rw [hnd, List.length_append, List.length_singleton], ?_⟩
          rw [← List.drop_drop, hd, hnd, List.append_assoc _ [d], List.drop_left]; rfl
        obtain ⟨hm1, hm2⟩ := hm1
        obtain ⟨hb2, c2, _⟩ := byte_drop hm2
        obtain ⟨g1, g2⟩ := hdg
        have es : subK .i64 ((p + (nodeT (nd l (k : Int))).length : Nat) : Int) 1 = ((p + m : Nat) : Int) := by rw [subK_eq (by omega) (by omega)]; omega
        have ea : addK .i64 ((p + (nodeT (nd l (k : Int))).length : Nat) : Int) 1 = ((p + (nodeT (nd l (k : Int))).length + 1 : Nat) : Int) := by rw [addK_eq (by omega) (by omega)]; rfl
        rw [h1, obind_some]
        simp only [osum]
        rw [bif_f (eqI_f (by rw [lenI_eq]; omega)), bif_t (ltI_t (by rw [lenI_eq]; omega)), bif_t (inI_t (by omega) (by omega)), hb', bif_t (eqI_t rfl), hlast, bif_t (eqI_t rfl), es, bif_t (inI_t (by omega) (by omega)), hb2, bif_t (by rw [eqI_f (by omega)]; rfl), ea]
        have ih := read_go h hm hs n (k + 1) N (p + (nodeT (nd l (k : Int))).length + 1) (by omega) (by omega) hd3
        rw [e] at ih
        exact ih
      · obtain ⟨_, _, _, h5⟩ := h.ok (((k + 1 : Nat) : Int)) (by omega) (by omega)
        obtain ⟨h6, h7, h8, _⟩ := h5 (by omega)
        rw [show (((k + 1 : Nat) : Int)) - 1 = (k : Int) by omega] at h8
        obtain ⟨_, h9, h10⟩ := anc_up h.ups (by omega) h8 e
        have hle := dep_mono h.ups (by omega) h9
        have hsep : sepT l (k + 1) = List.replicate (dep l (nd l (k : Int)).up - dep l (nd l ((k + 1 : Nat) : Int)).up) 41 ++ [32] := by
          unfold sepT
          rw [if_neg (by omega), show (((k + 1 : Nat) : Int)) - 1 = (k : Int) by omega, hdc, show dep l (nd l (k : Int)).up + 1 - dep l (nd l ((k + 1 : Nat) : Int)).up - 1 = dep l (nd l (k : Int)).up - dep l (nd l ((k + 1 : Nat) : Int)).up by omega]
        obtain ⟨last', _, h1⟩ := hcl (nd l ((k + 1 : Nat) : Int)).up (32 :: (nodeT (nd l ((k + 1 : Nat) : Int)) ++ wT l (k + 1 + 1) n)) (.inr (fun x t hx => by
            rw [← (List.cons.inj hx).1]; decide)) (.inl h9) (by
          rw [wT, hsep, List.append_assoc]; rfl)
        rw [hsep, List.append_assoc] at hd2
        have hd4 : s.drop (p + (nodeT (nd l (k : Int))).length + (dep l (nd l (k : Int)).up - dep l (nd l ((k + 1 : Nat) : Int)).up)) = 32 :: (nodeT (nd l ((k + 1 : Nat) : Int)) ++ wT l (k + 1 + 1) n) := by
          rw [← List.drop_drop, hd2]
          have := List.drop_left (l₁ := List.replicate (dep l (nd l (k : Int)).up - dep l (nd l ((k + 1 : Nat) : Int)).up) (41 : UInt8)) (l₂ := [32] ++ (nodeT (nd l ((k + 1 : Nat) : Int)) ++ wT l (k + 1 + 1) n))
          rw [List.length_replicate] at this
          rw [this]; rfl
        obtain ⟨hb, c1, hd3⟩ := byte_drop hd4
        generalize hq : p + (nodeT (nd l (k : Int))).length + (dep l (nd l (k : Int)).up - dep l (nd l ((k + 1 : Nat) : Int)).up) = q at h1 hb c1 hd3
        have hb' : byteAt s (q : Int) = 32 := hb
        have ea : addK .i64 (q : Int) 1 = ((q + 1 : Nat) : Int) := by rw [addK_eq (by omega) (by omega)]; rfl
        rw [h1, obind_some]
        simp only [osum]
        have hlt : ltI (q : Int) (lenI s) = true := ltI_t (by rw [lenI_eq]; omega)
        have hinq : inI s (q : Int) = true := inI_t (by omega) (by omega)
        rw [bif_f (eqI_f (by rw [lenI_eq]; omega)), bif_t hlt, bif_t hinq, hb', bif_f (by rfl), bif_t hlt, bif_t hinq, bif_t (eqI_t rfl), bif_t (leI_t (by omega)), ea]
        exact read_go h hm hs n (k + 1) N (q + 1) (by omega) (by omega) hd3

theorem Read_t {l : List Nd} (h : Rf l) (hm : (nd l 0).too ≤ 1000000) : fn8 (treeT l) = some (l, (0, (0, ()))) := by
  have hpos := h.pos
  have hlen := h.len
  have h1 := read_go h hm (tree_len h) (l.length - 1) 0 fuelN 0 (by omega) (big_fuel (by omega)) (by rw [List.drop_zero]; exact tree_w h)
  rw [show (nd l ((0 : Nat) : Int)).up = -1 from h.up, List.take_zero] at h1
  have hck : fn10 l (nd l 0).too = some (true, ()) := by
    rcases fn11_eq (l := l) (by omega) (nd l 0).too with ⟨_, h2⟩ | ⟨h1, _⟩
    · exact h2
    · exact absurd ⟨List.length_pos_iff.1 hpos, h.up, h.fr, rfl, h.ok⟩ h1
  rw [fn8, show lp8_2 fuelN (treeT l) 0 (-1) [] = _ from h1, obind_some]
  simp only [osum]
  rw [bif_t (inI_t (by omega) (by omega)), bif_t (ltL_t (show natI 0 < l.length from hpos)), show (nthN l (0, (0, (0, (0, ())))) (natI 0)).2.2.1 = (nd l 0).too from rfl, hck, obind_some]
  rfl
end Go.Proofs.YtnmaceljkegenaaDoor
