/-
  TreeReads.
-/
import Derived.Test.YtfeklnaeolangaaGf
namespace Go.Proofs.Ytfeklnaeolangaa
open Go.RowKit
set_option linter.unusedVariables false
set_option linter.unusedSimpArgs false
set_option maxRecDepth 100000

theorem upsOk_push {l : List Nd} {n : Nd} (h : upsOk l l.length) (h1 : -1 ≤ n.up) (h2 : n.up < l.length) : upsOk (catL l [n]) (catL l [n]).length := fun j a b => by
  have hl : (catL l [n]).length = l.length + 1 := by simp [catL]
  rw [hl] at b
  by_cases e : j < l.length
  · have : nd (catL l [n]) j = nd l j := by
      simp only [nd, getI, catL, List.getD]
      rw [List.getElem?_append_left (by omega)]
    rw [this]; exact h j a e
  · have : nd (catL l [n]) j = n := by
      simp only [nd, getI, catL, List.getD]
      rw [show j.toNat = l.length by omega]
      simp
    rw [this]; omega

theorem read_go {s : List UInt8} (hl : s.length ≤ 200) : ∀ (k N M : Nat) (n : Nat) (up : Int) (out : List Nd), s.length - n < k → k < N → k < M → n ≤ s.length → -1 ≤ up → up < out.length → upsOk out out.length → out.length ≤ n →
    (∃ p : Int, 0 ≤ p ∧ lp13_2 N s n up out = some (.inr (([], p, 4, ()), ())) ∧ lp14_4 M s up n out = some (.inr (([], p, ()), ()))) ∨
    (∃ o : List Nd, o ≠ [] ∧ o.length ≤ 201 ∧ lp13_2 N s n up out = some (.inl ((), (o, ()))) ∧ lp14_4 M s up n out = some (.inr ((o, -1, ()), ())))
  | 0, N, M, n, up, out, h1, _, _, _, _, _, _, _ => by omega
  | k + 1, 0, M, n, up, out, _, h2, _, _, _, _, _, _ => by omega
  | k + 1, N + 1, 0, n, up, out, _, _, h3, _, _, _, _, _ => by omega
  | k + 1, N + 1, M + 1, n, up, out, h1, h2, h3, h4, h5, h6, h7, h8 => by
    have hX : ∀ z p, fn26 s (n : Int) = some (z, (p, (false, ()))) → lp13_2 (N + 1) s (n : Int) up out = some (.inr (([], p, 4, ()), ())) := fun z p h => by
      rw [lp13_2, st13_2, h, obind_some]; rfl
    by_cases c0 : s.length ≤ n
    · refine .inl ⟨(n : Int), by omega, hX (0, (0, (0, (0, ())))) _ ?_, ?_⟩
      · rw [fn26, bif_t (leI_t (a := lenI s) (by rw [lenI_eq]; omega))]
      · rw [lp14_4, st14_4, bif_t (leI_t (a := lenI s) (by rw [lenI_eq]; omega))]
    have hle : leI (lenI s) (n : Int) = false := leI_f (by rw [lenI_eq]; omega)
    have hin : inI s (n : Int) = true := inI_t (by omega) (by omega)
    obtain ⟨c, hc⟩ : ∃ c : UInt8, byteAt s (n : Int) = (c.toNat : Int) := ⟨s.getD n 0, rfl⟩
    by_cases c1 : byteAt s (n : Int) = 63
    · refine .inl ⟨(n : Int), by omega, hX (0, (0, (0, (0, ())))) _ ?_, ?_⟩
      · rw [fn26, bif_f hle, bif_t hin, bif_t (eqI_t c1)]
      · rw [lp14_4, st14_4, bif_f hle, bif_t hin, bif_t (eqI_t c1)]
    by_cases c2 : 0 ≤ Lib.indexByte Ltr c
    · have ea1 : addK .i64 (n : Int) 1 = (n : Int) + 1 := addK_eq (by omega) (by omega)
      obtain ⟨n1, m, m1, m2, m3, m4, m5⟩ := num_eq (s := s) (at0 := (n : Int) + 1) (by omega) (by omega) (by omega)
      have h26 : fn26 s (n : Int) = bif (!(decide ((n : Int) + 1 < m))) then some ((Lib.indexByte Ltr c, (n1, (0, (0, ())))), (m, (false, ()))) else bif (leI (lenI s) m) then some ((Lib.indexByte Ltr c, (n1, (0, (0, ())))), (m, (false, ()))) else bif (inI s m) then bif (!(eqI (byteAt s m) 45)) then some ((Lib.indexByte Ltr c, (n1, (0, (0, ())))), (m, (false, ()))) else obind (fn34 s (addK .i64 m 1)) fun y2 => some ((Lib.indexByte Ltr c, (n1, (y2.1, (0, ())))), (y2.2.1, (y2.2.2.1, ()))) else none := by
        rw [fn26, bif_f hle, bif_t hin, bif_f (eqI_f c1), bif_t hin, hc, show fn33 [63, 80, 76, 65, 73, 83, 88, 87, 82, 66, 85, 70, 72, 79, 67, 84, 78, 69, 77] (c.toNat : Int) = _ from fn33_eq c, obind_some, bif_f (ltI_f c2), ea1, m4, obind_some]
      have h14 : lp14_4 (M + 1) s up n out = st14_4 (lp14_4 M) (some (.inl ((), ()))) (fun r0 r1 => some (.inr ((r0, r1, ()), ()))) s up n out := by rw [lp14_4]
      have hlet := letter_go (s := s) (up := up) (at0 := (n : Int)) (out := out) c hc hin 19 fuelN 0 rfl (big_fuel (by omega)) (by simpa using c2)
      rw [List.drop_zero, show ((0 : Nat) : Int) + Lib.indexByte Ltr c = Lib.indexByte Ltr c by omega] at hlet
      rw [st14_4, bif_f hle, bif_t hin, bif_f (eqI_f c1), bif_t hin, hc, show fn27 (c.toNat : Int) [63, 80, 76, 65, 73, 83, 88, 87, 82, 66, 85, 70, 72, 79, 67, 84, 78, 69, 77] = _ from in_eq c, obind_some, bif_f (by simp [c2]), show lp14_7 fuelN s up (n : Int) 0 out = _ from hlet, obind_some] at h14
      simp only [osum] at h14
      rw [ea1, m5, obind_some] at h14
      simp only at h14
      by_cases d1 : m = (n : Int) + 1
      · exact .inl ⟨m, by omega, hX (Lib.indexByte Ltr c, (n1, (0, (0, ())))) m (by rw [h26, bif_t (by simp [d1])]), by rw [h14, bif_t (eqI_t d1)]⟩
      rw [bif_f (eqI_f d1)] at h14
      rw [bif_f (by simp; omega)] at h26
      by_cases d2 : (s.length : Int) ≤ m
      · exact .inl ⟨m, by omega, hX (Lib.indexByte Ltr c, (n1, (0, (0, ())))) m (by rw [h26, bif_t (leI_t (a := lenI s) d2)]), by rw [h14, bif_t (leI_t (a := lenI s) d2)]⟩
      have d2' : leI (lenI s) m = false := leI_n (a := lenI s) d2
      have hinm : inI s m = true := inI_t (by omega) (by omega)
      rw [bif_f d2', bif_t hinm] at h14 h26
      by_cases d3 : byteAt s m ≠ 45
      · exact .inl ⟨m, by omega, hX (Lib.indexByte Ltr c, (n1, (0, (0, ())))) m (by rw [h26, bif_t (by rw [eqI_f d3]; rfl)]), by rw [h14, bif_t (by rw [eqI_f d3]; rfl)]⟩
      have d3 : byteAt s m = 45 := Classical.not_not.1 d3
      have ea2 : addK .i64 m 1 = m + 1 := addK_eq (by omega) (by omega)
      obtain ⟨n2, e, e1, e2, e3, e4, e5⟩ := num_eq (s := s) (at0 := m + 1) (by omega) (by omega) (by omega)
      rw [bif_f (by rw [eqI_t d3]; rfl), ea2, e5, obind_some] at h14
      rw [bif_f (by rw [eqI_t d3]; rfl), ea2, e4, obind_some] at h26
      simp only at h14 h26
      by_cases d4 : e = m + 1
      · exact .inl ⟨e, by omega, hX (Lib.indexByte Ltr c, (n1, (n2, (0, ())))) e (by rw [h26]; simp [d4]), by rw [h14, bif_t (eqI_t d4)]⟩
      have hdig : isDig s (e - 1) := e3.resolve_left d4
      have hnode : ∃ node : Nd, node = (Lib.indexByte Ltr c, (n1, (n2, (up, ())))) := ⟨_, rfl⟩
      obtain ⟨node, hnode⟩ := hnode
      have hnup : node.up = up := by rw [hnode]
      have hups1 := upsOk_push (n := node) h7 (by omega) (by omega)
      have hlen1 : (catL out [node]).length = out.length + 1 := by simp [catL]
      have hfit : fitI (catL out [node]) 32 = true := by
        simp only [fitI, roomN, decide_eq_true_eq, hlen1]; omega
      have es : subK .i64 (lenI (catL out [node])) 1 = (out.length : Int) := by rw [lenI_eq, hlen1, subK_eq (by omega) (by omega)]; omega
      rw [bif_f (eqI_f d4), ← hnode, bif_t hfit] at h14
      have h13 : lp13_2 (N + 1) s n up out = st13_2 (lp13_2 N) (fun e0 => some (.inl ((), (e0, ())))) (fun r0 r1 r2 => some (.inr ((r0, r1, r2, ()), ()))) s n up out := by rw [lp13_2]
      rw [st13_2, h26, obind_some] at h13
      simp only at h13
      rw [bif_f (by simp; omega), ← hnode, bif_t hfit, es] at h13
      obtain ⟨e', up', last', g1, g2, g3, g4, g5, g6, g7, g8⟩ := close_go (s := s) (l := catL out [node]) (by omega) (by omega) hups1 (s.length + 1) fuelN fuelN e up (out.length : Int) (by omega) (big_fuel (by omega)) (big_fuel (by omega)) (by omega) e2 h5 (by omega)
      rw [g7, obind_some] at h13
      simp only [osum] at h13
      by_cases d5 : e < s.length ∧ byteAt s e = 40
      · obtain ⟨d5, d6⟩ := d5
        obtain ⟨rfl, rfl, rfl⟩ : e' = e ∧ up' = up ∧ last' = (out.length : Int) := by
          rcases g5 with q | ⟨_, q, _⟩
          · exact q
          · rw [d6] at q; cases q
        have ea3 : addK .i64 e' 1 = e' + 1 := addK_eq (by omega) (by omega)
        have es3 : subK .i64 e' 1 = e' - 1 := subK_eq (by omega) (by omega)
        have hlt : ltI e' (lenI s) = true := ltI_t (b := lenI s) d5
        have hine : inI s e' = true := inI_t (by omega) d5
        have hne : eqI e' (lenI s) = false := eqI_f (by rw [lenI_eq]; omega)
        rw [bif_t hlt, bif_t hine, bif_t (eqI_t d6), es, ea3] at h14
        rw [bif_f hne, bif_t hlt, bif_t hine, bif_t (eqI_t d6), es, bif_t (eqI_t rfl), es3, bif_t (inI_t (by omega) (by omega)), bif_t (by rw [eqI_f (by have := hdig.1; omega)]; rfl), ea3] at h13
        obtain ⟨en, hen⟩ : ∃ en : Nat, e' + 1 = en := ⟨(e' + 1).toNat, by omega⟩
        rw [h13, h14, hen]
        exact read_go hl k N M en (out.length : Int) (catL out [node]) (by omega) (by omega) (by omega) (by omega) (by omega) (by omega) hups1 (by omega)
      · have h14b : lp14_4 (M + 1) s up n out = obind (lp14_20 fuelN s up e (catL out [node])) fun y5 => osum y5 (fun a6 => bif (eqI a6.1.2.2.1 (lenI a6.1.1)) then bif (ltI a6.1.2.1 0) then some (.inr ((a6.2.1, -1, ()), ())) else bif (eqI a6.1.2.2.1 (lenI a6.1.1)) then some (.inr (([], a6.1.2.2.1, ()), ())) else bif (inI a6.1.1 a6.1.2.2.1) then bif (!(eqI (byteAt a6.1.1 a6.1.2.2.1) 32)) then some (.inr (([], a6.1.2.2.1, ()), ())) else bif (ltI a6.1.2.1 0) then some (.inr (([], a6.1.2.2.1, ()), ())) else lp14_4 M a6.1.1 a6.1.2.1 (addK .i64 a6.1.2.2.1 1) a6.2.1 else none else bif (eqI a6.1.2.2.1 (lenI a6.1.1)) then some (.inr (([], a6.1.2.2.1, ()), ())) else bif (inI a6.1.1 a6.1.2.2.1) then bif (!(eqI (byteAt a6.1.1 a6.1.2.2.1) 32)) then some (.inr (([], a6.1.2.2.1, ()), ())) else bif (ltI a6.1.2.1 0) then some (.inr (([], a6.1.2.2.1, ()), ())) else lp14_4 M a6.1.1 a6.1.2.1 (addK .i64 a6.1.2.2.1 1) a6.2.1 else none) (fun b6 => some (.inr ((b6.1.1, b6.1.2.1, ()), ()))) := by
          rw [h14]
          by_cases q : e < s.length
          · rw [bif_t (ltI_t (b := lenI s) q), bif_t (inI_t (by omega) q), bif_f (eqI_f (fun h => d5 ⟨q, h⟩))]; rfl
          · rw [bif_f (ltI_n (b := lenI s) q)]; rfl
        rw [g8, obind_some] at h14b
        simp only [osum] at h14b
        by_cases q1 : e' = s.length
        · have hq : eqI e' (lenI s) = true := eqI_t (by rw [lenI_eq]; exact q1)
          have hlt : ltI e' (lenI s) = false := ltI_f (by rw [lenI_eq]; omega)
          rw [bif_t hq] at h13 h14b
          by_cases q2 : up' < 0
          · rw [bif_t (ltI_t q2)] at h13 h14b
            exact .inr ⟨catL out [node], by simp [catL], by omega, h13, h14b⟩
          · rw [bif_f (ltI_n q2), bif_t hq] at h14b
            rw [bif_f (ltI_n q2), bif_f hlt, bif_f hlt] at h13
            exact .inl ⟨e', by omega, h13, h14b⟩
        · have hq : eqI e' (lenI s) = false := eqI_f (by rw [lenI_eq]; exact q1)
          have hlt : ltI e' (lenI s) = true := ltI_t (b := lenI s) (by rw [lenI_eq]; omega)
          have hine : inI s e' = true := inI_t (by omega) (by omega)
          have ea3 : addK .i64 e' 1 = e' + 1 := addK_eq (by omega) (by omega)
          rw [bif_f hq, bif_f hq, bif_t hine] at h14b
          rw [bif_f hq, bif_t hlt, bif_t hine] at h13
          -- what Read does at a place that isn't an opening bracket
          have h13b : lp13_2 (N + 1) s n up out = bif (eqI (byteAt s e') 32) then bif (leI 0 up') then lp13_2 N s (addK .i64 e' 1) up' (catL out [node]) else some (.inr (([], e', 4, ()), ())) else some (.inr (([], e', 4, ()), ())) := by
            rw [h13]
            by_cases q3 : byteAt s e' = 40
            · have hrnd : e < e' ∧ byteAt s e = 41 ∧ byteAt s (e' - 1) = 41 := by
                rcases g5 with ⟨q, _, _⟩ | q
                · exact absurd ⟨by omega, by rw [← q]; exact q3⟩ d5
                · exact q
              have es3 : subK .i64 e' 1 = e' - 1 := subK_eq (by omega) (by omega)
              rw [bif_t (eqI_t q3), es3]
              cases eqI last' (subK .i64 (lenI (catL out [node])) 1) with
              | true =>
                simp only [cond_true]
                rw [bif_t (inI_t (by omega) (by omega)), bif_f (by rw [eqI_t hrnd.2.2]; rfl), bif_t hlt, bif_t hine]
              | false =>
                simp only [cond_false]
                rw [bif_t hlt, bif_t hine]
            · rw [bif_f (eqI_f q3), bif_t hlt, bif_t hine]
          by_cases q4 : byteAt s e' = 32
          · rw [bif_f (by rw [eqI_t q4]; rfl)] at h14b
            rw [bif_t (eqI_t q4)] at h13b
            by_cases q5 : up' < 0
            · rw [bif_t (ltI_t q5)] at h14b
              rw [bif_f (leI_f q5)] at h13b
              exact .inl ⟨e', by omega, h13b, h14b⟩
            · rw [bif_f (ltI_n q5), ea3] at h14b
              rw [bif_t (leI_t (by omega)), ea3] at h13b
              obtain ⟨en, hen⟩ : ∃ en : Nat, e' + 1 = en := ⟨(e' + 1).toNat, by omega⟩
              rw [h13b, h14b, hen]
              exact read_go hl k N M en up' (catL out [node]) (by omega) (by omega) (by omega) (by omega) (by omega) (by omega) hups1 (by omega)
          · rw [bif_t (by rw [eqI_f q4]; rfl)] at h14b
            rw [bif_f (eqI_f q4)] at h13b
            exact .inl ⟨e', by omega, h13b, h14b⟩
    · refine .inl ⟨(n : Int), by omega, hX ((Lib.indexByte Ltr c, (0, (0, (0, ()))))) _ ?_, ?_⟩
      · rw [fn26, bif_f hle, bif_t hin, bif_f (eqI_f c1), bif_t hin, hc, show fn33 [63, 80, 76, 65, 73, 83, 88, 87, 82, 66, 85, 70, 72, 79, 67, 84, 78, 69, 77] (c.toNat : Int) = _ from fn33_eq c, obind_some, bif_t (ltI_t (by omega))]
      · rw [lp14_4, st14_4, bif_f hle, bif_t hin, bif_f (eqI_f c1), bif_t hin, hc, show fn27 (c.toNat : Int) [63, 80, 76, 65, 73, 83, 88, 87, 82, 66, 85, 70, 72, 79, 67, 84, 78, 69, 77] = _ from in_eq c, obind_some, bif_t (by simp [c2])]

theorem same_go {l : List Nd} (hl : l.length < 1000000000000) : ∀ (k N : Nat) (n : Nat), l.length - n < k → k < N → lp15_4 N l l (n : Int) = some (.inl ((), ()))
  | 0, N, n, h, _ => by omega
  | k + 1, 0, n, _, h => by omega
  | k + 1, N + 1, n, h1, h2 => by
    rw [lp15_4, st15_4]
    by_cases c : n < l.length
    · have hin : inI l (n : Int) = true := inI_t (by omega) (by omega)
      have ea : addK .i64 (n : Int) 1 = ((n + 1 : Nat) : Int) := by rw [addK_eq (by omega) (by omega)]; rfl
      rw [bif_t (ltI_t (b := lenI l) (by rw [lenI_eq]; omega)), bif_t hin, bif_t hin, bif_f (by simp [eqI_t]), ea]
      exact same_go hl k N (n + 1) (by omega) (by omega)
    · rw [bif_f (ltI_f (b := lenI l) (by rw [lenI_eq]; omega))]

theorem fn15_self {l : List Nd} (hl : l.length < 1000000000000) : fn15 l l = some (true, ()) := by
  have h := same_go hl (l.length + 1) fuelN 0 (by omega) (big_fuel (by omega))
  rw [fn15, bif_f (by rw [eqI_t rfl]; rfl), show lp15_4 fuelN l l 0 = _ from h]
  rfl

theorem law4 (x0 : List UInt8) (h0 : wfD .str x0) : fn4 x0 = some (true, ()) := by
  rw [fn4]
  by_cases c : 200 < lenI x0
  · rw [bif_t (ltI_t c)]
  rw [bif_f (ltI_n c)]
  rw [lenI_eq] at c
  rcases read_go (s := x0) (by omega) (x0.length + 1) fuelN fuelN 0 (-1) [] (by omega) (big_fuel (by omega)) (big_fuel (by omega)) (by omega) (by omega) (by simp) (fun j a b => by simp at b; omega) (by simp) with ⟨p, h1, h2, h3⟩ | ⟨o, h1, h4, h2, h3⟩
  · have e13 : fn13 x0 = some ([], (p, (4, ()))) := by
      rw [fn13, show lp13_2 fuelN x0 0 (-1) [] = _ from h2]; rfl
    have e14 : fn14 x0 = some ([], (p, ())) := by
      rw [fn14, show lp14_4 fuelN x0 (-1) 0 [] = _ from h3]; rfl
    rw [e13, obind_some, e14, obind_some]
    simp only
    rw [bif_t (leI_t h1), bif_t (eqI_t rfl), bif_t (eqI_t rfl), eqI_t (by rfl)]
  · have hpos : 0 < o.length := List.length_pos_iff.2 h1
    have hin : inI o 0 = true := inI_t (by omega) (by omega)
    have hlt : ltL (natI 0) o = true := ltL_t hpos
    have hnd : (nthN o (0, (0, (0, (0, ())))) (natI 0)).2.2.1 = (nd o 0).too := rfl
    have e14 : fn14 x0 = some (o, (-1, ())) := by
      rw [fn14, show lp14_4 fuelN x0 (-1) 0 [] = _ from h3]; rfl
    have e13 : fn13 x0 = obind (fn11 o (nd o 0).too) fun y2 => bif (!y2.1) then some ([], (0, (14, ()))) else some (o, (0, (0, ()))) := by
      rw [fn13, show lp13_2 fuelN x0 0 (-1) [] = _ from h2, obind_some]
      simp only [osum]
      rw [bif_t hin, bif_t hlt, hnd]
    rw [e13, e14]
    rcases fn11_eq (l := o) (by omega) (nd o 0).too with ⟨k1, k2⟩ | ⟨k1, k2⟩ <;> rcases fn12_eq (l := o) (by omega) (nd o 0).too with ⟨k3, k4⟩ | ⟨k3, k4⟩
    · rw [k2, obind_some]
      simp only [Bool.not_true, cond_false, obind_some]
      rw [bif_f (leI_f (by omega)), bif_t hin, show (getI o (0, (0, (0, (0, ())))) 0).2.2.1 = (nd o 0).too from rfl, k4, obind_some, bif_f (by rfl), bif_t (eqI_t rfl), bif_t (eqI_t rfl), fn15_self (by omega)]
      rfl
    · exact absurd k1 k3
    · exact absurd k3 k1
    · rw [k2, obind_some]
      simp only [Bool.not_false, cond_true, obind_some]
      rw [bif_f (leI_f (by omega)), bif_t hin, show (getI o (0, (0, (0, (0, ())))) 0).2.2.1 = (nd o 0).too from rfl, k4, obind_some, bif_t (by rfl), bif_t (eqI_t rfl), bif_t (eqI_t rfl), eqI_t (by rfl)]
end Go.Proofs.Ytfeklnaeolangaa
