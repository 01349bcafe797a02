/-
  The plain machine: the quiet operations together; new things in memory.
-/
import Derived.Test.YtnmaceljkegenaaDoorAh
import Derived.Laws.MakeOwn
import Derived.Laws.BytesString
import Derived.Maps.AppendAt
namespace Go.Proofs.YtnmaceljkegenaaDoor
open Go.RowKit
set_option linter.unusedVariables false
set_option linter.unusedSimpArgs false

section
variable {P : Program} {T : TT} {W0 : World} {c : Cx} {R : Type} {r : R} {t : TypeId}

theorem VRels.map_eval {fr : List AVal} {a : Act} (h : VRels c fr a.tmps.toList) : ∀ (xs : List Operand), VRels c (xs.map (evalO fr)) (xs.map a.eval)
  | [] => by simp [VRels]
  | x :: xs => by simp only [List.map_cons, VRels]; exact ⟨evalO_rel h x, VRels.map_eval h xs⟩

theorem row_form2 {w : World} {B : Nat} {e : TypeId} {size n : Nat} {v : Value} {zs : List Value} (h : w.ownsRow B e size v n zs) : ∃ a cp, v = .slice a n cp ∧ n ≤ cp ∧ (zs = [] ∨ ∃ g, a = some ⟨g, 0, none⟩ ∧ g < w.heap.size ∧ B ≤ g ∧ CellsAt w g 0 zs) := by
  rcases h.2 with ⟨e1, e2⟩ | ⟨g, cap, cur, e1, e2, e3, e4, e5, e6, e7⟩
  · refine ⟨none, 0, by rw [e1, e2], by omega, .inl ?_⟩
    have := h.1
    rw [e2, Nat.zero_mul] at this
    exact List.eq_nil_of_length_eq_zero this
  · refine ⟨_, cap, e1, e4, .inr ⟨g, rfl, (Array.getElem?_eq_some_iff.1 e3).1, e2, ?_⟩⟩
    have := (CellsAt.of_block_cells e3).sub 0 (n * size)
    rw [List.drop_zero, e7] at this
    exact this

theorem row_form {w : World} {B : Nat} {e : TypeId} {size n : Nat} {v : Value} {zs : List Value} (h : w.ownsRow B e size v n zs) : ∃ a cp, v = .slice a n cp ∧ n ≤ cp ∧ (zs = [] ∨ ∃ g, a = some ⟨g, 0, none⟩ ∧ g < w.heap.size ∧ CellsAt w g 0 zs) := by
  obtain ⟨a, cp, h1, h2, h3⟩ := row_form2 h
  exact ⟨a, cp, h1, h2, h3.imp (fun h => h) fun ⟨g, q1, q2, _, q3⟩ => ⟨g, q1, q2, q3⟩⟩

/-- what is appended: a row of cells -/
theorem src_rel2 (hok : c.Ok W0) {x : AVal} {e : Ty} {ys : List e.den} {u : Value} (h : x.as c.hp (.list e) = some ys) (hx : VRel c x u) :
    ∃ a cp zs, u = .slice a ys.length cp ∧ LRel (DRel c.w c.free e) e.size ys zs ∧ (zs = [] ∨ ∃ b off, a = some ⟨b, off, none⟩ ∧ b < c.w.heap.size ∧ ¬ c.bar b ∧ CellsAt c.w b off zs) := by
  cases x with
  | val t' z =>
    simp only [AVal.as] at h
    have e := castTy_ty h
    subst e
    rw [castTy_same] at h
    cases h
    simp only [VRel] at hx
    obtain ⟨a, n, zs, h1, h2, h3, h4⟩ := list_inv hx
    exact ⟨a, n, zs, h1, h3, h4.imp id fun ⟨b, off, q1, q2, q3⟩ => ⟨b, off, q1, q2.1, q2.2.2.2, q3⟩⟩
  | nils =>
    simp only [AVal.as, Option.some.injEq] at h
    subst h
    simp only [VRel] at hx
    exact ⟨none, 0, [], hx, rfl, .inl rfl⟩
  | lst t' z b =>
    simp only [AVal.as] at h
    have e := castTy_ty h
    cases e
    rw [castTy_same] at h
    cases h
    simp only [VRel] at hx
    obtain ⟨a, n, zs, h1, h2, h3, h4⟩ := list_inv hx.1
    exact ⟨a, n, zs, h1, h3, h4.imp id fun ⟨b, off, q1, q2, q3⟩ => ⟨b, off, q1, q2.1, q2.2.2.2, q3⟩⟩
  | emp =>
    simp only [AVal.as, Option.some.injEq] at h
    subst h
    simp only [VRel] at hx
    obtain ⟨a, rfl⟩ := hx
    exact ⟨a, 0, [], rfl, rfl, .inl rfl⟩
  | slc id ver vw =>
    simp only [AVal.as, content] at h
    split at h
    · rename_i t' v xs harr
      replace h := bif_some h
      obtain ⟨hv, h⟩ := h
      have hv : v = ver := by simpa using hv
      subst hv
      split at h
      · rename_i ys' hys
        have e := castTy_ty hys
        cases e
        rw [castTy_same] at hys
        cases hys
        cases h
        simp only [VRel] at hx
        have hx1 := (hx.2.2 _ _ _ harr).2 rfl
        obtain ⟨_, e', zs, hown, hL, hty⟩ := hok.obj id _ harr
        obtain ⟨a, cp, hv, hn, hcell⟩ := row_form2 hown
        cases vw with
        | none =>
          simp only [ViewIs] at hx1
          rw [hv] at hx1
          exact ⟨a, cp, zs, hx1, hL, hcell.imp (fun h => h) fun ⟨g, q1, q2, q4, q3⟩ => ⟨g, 0, q1, q2, fun hb => (hok.bar _ hb).2.1 ⟨id, _, harr, by rw [AObj.blk, hv, q1]; rfl⟩, q3⟩⟩
        | some p =>
          obtain ⟨lo, hi⟩ := p
          simp only [ViewIs] at hx1
          obtain ⟨a', m, cp', hv', p1, p2, p3, hx1⟩ := hx1
          rw [hv] at hv'
          cases hv'
          refine ⟨(if cp = lo.toNat then a else a.map (·.add (lo.toNat * e.size))), cp - lo.toNat, (zs.take (hi.toNat * e.size)).drop (lo.toNat * e.size), ?_, LRel.drop _ _ _ (LRel.take _ _ _ hL), ?_⟩
          · rw [hx1]; simp only [viewOf]; rw [sub_length _ p1 p2 p3]
          · by_cases hcp : cp = lo.toNat
            · left
              apply List.drop_of_length_le
              have : hi.toNat = lo.toNat := by omega
              rw [this]
              simp; omega
            · rw [if_neg hcp]
              rcases hcell with h0 | ⟨g, q1, q2, q4, q3⟩
              · left; rw [h0]; simp
              · right
                refine ⟨g, 0 + lo.toNat * e.size, by rw [q1]; simp [addr_add'], q2, fun hb => (hok.bar _ hb).2.1 ⟨id, _, harr, by rw [AObj.blk, hv, q1]; rfl⟩, ?_⟩
                rw [List.drop_take]
                exact q3.sub _ _
      · cases h
    · cases h
  | agg l => simp [AVal.as, Ty.isAgg] at h
  | _ => simp [AVal.as] at h

theorem src_rel (hok : c.Ok W0) {x : AVal} {e : Ty} {ys : List e.den} {u : Value} (h : x.as c.hp (.list e) = some ys) (hx : VRel c x u) :
    ∃ a cp zs, u = .slice a ys.length cp ∧ LRel (DRel c.w c.free e) e.size ys zs ∧ (zs = [] ∨ ∃ b off, a = some ⟨b, off, none⟩ ∧ b < c.w.heap.size ∧ CellsAt c.w b off zs) := by
  obtain ⟨a, cp, zs, h1, h2, h3⟩ := src_rel2 hok h hx
  exact ⟨a, cp, zs, h1, h2, h3.imp (fun h => h) fun ⟨b, off, q1, q2, _, q3⟩ => ⟨b, off, q1, q2, q3⟩⟩

theorem ints_cells {k : IntKind} {w : World} {fr : Nat → Prop} : ∀ (xs : List Int) (zs : List Value), LRel (DRel w fr (.int k)) 1 xs zs → zs = xs.map (.int k)
  | [], _, h => by cases h; rfl
  | x :: xs, _, ⟨d, rest, e1, e2, e3, e4⟩ => by
    simp only [DRel] at e3
    subst e1; subst e3
    rw [ints_cells xs rest e4]; rfl

theorem fold_push : ∀ (ns : List Int) (acc : List UInt8), ns.foldl (fun r n => r.push (UInt8.ofNat n.toNat)) (⟨acc.toArray⟩ : ByteArray) = ⟨(acc ++ ofBytes ns).toArray⟩
  | [], acc => by simp [ofBytes]
  | n :: ns, acc => by
    rw [List.foldl_cons]
    have : (⟨acc.toArray⟩ : ByteArray).push (UInt8.ofNat n.toNat) = ⟨(acc ++ [UInt8.ofNat n.toNat]).toArray⟩ := by
      simp [ByteArray.push]
    rw [this, fold_push ns]
    simp [ofBytes]

theorem q_convert (hT : TOk P T) (hok : c.Ok W0) {s d : TypeId} {x : AVal} {v : Value} {K : AVal → Option R} (h : evConvert T s d x c.hp K = some r) (hx : VRel c x v) :
    ∃ z u, K z = some r ∧ VRel c z u ∧ ∀ w', Ext c w' → (convert s d v).run P w' = .ok u w' := by
  unfold evConvert at h
  cases hk : ((T.at s).known && (T.at d).known)
  · rw [hk] at h; cases h
  rw [hk] at h
  simp only [Bool.not_true, cond_false] at h
  simp only [Bool.and_eq_true] at hk
  split at h
  · rename_i k1 k2 k3 n h1 h2
    simp only [VRel] at hx
    obtain rfl := hx.int_inv
    have e1 := hT.int hk.1 h1
    have e2 := hT.int hk.2 h2
    exact ⟨_, _, h, by simp only [VRel]; exact VD.int_mk, fun w' _ => by simp [convert, run_underlying e1, run_underlying e2, Conv.intToInt]⟩
  · rename_i str h1 h2
    simp only [VRel] at hx
    obtain rfl := hx.str_inv
    have e1 := hT.str hk.1 h1
    have e2 := hT.str hk.2 h2
    exact ⟨_, _, h, by simp only [VRel]; exact VD.str_mk, fun w' _ => by simp [convert, run_underlying e1, run_underlying e2]⟩
  · rename_i e h1 h2
    split at h
    · rename_i h3
      split at h
      · rename_i xs hxs
        replace h := need_some h
        obtain ⟨hb, h⟩ := h
        have hke := hb
        have e1 := hT.slice hk.1 h1
        have e2 := hT.str hk.2 h2
        have e3 := hT.int hke h3
        obtain ⟨a, cp, zs, rfl, hL, hsrc⟩ := src_rel hok hxs hx
        refine ⟨_, .string ⟨(ofBytes xs).toArray⟩, h, by simp only [VRel]; exact VD.str_mk, fun w' hw => ?_⟩
        have hz := ints_cells xs zs hL
        cases hxe : xs with
        | nil =>
          subst hxe
          rcases a with _ | ad
          · simp only [convert, run_underlying e1, run_underlying e2, run_underlying e3, Sem.run_bind, Result.andThen_ok, Conv.bytesToString, Sem.run_pure]
            rfl
          · rw [run_convert_bytes_string w' s d e _ _ _ e1 e3 e2, run_bytesToString (P := P) w' ad _ cp [] (by simp [loadCells, loadCellsFrom])]
            rfl
        | cons x0 rest =>
          have hne : zs ≠ [] := by rw [hz, hxe]; simp
          obtain ⟨b, off, rfl, hb2, hc⟩ := hsrc.resolve_left hne
          have hc' := hw.cells hb2 hc
          have hld : (loadCells ⟨b, off, none⟩ zs.length).run P w' = .ok zs.toArray w' := run_loadCells_list (P := P) w' _ zs fun j v hj => by
            obtain ⟨hj1, hj2⟩ := List.getElem?_eq_some_iff.1 hj
            rw [addr_add', hc' j hj1, hj2]
          have hzl : zs.length = xs.length := by rw [hz]; simp
          rw [← hxe, run_convert_bytes_string w' s d e _ _ _ e1 e3 e2, run_bytesToString (P := P) w' ⟨b, off, none⟩ xs.length cp xs (by rw [← hz, ← hzl]; exact hld)]
          have := fold_push xs []
          simp only [List.nil_append] at this
          rw [← this]; rfl
      · cases h
    · cases h
  · cases h
theorem run_mapM_list {α β : Type} (f : α → Sem β) (g : α → β) (w : World) : ∀ (l : List α), (∀ x ∈ l, (f x).run P w = .ok (g x) w) → (l.mapM f).run P w = .ok (l.map g) w
  | [], _ => rfl
  | x :: l, h => by
    simp only [List.mapM_cons, Sem.run_bind, h x (by simp), Result.andThen_ok, run_mapM_list f g w l (fun y hy => h y (by simp [hy])), Sem.run_pure, List.map_cons]

theorem run_mapM_arr {α β : Type} (f : α → Sem β) (g : α → β) (w : World) (l : Array α) (h : ∀ x ∈ l.toList, (f x).run P w = .ok (g x) w) : (l.mapM f).run P w = .ok (l.map g) w := by
  rw [Array.mapM_eq_mapM_toList, Sem.run_map, run_mapM_list f g w l.toList h]
  simp only [Result.andThen_ok]
  congr 1
  apply Array.ext'
  simp

def cellsN (P : Program) (t : TypeId) : Nat := ((P.info? t).map (·.size)).getD 0

theorem quiet_op (hT : TOk P T) (hok : c.Ok W0) {cl : Bool} {call : CallFn R} {o : Oper} {st : St} {a : Act} {K : AVal → St → Option R} (hq : quietOwn o.op = true) (hhp : c.hp = st.hp) (hfr : VRels c st.fr a.tmps.toList)
    (h : evalOp T cl call o st K = some r) : ∃ z u, K z st = some r ∧ VRel c z u ∧ ∀ w', Ext c w' → (execOp a.eval o).run P w' = .ok (.value u) w' := by
  have hval : ∀ {s : Sem Value} {u : Value} {w' : World}, s.run P w' = .ok u w' → (do pure (Next.value (← s)) : Sem Next).run P w' = .ok (.value u) w' := fun hs => by
    simp [Sem.run_bind, hs]
  obtain ⟨dst, op, ty, pos, after, guard⟩ := o
  simp only at hq
  cases op <;> simp only [quietOwn, quietOp, Bool.false_eq_true] at hq
  case move x => exact ⟨_, _, h, evalO_rel hfr x, fun w' _ => rfl⟩
  case assign x => exact ⟨_, _, h, evalO_rel hfr x, fun w' _ => rfl⟩
  case pick x y z =>
    simp only [evalOp] at h
    have hc := evalO_rel hfr x
    split at h
    · rename_i b hb
      rw [hb] at hc
      simp only [VRel] at hc
      have hc' := hc.bool_inv
      cases b
      · exact ⟨_, _, h, evalO_rel hfr z, fun w' _ => by simp [execOp, hc', asBool]⟩
      · exact ⟨_, _, h, evalO_rel hfr y, fun w' _ => by simp [execOp, hc', asBool]⟩
    · cases h
  case build t parts =>
    simp only [evalOp] at h
    cases hk : (T.at t).known
    · rw [hk] at h; cases h
    rw [hk] at h
    simp only [Bool.not_true, cond_false] at h
    split at h
    · rename_i fs hkk
      split at h
      · rename_i cs hcs
        obtain ⟨fields, hu, hfs⟩ := hT.struct hk hkk
        obtain ⟨i, z, hi, hsz, hby, hz, hzero, hz1⟩ := hT.info hk
        have hz0 : VRels c (T.at t).zero z.cells.toList := by rw [← hzero]; exact constC_rels c _
        have hz1 : ∀ u ∈ z.cells.toList, u.oneCell' = true := fun u hu => List.all_eq_true.1 hz1 u hu
        obtain ⟨zs', g1, g2, g3⟩ := fill_rel (c := c) hT (place := fun k => (fields.map fun f => (f.offset, cellsN P f.type))[k]?) (fun k off ft hk2 hk3 => by
            rw [← hfs, List.getElem?_map] at hk2
            cases hfl : fields.toList[k]? with
            | none => rw [hfl] at hk2; cases hk2
            | some fl =>
              rw [hfl] at hk2
              simp only [Option.map_some, Option.some.injEq, Prod.mk.injEq] at hk2
              have : fields[k]? = some fl := by simpa using hfl
              obtain ⟨i', z', hi', hs', _⟩ := hT.info hk3
              simp [this, hk2.1, hk2.2, cellsN, hi', hs']) _ (parts.toList.map fun p => (p.1, a.eval p.2)) _ _ _ hcs hz0 hz1 (by simp [Function.comp_def]) (by
            simp only [List.map_map, Function.comp_def]
            have := VRels.map_eval (c := c) hfr (parts.toList.map (·.2))
            simpa [List.map_map, Function.comp_def] using this)
        have hall := (hT t hk).2.2.2.2.2.2.1
        rw [hu] at hall
        simp only [Option.map_some, Option.some.injEq] at hall
        refine ⟨_, .agg zs'.toArray, h, ?_, fun w' _ => hval ?_⟩
        · have := norm_rel (c := c) hT hk g2 g3
          have hagg : (T.at t).isAgg = true := by simp [TI.isAgg, hkk]
          simpa [valOf, hagg] using this
        · have hm := run_mapM_arr (P := P) (fun f : Field => do pure (f.offset, ← sizeOf f.type)) (fun f => (f.offset, cellsN P f.type)) w' fields (fun f hf => by
            have := List.all_eq_true.1 hall f hf
            cases hi2 : P.info? f.type with
            | none => rw [hi2] at this; cases this
            | some i2 => simp [sizeOf, typeInfo, hi2, cellsN])
          have hzv : (zeroValue t).run P w' = .ok z w' := by simp [zeroValue, typeInfo, hi, hz]
          simp only [Instr.build, Sem.run_bind, hzv, Result.andThen_ok, run_underlying hu, hm]
          have g1' : Instr.fill (fun k => (fields.map fun f => (f.offset, cellsN P f.type))[k]?) z.cells (Array.map (fun p => (p.1, a.eval p.2)) parts).toList = some zs'.toArray := by
            rw [← g1]; simp
          rw [g1']
          rfl
      · cases h
    · cases h
  case load t x =>
    simp only [evalOp] at h
    rw [← hhp] at h
    obtain ⟨z, u, h1, h2, h3⟩ := q_load (K := fun v => K v st) hT hok h (evalO_rel hfr x)
    exact ⟨z, u, h1, h2, fun w' hw => hval (h3 w' hw)⟩
  case nilCheck x =>
    simp only [evalOp] at h
    have hx := evalO_rel hfr x
    split at h
    · rename_i id off he
      rw [he] at hx
      split at h
      · rename_i bt cs hcs
        have hx' := hx
        simp only [VRel] at hx
        rw [← hhp] at hcs
        have hv := hx.2.2 _ _ hcs
        exact ⟨_, _, h, hx', fun w' _ => by simp [execOp, hv]⟩
      · cases h
    · rename_i y e he
      rw [he] at hx
      have hx' := hx
      simp only [VRel] at hx
      obtain ⟨b, o, zs, hv, _⟩ := hx
      exact ⟨_, _, h, hx', fun w' _ => by simp [execOp, hv]⟩
    · rename_i id ver i off he
      rw [he] at hx
      split at h
      · rename_i e u xs harr
        replace h := bif_some h
        obtain ⟨h0, h⟩ := h
        have h0 : u = ver := by simpa using h0
        subst h0
        have hx' := hx
        simp only [VRel] at hx
        rw [← hhp] at harr
        obtain ⟨g, n, cp, _, hv⟩ := (hx.2.2 _ _ _ harr).2 rfl
        exact ⟨_, _, h, hx', fun w' _ => by simp [execOp, hv]⟩
      · cases h
    · cases h
  case binOp op t x y yt =>
    simp only [evalOp] at h
    rw [← hhp] at h
    obtain ⟨z, u, h1, h2, h3⟩ := q_binH (P := P) (ox := x) (oy := y) (K := fun v => K v st) hT hok h (evalO_rel hfr x) (evalO_rel hfr y)
    exact ⟨z, u, h1, h2, fun w' hw => hval (h3 w')⟩
  case unOp op t x =>
    simp only [evalOp] at h
    obtain ⟨z, u, h1, h2, h3⟩ := q_un (P := P) (K := fun v => K v st) h (evalO_rel hfr x)
    exact ⟨z, u, h1, h2, fun w' hw => hval (h3 w')⟩
  case convert sT dT x =>
    simp only [evalOp] at h
    rw [← hhp] at h
    obtain ⟨z, u, h1, h2, h3⟩ := q_convert (P := P) (K := fun v => K v st) hT hok h (evalO_rel hfr x)
    exact ⟨z, u, h1, h2, fun w' hw => hval (h3 w' hw)⟩
  case slice t x lo hi mx =>
    simp only [evalOp] at h
    rw [← hhp] at h
    obtain ⟨z, u, h1, h2, h3⟩ := q_slice (P := P) (K := fun v => K v st) hT hok h (evalO_rel hfr x) (OptRel.map hfr lo) (OptRel.map hfr hi) (OptRel.map hfr mx)
    exact ⟨z, u, h1, h2, fun w' hw => hval (h3 w')⟩
  case fieldAddr t x f =>
    simp only [evalOp] at h
    rw [← hhp] at h
    obtain ⟨z, u, h1, h2, h3⟩ := q_fieldAddr (P := P) (K := fun v => K v st) hT h (evalO_rel hfr x)
    exact ⟨z, u, h1, h2, fun w' hw => hval (h3 w')⟩
  case field t x f =>
    simp only [evalOp] at h
    obtain ⟨z, u, h1, h2, h3⟩ := q_field (P := P) (K := fun v => K v st) hT h (evalO_rel hfr x)
    exact ⟨z, u, h1, h2, fun w' hw => hval (h3 w')⟩
  case indexAddr t x i =>
    simp only [evalOp] at h
    rw [← hhp] at h
    obtain ⟨z, u, h1, h2, h3⟩ := q_indexAddr (P := P) (K := fun v => K v st) hT hok h (evalO_rel hfr x) (evalO_rel hfr i)
    exact ⟨z, u, h1, h2, fun w' hw => hval (h3 w')⟩
  case index t x i =>
    simp only [evalOp] at h
    split at h
    · rename_i s n hs hn
      replace h := need_some h
      obtain ⟨h1, h⟩ := h
      have hx := evalO_rel hfr x
      rw [hs] at hx
      obtain ⟨h2, h3⟩ := q_index (P := P) hT hx (evalO_rel hfr i) hn h1
      exact ⟨_, _, h, h2, fun w' hw => hval (h3 w')⟩
    · cases h
  case extract x n =>
    simp only [evalOp] at h
    have hx := evalO_rel hfr x
    split at h
    · rename_i l hl
      rw [hl] at hx
      split at h
      · rename_i v hv
        simp only [VRel] at hx
        obtain ⟨vs, he, hvs⟩ := hx
        obtain ⟨hn, hv⟩ := List.getElem?_eq_some_iff.1 hv
        have hlen := VRels.length _ _ hvs
        simp at hlen
        have h1 := VRels.get _ _ hvs n hn (by simp; omega)
        rw [hv] at h1
        simp only [Array.getElem_toList] at h1
        refine ⟨_, _, h, h1, fun w' _ => hval ?_⟩
        rw [he]
        have : vs[n]? = some vs[n] := Array.getElem?_eq_getElem (by omega)
        simp [Instr.extract, this]
      · cases h
    · cases h
  case call cc =>
    obtain ⟨callee, args, argTypes⟩ := cc
    simp only at hq
    have hargs := VRels.map_eval (c := c) hfr args.toList
    split at hq
    all_goals try (cases hq; done)
    · -- len
      simp only [evalOp, evBuiltin] at h
      split at h <;> try (cases h; done)
      · rename_i x hb hx
        split at h <;> try (cases h; done)
        rename_i t ht
        rw [← hhp] at h
        obtain ⟨x0, hx0⟩ : ∃ x0, args = #[x0] := by
          obtain ⟨l⟩ := args
          match l, hx with
          | [x0], _ => exact ⟨x0, rfl⟩
        subst hx0
        obtain ⟨t0⟩ := argTypes
        simp only at ht
        subst ht
        simp only [List.map_cons, List.map_nil, List.cons.injEq, and_true] at hx
        subst hx
        obtain ⟨z, u, h1, h2, h3⟩ := q_len (P := P) (K := fun v => K v st) hT hok h (evalO_rel hfr x0) (ty := ty)
        exact ⟨z, u, h1, h2, fun w' hw => by simp [execOp, resolve, invoke, builtin, Sem.run_bind, h3 w']⟩
      all_goals (rename_i hb _; cases hb)
    · -- min
      simp only [evalOp, evBuiltin] at h
      split at h <;> try (cases h; done)
      all_goals try (rename_i hb _; cases hb; done)
      rename_i k n l hb hx
      split at h <;> try (cases h; done)
      rename_i ns hns
      rw [hx] at hargs
      obtain ⟨al⟩ := args
      cases al with
      | nil => simp [VRels] at hargs
      | cons x0 al =>
        simp only [List.map_cons, VRels] at hargs
        have h0 := hargs.1
        simp only [VRel] at h0
        have h1 := h0.int_inv
        have h2 := allInts_rel _ _ _ hns hargs.2
        exact ⟨_, _, h, by simp only [VRel]; exact VD.int_mk, fun w' hw => by simp [execOp, resolve, invoke, builtin, Sem.run_bind, Builtin.min_, h1, h2, run_mins]⟩
    · -- max
      simp only [evalOp, evBuiltin] at h
      split at h <;> try (cases h; done)
      all_goals try (rename_i hb _; cases hb; done)
      rename_i k n l hb hx
      split at h <;> try (cases h; done)
      rename_i ns hns
      rw [hx] at hargs
      obtain ⟨al⟩ := args
      cases al with
      | nil => simp [VRels] at hargs
      | cons x0 al =>
        simp only [List.map_cons, VRels] at hargs
        have h0 := hargs.1
        simp only [VRel] at h0
        have h1 := h0.int_inv
        have h2 := allInts_rel _ _ _ hns hargs.2
        exact ⟨_, _, h, by simp only [VRel]; exact VD.int_mk, fun w' hw => by simp [execOp, resolve, invoke, builtin, Sem.run_bind, Builtin.max_, h1, h2, run_maxs]⟩
end
end Go.Proofs.YtnmaceljkegenaaDoor
