/-
  The plain machine: what is made, and what is written.
-/
import Derived.Test.YtnmaceljkegenaaDoorAi
namespace Go.Proofs.YtnmaceljkegenaaDoor
open Go.RowKit
set_option linter.unusedVariables false
set_option linter.unusedSimpArgs false

/-- what a step leaves: memory goes on, what was said stays true -/
structure Did (W0 : World) (c : Cx) (st : St) (c' : Cx) (st' : St) : Prop where
  hp : c'.hp = st'.hp
  nxt : c'.nxt = st'.nxt
  fr : st'.fr = st.fr
  stk : st'.stk = st.stk
  ok : c'.Ok W0
  le : c.Le c'

section
variable {P : Program} {T : TT} {W0 : World} {c : Cx} {R : Type} {r : R} {t : TypeId}

theorem Did.refl (hok : c.Ok W0) {st : St} (h1 : c.hp = st.hp) (h2 : c.nxt = st.nxt) : Did W0 c st c st := ⟨h1, h2, rfl, rfl, hok, Cx.Le.refl c⟩

theorem Did.trans {c' c'' : Cx} {st st' st'' : St} (h : Did W0 c st c' st') (k : Did W0 c' st' c'' st'') : Did W0 c st c'' st'' :=
  ⟨k.hp, k.nxt, k.fr.trans h.fr, k.stk.trans h.stk, k.ok, h.le.trans k.le⟩

theorem alloc_some' {cl : Bool} {dst : Option Nat} {o : AObj} {st : St} {K : Nat → St → Option R} (h : alloc cl dst o st K = some r) :
    ∃ n', hget st.hp (newId cl st dst) = none ∧ st.nxt ≤ newId cl st dst ∧ st.nxt ≤ n' ∧ K (newId cl st dst) { st with hp := (newId cl st dst, o) :: st.hp, nxt := n' } = some r := by
  unfold alloc at h
  split at h
  · cases h
  · rename_i h0
    replace h := bif_some h
    obtain ⟨h1, h⟩ := h
    have h1 : st.nxt ≤ newId cl st dst := by simpa using h1
    refine ⟨_, h0, h1, ?_, h⟩
    cases cl <;> simp <;> omega

theorem alloc_some {cl : Bool} {dst : Option Nat} {o : AObj} {st : St} {K : Nat → St → Option R} (h : alloc cl dst o st K = some r) :
    ∃ id n', hget st.hp id = none ∧ st.nxt ≤ id ∧ st.nxt ≤ n' ∧ K id { st with hp := (id, o) :: st.hp, nxt := n' } = some r :=
  let ⟨n', h1, h2, h3, h4⟩ := alloc_some' h
  ⟨_, n', h1, h2, h3, h4⟩

theorem not_known {st : St} {id : Nat} (h1 : c.hp = st.hp) (h2 : c.nxt = st.nxt) (h3 : hget st.hp id = none) (h4 : st.nxt ≤ id) : ¬ c.known id := by
  rintro (⟨o, ho⟩ | h)
  · rw [h1, h3] at ho; cases ho
  · omega

theorem below_alloc (w : World) (o : Obj) : Below w.heap.size w (w.alloc o) := (Below.refl _ _).alloc (Nat.le_refl _) o

/-- a block of our own, whose cells may hold its own address -/
theorem new_box_self (hok : c.Ok W0) {st : St} (h1 : c.hp = st.hp) (h2 : c.nxt = st.nxt) {id n' : Nat} (h3 : hget st.hp id = none) (h4 : st.nxt ≤ id) (h5 : st.nxt ≤ n') {cs : List AVal} {vs : Array Value} (e : TypeId)
    (hv : ∀ c', c.Le c' → hget c'.hp id = some (.box e cs) → c'.known id → (c'.mu id).blk = c.w.heap.size → VRels c' cs vs.toList) (h6 : ∀ u ∈ vs.toList, u.oneCell' = true) :
    ∃ c', Did W0 c st c' { st with hp := (id, .box e cs) :: st.hp, nxt := n' } ∧ c'.w = c.w.alloc (.cells vs e) ∧ VRel c' (.ptr id 0) (.pointer (some ⟨c.w.heap.size, 0, none⟩)) := by
  have hk := not_known h1 h2 h3 h4
  have hb := below_alloc c.w (.cells vs e)
  have hl : ∀ b, AObj.blk (.box e cs) ⟨c.w.heap.size, undef⟩ = some b → c.w.heap.size ≤ b := fun b hb => by
    simp only [AObj.blk, Option.some.injEq] at hb; omega
  have hle := Cx.Le.push (o := .box e cs) (l := ⟨c.w.heap.size, undef⟩) (nxt := n') (w := c.w.alloc (.cells vs e)) hk (by omega) hb.size hb.block hl
  have hget' : hget (c.push id (.box e cs) ⟨c.w.heap.size, undef⟩ n' (c.w.alloc (.cells vs e))).hp id = some (.box e cs) := by simp [Cx.push, hget_cons]
  have ho : (c.push id (.box e cs) ⟨c.w.heap.size, undef⟩ n' (c.w.alloc (.cells vs e))).ORel W0.heap.size id (.box e cs) := by
    refine ⟨by simp [Cx.push, upd_same]; exact hok.size, vs, ?_, hv _ hle hget' (.inl ⟨_, hget'⟩) (by simp [Cx.push, upd_same]), h6⟩
    simp only [Cx.push, upd_same]
    exact heap_alloc_new c.w _
  refine ⟨_, ⟨?_, rfl, rfl, rfl, hok.push hk (by omega) hb hl ho, hle⟩, rfl, ?_⟩
  · simp [Cx.push, h1]
  · simp only [VRel]
    refine ⟨rfl, .inl ⟨.box e cs, by simp [Cx.push, hget_cons]⟩, fun t' cs' _ => by simp [Cx.push, upd_same]⟩

/-- a block of our own -/
theorem new_box (hok : c.Ok W0) {st : St} (h1 : c.hp = st.hp) (h2 : c.nxt = st.nxt) {id n' : Nat} (h3 : hget st.hp id = none) (h4 : st.nxt ≤ id) (h5 : st.nxt ≤ n') {cs : List AVal} {vs : Array Value} (hv : VRels c cs vs.toList)
    (h6 : ∀ u ∈ vs.toList, u.oneCell' = true) (e : TypeId) :
    ∃ c', Did W0 c st c' { st with hp := (id, .box e cs) :: st.hp, nxt := n' } ∧ c'.w = c.w.alloc (.cells vs e) ∧ VRel c' (.ptr id 0) (.pointer (some ⟨c.w.heap.size, 0, none⟩)) :=
  new_box_self hok h1 h2 h3 h4 h5 e (fun c' hle _ _ _ => VRels.le hle _ _ hv) h6

/-- a row of our own in a block of its own -/
theorem new_arr (hok : c.Ok W0) {st : St} (h1 : c.hp = st.hp) (h2 : c.nxt = st.nxt) {id n' : Nat} (h3 : hget st.hp id = none) (h4 : st.nxt ≤ id) (h5 : st.nxt ≤ n') {y : Ty} (hpos : 0 < y.size) {xs : List y.den} {v : Value} {w : World}
    (hw : Below c.w.heap.size c.w w) (e : TypeId) (zs : List Value) (hown : w.ownsRow c.w.heap.size e y.size v xs.length zs) (hL : LRel (DRel c.w c.free y) y.size xs zs) (hone : v.oneCell' = true) (hty : y = .int .u8 → e = byteTy) :
    ∃ c', Did W0 c st c' { st with hp := (id, .arr y 0 xs) :: st.hp, nxt := n' } ∧ c'.w = w ∧ VRel c' (.slc id 0 none) v := by
  have hk := not_known h1 h2 h3 h4
  have hl : ∀ b, AObj.blk (.arr y 0 xs) ⟨0, v⟩ = some b → c.w.heap.size ≤ b := fun b hb => (World.ownsRow.lt hown b hb).1
  have hle := Cx.Le.push (o := .arr y 0 xs) (l := ⟨0, v⟩) (nxt := n') (w := w) hk (by omega) hw.size hw.block hl
  have hown' : w.ownsRow W0.heap.size e y.size v xs.length zs := by
    refine ⟨hown.1, ?_⟩
    rcases hown.2 with h | ⟨g, cap, cur, e1, e2, e3⟩
    · exact .inl h
    · exact .inr ⟨g, cap, cur, e1, Nat.le_trans hok.size e2, e3⟩
  have ho : (c.push id (.arr y 0 xs) ⟨0, v⟩ n' w).ORel W0.heap.size id (.arr y 0 xs) := by
    refine ⟨hpos, e, zs, ?_, LRel.mono (DRel.mono hle.free y) _ _ hL, hty⟩
    simp only [Cx.push, upd_same]
    exact hown'
  refine ⟨_, ⟨?_, rfl, rfl, rfl, hok.push hk (by omega) hw hl ho, hle⟩, rfl, ?_⟩
  · simp [Cx.push, h1]
  · simp only [VRel]
    refine ⟨hone, .inl ⟨.arr y 0 xs, by simp [Cx.push, hget_cons]⟩, fun t u xs' h => ?_⟩
    have : AObj.arr y 0 xs = .arr t u xs' := by simpa [Cx.push, hget_cons] using h
    cases this
    exact ⟨Nat.le_refl _, fun _ => by simp [ViewIs, Cx.push, upd_same]⟩

/-! ### new things -/

def Loud (P : Program) (W0 : World) (c : Cx) (st : St) (o : Oper) (a : Act) (K : AVal → St → Option R) (r : R) : Prop :=
  ∃ z u c' st', K z st' = some r ∧ Did W0 c st c' st' ∧ VRel c' z u ∧ ((execOp a.eval o).run P c.w = .ok (.value u) c'.w ∨ ((execOp a.eval o).run P c.w = .ok .skip c'.w ∧ u = undef))

theorem loud_val {st : St} {o : Oper} {a : Act} {K : AVal → St → Option R} {s : Sem Value} {z : AVal} {u : Value} {c' : Cx} {st' : St} (hs : execOp a.eval o = (do pure (Next.value (← s)))) (h1 : K z st' = some r) (h2 : Did W0 c st c' st') (h3 : VRel c' z u)
    (h4 : s.run P c.w = .ok u c'.w) : Loud P W0 c st o a K r := ⟨z, u, c', st', h1, h2, h3, .inl (by rw [hs]; simp [Sem.run_bind, h4])⟩

theorem l_alloc (hT : TOk P T) (hok : c.Ok W0) {cl : Bool} {call : CallFn R} {o : Oper} {st : St} {a : Act} {K : AVal → St → Option R} (hhp : c.hp = st.hp) (hnx : c.nxt = st.nxt) (ho : o.op = .alloc t)
    (h : evalOp T cl call o st K = some r) : Loud P W0 c st o a K r := by
  obtain ⟨dst, op, ty, pos, after, guard⟩ := o
  simp only at ho
  subst ho
  simp only [evalOp] at h
  replace h := bif_some h
  obtain ⟨hk, h⟩ := h
  obtain ⟨i, z, hi, hsz, hby, hz, hzero, hz1⟩ := hT.info hk
  have hz1 : ∀ u ∈ z.cells.toList, u.oneCell' = true := fun u hu => List.all_eq_true.1 hz1 u hu
  have hrun : (Instr.alloc t true (.tuple #[])).run P c.w = .ok (.pointer (some ⟨c.w.heap.size, 0, none⟩)) (c.w.alloc (.cells z.cells t)) := by
    simp [Instr.alloc, zeroValue, typeInfo, hi, hz, newVar, newRow]
  have plain : (alloc cl dst (.box t (T.at t).zero) st fun id st => K (.ptr id 0) st) = some r → Loud P W0 c st ⟨dst, .alloc t, ty, pos, after, guard⟩ a K r := fun h => by
    obtain ⟨id, n', e1, e2, e3, e4⟩ := alloc_some h
    obtain ⟨c', d1, d2, d3⟩ := new_box hok hhp hnx e1 e2 e3 (cs := (T.at t).zero) (vs := z.cells) (by rw [← hzero]; exact constC_rels c _) hz1 t
    exact loud_val rfl e4 d1 d3 (by rw [d2]; exact hrun)
  split at h
  · rename_i et hkk hzz
    split at h
    · rename_i y hy
      replace h := bif_some h
      obtain ⟨hpos, h⟩ := h
      have hpos : 0 < y.size := by simpa [ltN] using hpos
      obtain ⟨i1, n1, e1, e2, e3, e4⟩ := alloc_some h
      have hzc : z.cells.toList = [.slice none 0 0] := by
        rw [hzz] at hzero
        match hq : z.cells.toList, hzero with
        | [v], hv =>
          simp only [List.map_cons, List.map_nil, List.cons.injEq, and_true] at hv
          unfold constC at hv
          split at hv <;> simp at hv
          rfl
        | [], hv => simp at hv
        | _ :: _ :: _, hv => simp at hv
      obtain ⟨c1, d1, d2, d3⟩ := new_arr hok hhp hnx e1 e2 e3 hpos (xs := []) (Below.refl _ _) (if y = .int .u8 then byteTy else et) [] (World.ownsRow_nil _ _ _ _) (by simp [LRel]) (v := .slice none 0 0) rfl (fun h => by simp [h])
      obtain ⟨id, n', f1, f2, f3, f4⟩ := alloc_some e4
      obtain ⟨c2, g1, g2, g3⟩ := new_box d1.ok d1.hp d1.nxt f1 f2 f3 (cs := [.slc i1 0 none]) (vs := z.cells) (by rw [hzc]; simp only [VRels]; exact ⟨d3, trivial⟩) hz1 t
      rw [d2] at g3
      refine loud_val rfl f4 (d1.trans g1) g3 ?_
      rw [g2, d2]; exact hrun
    · exact plain h
  · rename_i fs hkk hzz
    rw [cond_eq_ite] at h
    split at h
    · obtain ⟨i1, n1, e1, e2, e3, e4⟩ := alloc_some h
      have hzc : z.cells.toList = [.pointer none, .slice none 0 0] := by
        rw [hzz] at hzero
        match hq : z.cells.toList, hzero with
        | [v, v'], hv =>
          simp only [List.map_cons, List.map_nil, List.cons.injEq, and_true] at hv
          obtain ⟨hv1, hv2⟩ := hv
          have q1 : v = .pointer none := by
            unfold constC at hv1
            split at hv1 <;> simp at hv1
            rfl
          have q2 : v' = .slice none 0 0 := by
            unfold constC at hv2
            split at hv2 <;> simp at hv2
            rfl
          rw [q1, q2]
        | [], hv => simp at hv
        | [_], hv => simp at hv
        | _ :: _ :: _ :: _, hv => simp at hv
      obtain ⟨c1, d1, d2, d3⟩ := new_arr hok hhp hnx e1 e2 e3 (y := .int .u8) (by simp [Ty.size]) (xs := []) (Below.refl _ _) byteTy [] (World.ownsRow_nil _ _ _ _) (by simp [LRel]) (v := .slice none 0 0) rfl (fun _ => rfl)
      obtain ⟨n', f1, f2, f3, f4⟩ := alloc_some' e4
      obtain ⟨c2, g1, g2, g3⟩ := new_box_self d1.ok d1.hp d1.nxt f1 f2 f3 (cs := [.slf _, .slc i1 0 none]) (vs := z.cells) t (fun c' hle hg hkn hblk => by
        rw [hzc]
        simp only [VRels, VRel]
        refine ⟨⟨rfl, hkn, fun _ _ _ => .inl trivial⟩, ?_, trivial⟩
        have := VRel.le hle _ _ d3
        simpa only [VRel] using this) hz1
      rw [d2] at g3
      refine loud_val rfl f4 (d1.trans g1) g3 ?_
      rw [g2, d2]; exact hrun
    · exact plain h
  · exact plain h

theorem l_box (hT : TOk P T) (hok : c.Ok W0) {cl : Bool} {call : CallFn R} {o : Oper} {st : St} {a : Act} {K : AVal → St → Option R} {x : Operand} (hhp : c.hp = st.hp) (hnx : c.nxt = st.nxt) (hfr : VRels c st.fr a.tmps.toList) (ho : o.op = .box t x)
    (h : evalOp T cl call o st K = some r) : Loud P W0 c st o a K r := by
  obtain ⟨dst, op, ty, pos, after, guard⟩ := o
  simp only at ho
  subst ho
  simp only [evalOp] at h
  split at h
  · rename_i vs hvs
    replace h := bif_some h
    obtain ⟨hk, h⟩ := h
    obtain ⟨id, n', e1, e2, e3, e4⟩ := alloc_some h
    obtain ⟨r1, r2⟩ := cells_rel hvs (evalO_rel hfr x)
    obtain ⟨c', d1, d2, d3⟩ := new_box hok hhp hnx e1 e2 e3 r1 r2 t
    refine loud_val rfl e4 d1 d3 ?_
    rw [d2]
    simp [Instr.box, newVar, newRow]
  · cases h

theorem as_rel {hp : Heap} {y : Ty} {v : AVal} {x : y.den} (h : v.as [] y = some x) {u : Value} (hv : VRel c v u) : DRel c.w c.free y x u.cells.toList := by
  cases v with
  | val t' z =>
    simp only [AVal.as] at h
    have e := castTy_ty h
    subst e
    rw [castTy_same] at h
    cases h
    simp only [VRel] at hv
    exact hv.cells
  | nils =>
    simp only [VRel] at hv
    subst hv
    cases y <;> simp only [AVal.as, reduceCtorEq] at h
    cases h
    exact ⟨none, 0, [], rfl, by simp, rfl, .inl rfl⟩
  | lst t' z b =>
    simp only [AVal.as] at h
    have e := castTy_ty h
    subst e
    rw [castTy_same] at h
    cases h
    simp only [VRel] at hv
    exact hv.1.cells
  | emp =>
    simp only [VRel] at hv
    obtain ⟨a, rfl⟩ := hv
    cases y <;> simp only [AVal.as, reduceCtorEq] at h
    cases h
    exact ⟨a, 0, [], rfl, by simp, rfl, .inl rfl⟩
  | slc id ver vw => cases y <;> simp_all [AVal.as, content, hget]
  | agg l =>
    simp only [AVal.as] at h
    replace h := bif_some h
    simp only [VRel] at hv
    obtain ⟨vs, rfl, h2, _⟩ := hv
    exact mkAll_rel h.2 h2
  | _ => simp [AVal.as] at h

theorem LRel.replicate {α : Type} {Q : α → List Value → Prop} {size : Nat} {x : α} {d : List Value} (hd : d.length = size) (hx : Q x d) : ∀ n, LRel Q size (List.replicate n x) (List.replicate n d).flatten
  | 0 => by simp [LRel]
  | n + 1 => ⟨d, (List.replicate n d).flatten, by simp [List.replicate_succ], hd, hx, LRel.replicate hd hx n⟩

theorem madeCells_flat (d : Array Value) : ∀ n, (madeCells d (n * d.size)).toList = (List.replicate n d.toList).flatten := by
  intro n
  by_cases h0 : d.size = 0
  · have : d = #[] := Array.size_eq_zero_iff.1 h0
    subst this
    simp [madeCells]
  apply List.ext_getElem?
  intro j
  have hlen : (List.replicate n d.toList).flatten.length = n * d.size := by simp
  by_cases hj : j < n * d.size
  · have key : ∀ n j, j < n * d.size → (List.replicate n d.toList).flatten[j]? = d.toList[j % d.size]? := by
      intro n
      induction n with
      | zero => intro j hj; simp at hj
      | succ n ih =>
        intro j hj
        rw [List.replicate_succ, List.flatten_cons]
        rcases Nat.lt_or_ge j d.size with h1 | h1
        · rw [List.getElem?_append_left (by simpa using h1), Nat.mod_eq_of_lt h1]
        · rw [List.getElem?_append_right (by simpa using h1)]
          simp only [Array.length_toList]
          rw [ih (j - d.size) (by rw [Nat.add_mul] at hj; omega), Nat.mod_eq_sub_mod h1]
    rw [key n j hj]
    have hm : j % d.size < d.size := Nat.mod_lt _ (by omega)
    simp [madeCells, hj, hm]
  · rw [List.getElem?_eq_none (by simp [madeCells]; omega), List.getElem?_eq_none (by rw [hlen]; omega)]

theorem parts_rel {e : Ty} (place : Nat → Option (Nat × Nat)) (hpl : ∀ i, place i = some (i * e.size, e.size)) : ∀ (parts : List (Nat × AVal)) (us : List (Nat × Value)) (xs xs' : List e.den) (zs : List Value), evParts e xs parts = some xs' → LRel (DRel c.w c.free e) e.size xs zs →
      us.map (·.1) = parts.map (·.1) → VRels c (parts.map (·.2)) (us.map (·.2)) → ∃ zs', Instr.fill place zs.toArray us = some zs'.toArray ∧ LRel (DRel c.w c.free e) e.size xs' zs' ∧ xs'.length = xs.length
  | [], us, xs, xs', zs, h, hL, hu, _ => by
    simp only [evParts, Option.some.injEq] at h
    subst h
    cases us with
    | nil => exact ⟨zs, rfl, hL, rfl⟩
    | cons => simp at hu
  | (i, v) :: parts, us, xs, xs', zs, h, hL, hu, hvs => by
    cases us with
    | nil => simp at hu
    | cons u us =>
      obtain ⟨i', u⟩ := u
      simp only [List.map_cons, List.cons.injEq] at hu
      obtain ⟨rfl, hu⟩ := hu
      simp only [List.map_cons, VRels] at hvs
      simp only [evParts] at h
      split at h
      · rename_i x hx
        replace h := bif_some h
        obtain ⟨hi, h⟩ := h
        have hi : i' < xs.length := by simpa [ltN] using hi
        have hd := as_rel (hp := []) hx hvs.1
        have hdl := DRel.length _ _ _ hd
        obtain ⟨c0, c1, c2, l1, l2, c3, c4⟩ := LRel.at_ i' xs zs hi hL
        subst c3
        have hL2 := LRel.set x u.cells.toList hdl hd i' xs l1 c0 l2 hi hL c4 c1
        obtain ⟨zs', g1, g2, g3⟩ := parts_rel place hpl parts us _ xs' _ h hL2 hu hvs.2
        refine ⟨zs', ?_, g2, by rw [g3]; simp⟩
        rw [← g1]
        simp only [Instr.fill, hpl]
        have hus : u.cells.size = e.size := by simpa using hdl
        rw [if_neg (by simp only [hus]; simp; omega)]
        congr 1
        have := fold_set_arr (i' * e.size) u.cells (l1 ++ c0 ++ l2) (by simp; omega)
        refine Eq.trans this ?_
        congr 1
        rw [hus]
        have t1 : (l1 ++ c0 ++ l2).take (i' * e.size) = l1 := by rw [List.append_assoc, List.take_append, List.take_of_length_le (by omega), c4, Nat.sub_self, List.take_zero, List.append_nil]
        have t2 : (l1 ++ c0 ++ l2).drop (i' * e.size + e.size) = l2 := by
          rw [List.drop_append, List.drop_of_length_le (by simp; omega), List.nil_append]
          simp only [List.length_append, c4, c1, Nat.sub_self, List.drop_zero]
        rw [t1, t2]
      · cases h
end
end Go.Proofs.YtnmaceljkegenaaDoor
