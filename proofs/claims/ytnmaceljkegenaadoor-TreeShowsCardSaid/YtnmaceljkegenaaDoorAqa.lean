/-
  The plain machine: regions that draw their order, with operations that write.
-/
import Derived.Test.YtnmaceljkegenaaDoorAr
import Derived.Stop.Looks
namespace Go.Proofs.YtnmaceljkegenaaDoor
open Go.RowKit
set_option linter.unusedVariables false
set_option linter.unusedSimpArgs false

section
variable {P : Program} {T : TT} {W0 : World} {b0 n : Nat} {rd : Option Nat} {c : Cx} {R : Type} {r : R} {st : St} {a : Act} {ats : List (Array Value)} {t : TypeId}

theorem pure_op (hT : TOk P T) (hok : c.Ok W0) {cl : Bool} {call : CallFn R} {o : Oper} {st : St} {a : Act} {K : AVal → St → Option R} (hq : pureOp o.op = true) (hhp : c.hp = st.hp) (hfr : VRels c st.fr a.tmps.toList)
    (h : evalOp T cl call o st K = some r) : ∃ z u, K z st = some r ∧ VRel c z u ∧ ∀ w', (execOp a.eval o).run P w' = .ok (.value u) w' := by
  have hval : ∀ {s : Sem Value} {u : Value} {w' : World}, s.run P w' = .ok u w' → (do pure (Next.value (← s)) : Sem Next).run P w' = .ok (.value u) w' := fun hs => by
    simp [Sem.run_bind, hs]
  obtain ⟨dst, op, ty, pos, after, guard⟩ := o
  simp only at hq
  cases op <;> simp only [pureOp, Bool.false_eq_true] at hq
  case move x => exact ⟨_, _, h, evalO_rel hfr x, fun w' => rfl⟩
  case assign x => exact ⟨_, _, h, evalO_rel hfr x, fun w' => rfl⟩
  case pick x y z =>
    simp only [evalOp] at h
    have hc := evalO_rel hfr x
    split at h
    · rename_i b hb
      rw [hb] at hc
      simp only [VRel] at hc
      have hc' := hc.bool_inv
      cases b
      · exact ⟨_, _, h, evalO_rel hfr z, fun w' => by simp [execOp, hc', asBool]⟩
      · exact ⟨_, _, h, evalO_rel hfr y, fun w' => by simp [execOp, hc', asBool]⟩
    · cases h
  case nilCheck x =>
    simp only [evalOp] at h
    have hx := evalO_rel hfr x
    split at h
    · rename_i id off he
      rw [he] at hx
      split at h
      · rename_i bt cs hcs
        have hx' := hx
        simp only [VRel] at hx
        rw [← hhp] at hcs
        have hv := hx.2.2 _ _ hcs
        exact ⟨_, _, h, hx', fun w' => by simp [execOp, hv]⟩
      · cases h
    · rename_i y e he
      rw [he] at hx
      have hx' := hx
      simp only [VRel] at hx
      obtain ⟨b, o, zs, hv, _⟩ := hx
      exact ⟨_, _, h, hx', fun w' => by simp [execOp, hv]⟩
    · rename_i id ver i off he
      rw [he] at hx
      split at h
      · rename_i e u xs harr
        replace h := bif_some h
        obtain ⟨h0, h⟩ := h
        have h0 : u = ver := by simpa using h0
        subst h0
        have hx' := hx
        simp only [VRel] at hx
        rw [← hhp] at harr
        obtain ⟨g, n, cp, _, hv⟩ := (hx.2.2 _ _ _ harr).2 rfl
        exact ⟨_, _, h, hx', fun w' => by simp [execOp, hv]⟩
      · cases h
    · cases h
  case binOp op t x y yt =>
    simp only [evalOp] at h
    rw [← hhp] at h
    obtain ⟨z, u, h1, h2, h3⟩ := q_binH (P := P) (ox := x) (oy := y) (K := fun v => K v st) hT hok h (evalO_rel hfr x) (evalO_rel hfr y)
    exact ⟨z, u, h1, h2, fun w' => hval (h3 w')⟩
  case unOp op t x =>
    simp only [evalOp] at h
    obtain ⟨z, u, h1, h2, h3⟩ := q_un (P := P) (K := fun v => K v st) h (evalO_rel hfr x)
    exact ⟨z, u, h1, h2, fun w' => hval (h3 w')⟩
  case slice t x lo hi mx =>
    simp only [evalOp] at h
    rw [← hhp] at h
    obtain ⟨z, u, h1, h2, h3⟩ := q_slice (P := P) (K := fun v => K v st) hT hok h (evalO_rel hfr x) (OptRel.map hfr lo) (OptRel.map hfr hi) (OptRel.map hfr mx)
    exact ⟨z, u, h1, h2, fun w' => hval (h3 w')⟩
  case fieldAddr t x f =>
    simp only [evalOp] at h
    rw [← hhp] at h
    obtain ⟨z, u, h1, h2, h3⟩ := q_fieldAddr (P := P) (K := fun v => K v st) hT h (evalO_rel hfr x)
    exact ⟨z, u, h1, h2, fun w' => hval (h3 w')⟩
  case field t x f =>
    simp only [evalOp] at h
    obtain ⟨z, u, h1, h2, h3⟩ := q_field (P := P) (K := fun v => K v st) hT h (evalO_rel hfr x)
    exact ⟨z, u, h1, h2, fun w' => hval (h3 w')⟩
  case indexAddr t x i =>
    simp only [evalOp] at h
    rw [← hhp] at h
    obtain ⟨z, u, h1, h2, h3⟩ := q_indexAddr (P := P) (K := fun v => K v st) hT hok h (evalO_rel hfr x) (evalO_rel hfr i)
    exact ⟨z, u, h1, h2, fun w' => hval (h3 w')⟩
  case index t x i =>
    simp only [evalOp] at h
    split at h
    · rename_i s n hs hn
      replace h := need_some h
      obtain ⟨h1, h⟩ := h
      have hx := evalO_rel hfr x
      rw [hs] at hx
      obtain ⟨h2, h3⟩ := q_index (P := P) hT hx (evalO_rel hfr i) hn h1
      exact ⟨_, _, h, h2, fun w' => hval (h3 w')⟩
    · cases h
  case extract x n =>
    simp only [evalOp] at h
    have hx := evalO_rel hfr x
    split at h
    · rename_i l hl
      rw [hl] at hx
      split at h
      · rename_i v hv
        simp only [VRel] at hx
        obtain ⟨vs, he, hvs⟩ := hx
        obtain ⟨hn, hv⟩ := List.getElem?_eq_some_iff.1 hv
        have hlen := VRels.length _ _ hvs
        simp at hlen
        have h1 := VRels.get _ _ hvs n hn (by simp; omega)
        rw [hv] at h1
        simp only [Array.getElem_toList] at h1
        refine ⟨_, _, h, h1, fun w' => hval ?_⟩
        rw [he]
        have : vs[n]? = some vs[n] := Array.getElem?_eq_getElem (by omega)
        simp [Instr.extract, this]
      · cases h
    · cases h
  case call cc =>
    obtain ⟨callee, args, argTypes⟩ := cc
    simp only at hq
    have hargs := VRels.map_eval (c := c) hfr args.toList
    split at hq
    all_goals try (cases hq; done)
    · -- len
      simp only [evalOp, evBuiltin] at h
      split at h <;> try (cases h; done)
      · rename_i x hb hx
        split at h <;> try (cases h; done)
        rename_i t ht
        rw [← hhp] at h
        obtain ⟨x0, hx0⟩ : ∃ x0, args = #[x0] := by
          obtain ⟨l⟩ := args
          match l, hx with
          | [x0], _ => exact ⟨x0, rfl⟩
        subst hx0
        obtain ⟨t0⟩ := argTypes
        simp only at ht
        subst ht
        simp only [List.map_cons, List.map_nil, List.cons.injEq, and_true] at hx
        subst hx
        obtain ⟨z, u, h1, h2, h3⟩ := q_len (P := P) (K := fun v => K v st) hT hok h (evalO_rel hfr x0) (ty := ty)
        exact ⟨z, u, h1, h2, fun w' => by simp [execOp, resolve, invoke, builtin, Sem.run_bind, h3 w']⟩
      all_goals (rename_i hb _; cases hb)
    · -- min
      simp only [evalOp, evBuiltin] at h
      split at h <;> try (cases h; done)
      all_goals try (rename_i hb _; cases hb; done)
      rename_i k n l hb hx
      split at h <;> try (cases h; done)
      rename_i ns hns
      rw [hx] at hargs
      obtain ⟨al⟩ := args
      cases al with
      | nil => simp [VRels] at hargs
      | cons x0 al =>
        simp only [List.map_cons, VRels] at hargs
        have h0 := hargs.1
        simp only [VRel] at h0
        have h1 := h0.int_inv
        have h2 := allInts_rel _ _ _ hns hargs.2
        exact ⟨_, _, h, by simp only [VRel]; exact VD.int_mk, fun w' => by simp [execOp, resolve, invoke, builtin, Sem.run_bind, Builtin.min_, h1, h2, run_mins]⟩
    · -- max
      simp only [evalOp, evBuiltin] at h
      split at h <;> try (cases h; done)
      all_goals try (rename_i hb _; cases hb; done)
      rename_i k n l hb hx
      split at h <;> try (cases h; done)
      rename_i ns hns
      rw [hx] at hargs
      obtain ⟨al⟩ := args
      cases al with
      | nil => simp [VRels] at hargs
      | cons x0 al =>
        simp only [List.map_cons, VRels] at hargs
        have h0 := hargs.1
        simp only [VRel] at h0
        have h1 := h0.int_inv
        have h2 := allInts_rel _ _ _ hns hargs.2
        exact ⟨_, _, h, by simp only [VRel]; exact VD.int_mk, fun w' => by simp [execOp, resolve, invoke, builtin, Sem.run_bind, Builtin.max_, h1, h2, run_maxs]⟩

/-! ### what keeps a world -/

/-- where it comes to a value, old blocks are as they were -/
def GrowS {α : Type} (x : Sem α) : Prop := ∀ P w v w', x.run P w = .ok v w' → Below w.heap.size w w'

theorem GrowS.pure {α : Type} (v : α) : GrowS (pure v : Sem α) := fun P w v w' h => by simp at h; rw [h.2]; exact Below.refl _ _
theorem GrowS.looks {α : Type} {x : Sem α} (h : x.Looks) : GrowS x := fun P w v w' hr => by rw [h.ok hr]; exact Below.refl _ _
theorem GrowS.bind {α β : Type} {x : Sem α} {f : α → Sem β} (hx : GrowS x) (hf : ∀ a, GrowS (f a)) : GrowS (x >>= f) := fun P w v w' h => by
  rw [Sem.run_bind] at h
  cases hr : x.run P w with
  | halt e w1 => rw [hr] at h; cases h
  | ok u w1 =>
    rw [hr, Result.andThen_ok] at h
    have h1 := hx P w u w1 hr
    exact h1.trans ((hf u P w1 v w' h).mono h1.size)
theorem GrowS.never {α : Type} {x : Sem α} (h : ∀ P w v w', x.run P w ≠ .ok v w') : GrowS x := fun P w v w' hr => absurd hr (h P w v w')
theorem GrowS.ite {α : Type} {p : Prop} [Decidable p] {x y : Sem α} (hx : GrowS x) (hy : GrowS y) : GrowS (if p then x else y) := by split <;> assumption
theorem GrowS.new (o : Obj) : GrowS (newObj o) := fun P w v w' h => by
  have e : (newObj o).run P w = .ok w.heap.size (w.alloc o) := rfl
  rw [e] at h
  cases h
  exact (Below.refl _ _).alloc (Nat.le_refl _) o

theorem g_underlying (t : TypeId) : GrowS (underlying t) := .looks (underlying_looks t)
theorem g_typeInfo (t : TypeId) : GrowS (typeInfo t) := .looks (typeInfo_looks t)
theorem g_sizeOf (t : TypeId) : GrowS (sizeOf t) := .looks (sizeOf_looks t)
theorem g_stuck {α : Type} (s : String) : GrowS (stuck s : Sem α) := .looks (stuck_looks s)
theorem g_unsupported {α : Type} (u : Unsupported) : GrowS (unsupported u : Sem α) := .looks (unsupported_looks u)
theorem g_isAgg (t : TypeId) : GrowS (isAgg t) := by
  unfold isAgg
  refine (g_underlying t).bind fun d => ?_
  split <;> exact .pure _
theorem g_zeroValue (t : TypeId) : GrowS (zeroValue t) := by
  unfold zeroValue
  refine (g_typeInfo t).bind fun d => ?_
  split
  · exact .pure _
  · exact g_unsupported _
theorem g_sureAddr (v : Value) : GrowS (Instr.sureAddr v) := by
  unfold Instr.sureAddr
  split
  · exact .pure _
  · exact g_stuck _
theorem g_loadVar (t : TypeId) (a : Addr) : GrowS (loadVar t a) := by
  unfold loadVar
  refine (g_isAgg t).bind fun d => ?_
  split
  · exact (g_sizeOf t).bind fun k => (GrowS.looks (loadCells_looks a k)).bind fun _ => .pure _
  · exact .looks (load_looks _ _)
theorem g_asIntOf (v : Value) : GrowS (asIntOf v) := by
  unfold asIntOf
  split
  · exact .pure _
  · exact g_unsupported _
  · exact g_stuck _
theorem g_asBool (v : Value) : GrowS (asBool v) := by
  unfold asBool
  split
  · exact .pure _
  · exact g_stuck _

theorem never_bind {α β : Type} {x : Sem α} {f : α → Sem β} (hf : ∀ a P w v w', (f a).run P w ≠ .ok v w') : ∀ P w v w', (x >>= f).run P w ≠ .ok v w' := fun P w v w' h => by
  rw [Sem.run_bind] at h
  cases hr : x.run P w with
  | halt e w1 => rw [hr] at h; cases h
  | ok u w1 => rw [hr, Result.andThen_ok] at h; exact hf u P w1 v w' h
theorem never_goPanic {α : Type} (v : Value) : ∀ P w u w', (goPanic v : Sem α).run P w ≠ .ok u w' := fun P w u w' h => by cases h
theorem never_runtimePanic {α : Type} (e : RuntimeError) : ∀ P w u w', (runtimePanic e : Sem α).run P w ≠ .ok u w' := by
  unfold runtimePanic
  refine never_bind fun p => ?_
  dsimp only
  split <;> first
    | exact never_goPanic _
    | exact never_bind fun _ => never_goPanic _
    | exact never_bind fun _ => never_bind fun _ => never_goPanic _
    | exact never_bind fun _ => never_bind fun _ => never_bind fun _ => never_goPanic _
theorem g_boundsPanic {α : Type} (k : IntKind) (x y : Int) (code : BoundsCode) : GrowS (boundsPanic k x y code : Sem α) := by
  unfold boundsPanic
  dsimp only
  split <;> exact .never (never_bind fun _ => never_runtimePanic _)

theorem g_newRow (e : TypeId) (cs : Array Value) : GrowS (newRow e cs) := by
  unfold newRow
  exact (GrowS.new _).bind fun _ => .pure _
theorem g_part (t : TypeId) (cs : Array Value) (off : Nat) : GrowS (part t cs off) := by
  unfold part
  refine (g_isAgg t).bind fun b => ?_
  split
  · exact (g_sizeOf t).bind fun _ => .pure _
  · split
    · exact .pure _
    · exact g_stuck _

theorem g_loadAt (t : TypeId) (v : Value) : GrowS (Instr.loadAt t v) := by
  unfold Instr.loadAt
  exact (g_sureAddr v).bind fun a => g_loadVar t a
theorem g_extract (t : Value) (i : Nat) : GrowS (Instr.extract t i) := by
  unfold Instr.extract
  split
  · split
    · exact .pure _
    · exact g_stuck _
  · exact g_stuck _
theorem g_index (t : TypeId) (x i : Value) : GrowS (Instr.index t x i) := by
  unfold Instr.index
  refine (g_asIntOf i).bind fun ki => ?_
  refine (g_underlying t).bind fun d => ?_
  repeat' first
    | exact g_boundsPanic _ _ _ _
    | exact g_stuck _
    | exact .pure _
    | exact (g_sizeOf _).bind fun _ => g_part _ _ _
    | split
    | dsimp only
theorem g_box (t : TypeId) (v : Value) : GrowS (Instr.box t v) := by
  unfold Instr.box newVar
  exact (g_newRow _ _).bind fun _ => .pure _
theorem g_alloc (t : TypeId) : GrowS (Instr.alloc t true (.tuple #[])) := by
  unfold Instr.alloc
  refine (g_zeroValue t).bind fun z => ?_
  dsimp only
  unfold newVar
  exact (g_newRow _ _).bind fun _ => .pure _

theorem getObj_looks (r : Nat) : (getObj r).Looks := fun _ => trivial
theorem g_getObj (r : Nat) : GrowS (getObj r) := .looks (getObj_looks r)
theorem g_shape (r : Nat) : GrowS (Go.shape r) := .looks (fun _ => trivial)
theorem g_viewAt (r : Nat) : GrowS (viewAt r) := by
  unfold viewAt
  repeat' first
    | exact .pure _
    | exact g_shape _
    | exact g_getObj _
    | (refine GrowS.bind ?_ fun _ => ?_)
    | split
    | dsimp only
theorem g_elemOf (t : TypeId) : GrowS (elemOf t) := by
  unfold elemOf
  refine (g_underlying t).bind fun d => ?_
  split
  · exact .pure _
  · exact g_stuck _
theorem g_len (ts : Array TypeId) (ty : TypeId) (args : Array Value) : GrowS (Builtin.len_ ts ty args) := by
  unfold Builtin.len_
  repeat' first
    | exact .pure _
    | exact g_stuck _
    | exact g_underlying _
    | exact g_getObj _
    | (refine GrowS.bind ?_ fun _ => ?_)
    | split
    | dsimp only
theorem g_sliceData (ts : Array TypeId) (ty : TypeId) (args : Array Value) : GrowS (Builtin.unsafeSliceData_ ts ty args) := by
  obtain ⟨l⟩ := args
  match l with
  | [] => exact g_stuck _
  | _ :: _ :: _ => exact g_stuck _
  | [v] =>
    cases v with
    | slice a n c =>
      cases a with
      | none => exact GrowS.pure _
      | some a =>
        have e : Builtin.unsafeSliceData_ ts ty #[.slice (some a) n c] = (do
            if c ≠ 0 then pure (.pointer (some a))
            else if (← viewAt a.block).isSome then pure (.pointer (some a))
            else pure (.pointer (some ⟨← newObj (.view a (← elemOf ty)), 0, none⟩))) := rfl
        rw [e]
        repeat' first
          | exact .pure _
          | exact g_viewAt _
          | exact g_elemOf _
          | exact GrowS.new _
          | (refine GrowS.bind ?_ fun _ => ?_)
          | split
          | dsimp only
    | _ => exact g_stuck _

/-- so does such an operation, whatever its operands are -/
theorem keeps_next {o : Oper} (hk : keepsOp o.op = true) (ρ : Operand → Value) (P : Program) (w : World) (v : Next) (w' : World) (h : (execOp ρ o).run P w = .ok v w') : (∃ u, v = .value u) ∧ Below w.heap.size w w' := by
  have hv : ∀ {s : Sem Value}, GrowS s → (do pure (Next.value (← s)) : Sem Next).run P w = .ok v w' → (∃ u, v = .value u) ∧ Below w.heap.size w w' := fun {s} hs h => by
    rw [Sem.run_bind] at h
    cases hr : s.run P w with
    | halt e w1 => rw [hr] at h; cases h
    | ok u w1 =>
      rw [hr, Result.andThen_ok, Sem.run_pure] at h
      cases h
      exact ⟨⟨u, rfl⟩, hs P w u w' hr⟩
  obtain ⟨dst, op, ty, pos, after, guard⟩ := o
  simp only at hk
  cases op <;> simp only [keepsOp, Bool.false_eq_true] at hk
  case move x => cases h; exact ⟨⟨_, rfl⟩, Below.refl _ _⟩
  case assign x => cases h; exact ⟨⟨_, rfl⟩, Below.refl _ _⟩
  case pick x y z =>
    have e : execOp ρ ⟨dst, .pick x y z, ty, pos, after, guard⟩ = (do pure (Next.value (← (do pure (if ← asBool (ρ x) then ρ y else ρ z) : Sem Value))) : Sem Next) := by
      simp [execOp, bind_assoc]
    rw [e] at h
    exact hv ((g_asBool _).bind fun _ => .pure _) h
  case load t x => exact hv (g_loadAt t (ρ x)) h
  case index t x i => exact hv (g_index t (ρ x) (ρ i)) h
  case extract x i => exact hv (g_extract (ρ x) i) h
  case box t x => exact hv (g_box t (ρ x)) h
  case alloc t => exact hv (g_alloc t) h
  case call cc =>
    obtain ⟨callee, args, ts⟩ := cc
    cases callee with
    | builtin b =>
      cases b <;> simp only [Bool.false_eq_true] at hk
      case len =>
        have e : execOp ρ ⟨dst, .call { callee := .builtin .len, args := args, argTypes := ts }, ty, pos, after, guard⟩ = (do pure (Next.value (← Builtin.len_ ts ty (args.map ρ))) : Sem Next) := by
          simp [execOp, resolve, invoke, builtin]
        rw [e] at h
        exact hv (g_len _ _ _) h
      case unsafeSliceData =>
        have e : execOp ρ ⟨dst, .call { callee := .builtin .unsafeSliceData, args := args, argTypes := ts }, ty, pos, after, guard⟩ = (do pure (Next.value (← Builtin.unsafeSliceData_ ts ty (args.map ρ))) : Sem Next) := by
          simp [execOp, resolve, invoke, builtin]
        rw [e] at h
        exact hv (g_sliceData _ _ _) h
    | _ => simp at hk

/-! ### taking an operation first -/

theorem noDefer_spec {ops : Array Oper} (h : noDefer ops = true) (i : Nat) (o : Oper) (ho : ops[i]? = some o) : isDefer o.op = false ∧ ∀ cs b, o.op ≠ .select cs b := by
  have := List.all_eq_true.1 h o (by have := Array.mem_of_getElem? ho; simpa using this)
  cases hop : o.op <;> simp_all [isDefer]

/-- a value, in every world of a class; no call -/
def YieldsC (P : Program) (ops : Array Oper) (C : World → Prop) (o : Oper) (v : Value) (a : Act) : Prop :=
  (Region.wanted o (yielded ops a.tmps) = true ∧ ∀ w, C w → (execOp a.eval o).run P w = .ok (.value v) w) ∨ (Region.wanted o (yielded ops a.tmps) = false ∧ v = undef)

/-- where it goes on, the world stays in the class -/
def KeepsC (P : Program) (C : World → Prop) (o : Oper) : Prop := (∀ w, C w) ∨ ∀ ρ w v w', C w → (execOp ρ o).run P w = .ok v w' → (∃ u, v = .value u) ∧ C w'

variable {ops : Array Oper} {C : World → Prop} {Q : Exit → Act → World → Prop}

theorem YieldsC.of_same {o : Oper} {v : Value} {a a' : Act} (hy : YieldsC P ops C o v a) (he : execOp a'.eval o = execOp a.eval o)
    (hw : Region.wanted o (yielded ops a'.tmps) = Region.wanted o (yielded ops a.tmps)) : YieldsC P ops C o v a' := by
  rcases hy with ⟨h1, h2⟩ | ⟨h1, h2⟩
  · exact .inl ⟨by rw [hw]; exact h1, fun w hc => by rw [he]; exact h2 w hc⟩
  · exact .inr ⟨by rw [hw]; exact h1, h2⟩

theorem YieldsC.wpOpIn {i : Nat} {o : Oper} {v : Value} {a : Act} (hd : noDefer ops = true) (hi : ops[i]? = some o) (hy : YieldsC P ops C o v a) {K : Act → World → Prop} {w : World} (hw : C w) (h : K (a.put o.dst v) w) : wpOpIn (FW rd) n P ops Q i K a w := by
  unfold Go.wpOpIn
  simp only [hi]
  rcases hy with ⟨h1, h2⟩ | ⟨h1, rfl⟩
  · rw [if_pos h1]
    refine ⟨about_FW o w _, ?_⟩
    rw [semAt_of (noDefer_spec hd i o hi).1, h2 w hw]
    exact h
  · rw [if_neg (by rw [h1]; simp)]
    exact ⟨about_FW o w _, h⟩

theorem wpOpIn_putC {j : Nat} {oi oj : Oper} {v : Value} (hd : noDefer ops = true) (hi : ∃ i : Nat, ops[i]? = some oi) (hj : ops[j]? = some oj) (hap : oi.apart ops oj = true) (hkeep : KeepsC P C oj) (hQ : ∀ c a w, ¬ Q (.panic c) a w) {K : Act → World → Prop} {a : Act} {w : World} (hw : C w)
    (hy : YieldsC P ops C oi v a) (h : wpOpIn (FW rd) n P ops Q j K (a.put oi.dst v) w) : wpOpIn (FW rd) n P ops Q j (fun a' w' => C w' ∧ YieldsC P ops C oi v a' ∧ K (a'.put oi.dst v) w') a w := by
  obtain ⟨h1, h2, h3⟩ := Oper.apart_spec hap
  obtain ⟨i, hi⟩ := hi
  have hsi := (noDefer_spec hd i oi hi).2
  obtain ⟨hdj, hsj⟩ := noDefer_spec hd j oj hj
  have keep : ∀ (a : Act), YieldsC P ops C oi v a → ∀ u, YieldsC P ops C oi v (a.put oj.dst u) := fun a hy u => hy.of_same (execOp_put oi hsi a oj.dst u h3) (wanted_put oi a oj.dst u h3)
  unfold wpOpIn at *
  simp only [hj] at *
  rw [wanted_put oj a oi.dst v h1] at h
  split
  · rename_i hwt
    rw [if_pos hwt] at h
    unfold Oper.wpIn at *
    refine ⟨about_FW oj w _, ?_⟩
    have h := h.2
    rw [semAt_of hdj, execOp_put oj hsj a oi.dst v h1] at h
    rw [semAt_of hdj]
    have hk : (∀ w, C w) ∨ ∀ x w', (execOp a.eval oj).run P w = .ok x w' → (∃ u, x = .value u) ∧ C w' := by
      rcases hkeep with hk | hk
      · exact .inl hk
      · exact .inr fun x w' hx => hk _ w x w' hw hx
    generalize (execOp a.eval oj).run P w = r at *
    cases r with
    | ok x w' =>
      have hall : (∀ w, C w) ∨ ((∃ u, x = .value u) ∧ C w') := by
        rcases hk with hk | hk
        · exact .inl hk
        · exact .inr (hk x w' rfl)
      cases x <;> simp only [Oper.uponIn] at h ⊢
      case value u =>
        have hc : C w' := by
          rcases hall with hk | hk
          · exact hk w'
          · exact hk.2
        exact ⟨hc, keep a hy u, by rw [← Act.put_comm a v u h2]; exact h⟩
      case skip =>
        rcases hall with hk | hk
        · exact ⟨hk w', keep a hy _, by rw [← Act.put_comm a v undef h2]; exact h⟩
        · obtain ⟨⟨u, hu⟩, _⟩ := hk; cases hu
      case defer d =>
        rcases hall with hk | hk
        · have keepD : ∀ d, YieldsC P ops C oi v { a with defers := d :: a.defers } := fun d => hy.of_same rfl rfl
          refine ⟨hk w', keep _ (keepD d) _, ?_⟩
          rw [← Act.put_comm _ v undef h2, ← Act.put_defers]
          exact h
        · obtain ⟨⟨u, hu⟩, _⟩ := hk; cases hu
      case enter f args =>
        rcases hall with hk | hk
        · refine ⟨h.1, CallsIn.mono h.2 fun e w'' he => ?_⟩
          cases e with
          | returned u => exact ⟨hk w'', keep a hy u, by rw [← Act.put_comm a v u h2]; exact he⟩
          | panicked c => exact absurd he (hQ _ _ _)
          | outgrown => exact he
        · obtain ⟨⟨u, hu⟩, _⟩ := hk; cases hu
      case row row args =>
        rcases hall with hk | hk
        · exact ⟨h.1, RowsIn.mono h.2 fun u w'' he => ⟨hk w'', keep a hy u, by rw [← Act.put_comm a v u h2]; exact he⟩⟩
        · obtain ⟨⟨u, hu⟩, _⟩ := hk; cases hu
      case round l f tmps assign body =>
        rcases hall with hk | hk
        · refine ⟨h.1, RoundIn.mono h.2 fun e w'' he => ?_⟩
          cases e with
          | returned u => exact ⟨hk w'', keep a hy u, by rw [← Act.put_comm a v u h2]; exact he⟩
          | panicked c => exact absurd he (hQ _ _ _)
          | outgrown => exact he
        · obtain ⟨⟨u, hu⟩, _⟩ := hk; cases hu
    | halt x w' =>
      cases x <;> simp only [Oper.uponIn] at h ⊢
      case panic u => exact absurd h (hQ _ _ _)
  · rename_i hwt
    rw [if_neg hwt] at h
    exact ⟨about_FW oj w _, hw, keep a hy _, by rw [← Act.put_comm a v undef h2]; exact h.2⟩

theorem memN'_iff {l : List Nat} {i : Nat} : memN' l i = true ↔ i ∈ l := by
  unfold memN'
  rw [List.any_eq_true]
  constructor
  · rintro ⟨x, hx, hb⟩; rw [Nat.eq_of_beq_eq_true hb]; exact hx
  · intro h; exact ⟨i, h, Nat.beq_refl i⟩

/-- one that no other comes ahead of but such as leave it its value -/
theorem wpAnyIn_firstC {i : Nat} {oi : Oper} {v : Value} (hd : noDefer ops = true) (hi : ops[i]? = some oi) (hQ : ∀ c a w, ¬ Q (.panic c) a w) (D : List Nat) (hD : ∀ j ∈ D, j ≠ i → waitsAny ops j D = true) :
    ∀ (fuel : Nat) (listed : Array Bool) (a : Act) (w : World), C w → (∀ j ∈ D, listed.getD j true = false) →
      (∀ j oj, ops[j]? = some oj → j ∉ D → listed.getD j true = false → oi.apart ops oj = true ∧ KeepsC P C oj) → i ∈ D →
      i ∈ Region.ready .any ops listed → YieldsC P ops C oi v a →
      wpAnyIn (FW rd) n P .any ops Q fuel (listed.setIfInBounds i true) (a.put oi.dst v) w → wpAnyIn (FW rd) n P .any ops Q (fuel + 1) listed a w := by
  have hnot : ∀ (listed : Array Bool) (j : Nat), (∀ j ∈ D, listed.getD j true = false) → j ∈ Region.ready .any ops listed → j ≠ i → j ∉ D := fun listed j hl hj hji hjD => by
    have hw := hD j hjD hji
    unfold waitsAny at hw
    obtain ⟨_, oj, hoj, hall⟩ := mem_ready.1 hj
    rw [hoj] at hw
    obtain ⟨e, he, hb⟩ := Array.any_eq_true'.1 hw
    simp only [Bool.and_eq_true] at hb
    have h1 := hall e he hb.1
    have h2 := hl e.on (memN'_iff.1 hb.2)
    rcases Nat.lt_or_ge e.on listed.size with h' | h'
    · simp [h'] at h1 h2; rw [h2] at h1; cases h1
    · simp [Array.getElem?_eq_none h'] at h1
  intro fuel
  induction fuel with
  | zero =>
    intro listed a w hw hl _ hiD hr hy H
    refine ⟨fun h => (by rw [h] at hr; cases hr), fun j hj => ?_⟩
    by_cases hji : j = i
    · subst hji; exact hy.wpOpIn hd hi hw H
    · have := ready_mono hj hji
      rw [H.1] at this
      cases this
  | succ fuel ih =>
    intro listed a w hw hl hfree hiD hr hy H
    refine ⟨fun h => (by rw [h] at hr; cases hr), fun j hj => ?_⟩
    by_cases hji : j = i
    · subst hji; exact hy.wpOpIn hd hi hw H
    · have h1 := H.2 j (ready_mono hj hji)
      have hjD := hnot listed j hl hj hji
      obtain ⟨hjun, oj, hoj, hall⟩ := mem_ready.1 hj
      obtain ⟨hap, hkp⟩ := hfree j oj hoj hjD hjun
      have h2 := wpOpIn_putC hd ⟨i, hi⟩ hoj hap hkp hQ hw hy h1
      have hl' : ∀ k ∈ D, (listed.setIfInBounds j true).getD k true = false := fun k hk => by
        rw [getD_set_ne true (fun e => hjD (by rw [e]; exact hk))]; exact hl k hk
      have hfree' : ∀ k ok, ops[k]? = some ok → k ∉ D → (listed.setIfInBounds j true).getD k true = false → oi.apart ops ok = true ∧ KeepsC P C ok := fun k ok hk hkD hun => by
        refine hfree k ok hk hkD ?_
        by_cases hjk : j = k
        · subst hjk; exact hjun
        · rw [getD_set_ne true hjk] at hun; exact hun
      refine wpOpIn_mono (fun a' w' h3 => ih (listed.setIfInBounds j true) a' w' h3.1 hl' hfree' hiD (ready_mono hr (Ne.symm hji)) h3.2.1 ?_) h2
      rw [Array.setIfInBounds_comm _ _ hji]
      exact h3.2.2

/-! ### a planned order -/

theorem evalOps_cons {cl : Bool} {call : CallFn R} {K : St → Option R} (o : Oper) (l : List Oper) (st : St) : evalOps T cl call ops K (o :: l) st = evalOps T cl call ops (evalOps T cl call ops K l) [o] st := by
  simp only [evalOps]

/-- one operation, with its guard looked at -/
theorem one_step {cl : Bool} {call : CallFn R} {K : St → Option R} {o : Oper} (h : evalOps T cl call ops K [o] st = some r) (hr : Rel W0 b0 rd c st a ats) :
    (Region.wanted o (yielded ops a.tmps) = true ∧ ∃ st1, Rel W0 b0 rd c st1 a ats ∧ evalOp T cl call o st1 (fun v st => K (st.put o.dst v)) = some r) ∨
    (Region.wanted o (yielded ops a.tmps) = false ∧ ∃ st1, Rel W0 b0 rd c st1 (a.put o.dst undef) ats ∧ K st1 = some r) := by
  simp only [evalOps] at h
  have skip : ∀ (st : St), Rel W0 b0 rd c st a ats → Rel W0 b0 rd c (st.put o.dst (.tup [])) (a.put o.dst undef) ats := fun st hr => hr.put (by simp only [VRel]; exact ⟨#[], rfl, by simp [VRels]⟩)
  cases hg : o.guard with
  | none =>
    rw [hg] at h
    exact .inl ⟨by simp [Region.wanted, hg], st, hr, h⟩
  | some jw =>
    obtain ⟨j, want⟩ := jw
    rw [hg] at h
    simp only at h
    split at h
    · cases h
    · rename_i d hd
      have hy := yielded_eq ops j d hd a.tmps
      have hsl := hr.fr.getD d
      have hsz := VRels.length _ _ hr.fr
      rw [Array.length_toList] at hsz
      split at h
      · rename_i b hb
        rw [hb] at hsl
        simp only [VRel] at hsl
        have hv := hsl.bool_inv
        have hdl : d < a.tmps.size := by
          rcases Nat.lt_or_ge d a.tmps.size with h1 | h1
          · exact h1
          · rw [Array.getD, dif_neg (by omega)] at hv
            simp [undef] at hv
        have hv2 : a.tmps[d]? = some (.bool b) := by
          rw [Array.getD, dif_pos hdl] at hv
          rw [Array.getElem?_eq_getElem hdl]
          simpa using hv
        rw [hv2] at hy
        simp only at hy
        have hself : a.put (some d) (.bool b) = a := by
          simp only [Act.put]
          obtain ⟨hh1, hh2⟩ := Array.getElem?_eq_some_iff.1 hv2
          have : a.tmps.setIfInBounds d (.bool b) = a.tmps := by
            apply Array.ext
            · rw [Array.size_setIfInBounds]
            · intro i h1 h2
              rw [Array.getElem_setIfInBounds (by rwa [Array.size_setIfInBounds] at h1)]
              split
              · rename_i hi
                subst hi
                exact hh2.symm
              · rfl
          rw [this]
        have hr2 : Rel W0 b0 rd c (st.put (some d) (.val .bool b)) a ats := by
          have := hr.put (dst := some d) (z := .val .bool b) (v := .bool b) (by simp only [VRel]; exact VD.bool_mk)
          rwa [hself] at this
        cases b <;> cases want <;> (try simp only [cond_true, cond_false] at h)
        · exact .inl ⟨by simp [Region.wanted, hg, hy], _, hr2, h⟩
        · exact .inr ⟨by simp [Region.wanted, hg, hy], _, skip _ hr2, h⟩
        · exact .inr ⟨by simp [Region.wanted, hg, hy], _, skip _ hr2, h⟩
        · exact .inl ⟨by simp [Region.wanted, hg, hy], _, hr2, h⟩
      · rename_i hb
        rw [hb] at hsl
        simp only [VRel] at hsl
        obtain ⟨vs, hv, _⟩ := hsl
        have hy2 : yielded ops a.tmps j = none := by
          rw [hy]
          cases he : a.tmps[d]? with
          | none => rfl
          | some x =>
            obtain ⟨hh1, hh2⟩ := Array.getElem?_eq_some_iff.1 he
            rw [Array.getD, dif_pos hh1] at hv
            simp at hv
            rw [← hh2, hv]
        exact .inr ⟨by simp [Region.wanted, hg, hy2], _, skip st hr, h⟩
      · cases h

theorem takeOk_spec {listed : Array Bool} {i : Nat} {pure : Bool} {oi : Oper} (hi : ops[i]? = some oi) (h : takeOk ops listed i pure = true) : ∃ D : List Nat, i ∈ D ∧ (∀ j ∈ D, listed.getD j true = false) ∧ (∀ j ∈ D, j ≠ i → waitsAny ops j D = true) ∧
    ∀ j oj, ops[j]? = some oj → j ∉ D → listed.getD j true = false → oi.apart ops oj = true ∧ (pure = true ∨ keepsOp oj.op = true) := by
  unfold takeOk at h
  rw [hi] at h
  simp only [Bool.and_eq_true] at h
  obtain ⟨h1, h2, h3⟩ := h
  refine ⟨_, memN'_iff.1 h1, fun j hj => ?_, fun j hj hne => ?_, fun j oj hoj hjD hl => ?_⟩
  · have := List.all_eq_true.1 h2 j hj
    simp only [Bool.and_eq_true, Bool.not_eq_true'] at this
    exact this.1
  · have := List.all_eq_true.1 h2 j hj
    simp only [Bool.and_eq_true, Bool.or_eq_true] at this
    rcases this.2 with h4 | h4
    · exact absurd (Nat.eq_of_beq_eq_true h4) hne
    · exact h4
  · have := List.all_eq_true.1 h3 j (List.mem_range.2 (Array.getElem?_eq_some_iff.1 hoj).1)
    rw [hoj] at this
    simp only [Bool.or_eq_true, Bool.and_eq_true] at this
    rcases this with h4 | h4 | ⟨h4, h5⟩
    · rw [hl] at h4; cases h4
    · exact absurd (memN'_iff.1 h4) hjD
    · exact ⟨h4, h5⟩

theorem opIs_spec {f : Op → Bool} {i : Nat} (h : opIs ops f i = true) : ∃ o, ops[i]? = some o ∧ f o.op = true := by
  unfold opIs at h
  split at h
  · rename_i o ho; exact ⟨o, ho, h⟩
  · cases h

theorem pure_quiet {op : Op} (h : pureOp op = true) : quietOwn op = true := by
  cases op <;> simp_all [pureOp, quietOwn, quietOp]

theorem plan_any (hT : TOk P T) {cl : Bool} {call : CallFn R} (hcall : CallOk P W0 n call) (hd : noDefer ops = true) {K : St → Option R} {Q : Act → World → Prop} :
    ∀ (fuel : Nat) (listed : Array Bool) (l : List Nat) (c : Cx) (st : St) (a : Act), planFrom ops fuel listed = some l → evalOps T cl call ops K (l.filterMap fun i => ops[i]?) st = some r → Rel W0 b0 rd c st a ats →
      (∀ c' st' a', K st' = some r → Rel W0 b0 rd c' st' a' ats → c.Mono c' → Q a' c'.w) → wpAnyIn (FW rd) n P .any ops (fun e a w => e = .normal ∧ Q a w) fuel listed a c.w
  | 0, listed, l, c, st, a, hp, h, hr, hQ => by
    simp only [planFrom] at hp
    rw [cond_eq_ite] at hp
    split at hp
    · rename_i he
      cases hp
      simp only [List.filterMap_nil, evalOps] at h
      exact ⟨by simpa using he, rfl, hQ c st a h hr (Cx.Mono.refl c)⟩
    · cases hp
  | fuel + 1, listed, l, c, st, a, hp, h, hr, hQ => by
    have hQ0 : ∀ c (a : Act) (w : World), ¬ (Exit.panic c = .normal ∧ Q a w) := fun c a w h => by cases h.1
    -- one that is taken first
    have take : ∀ (i : Nat) (pr : Bool) (l' : List Nat), i ∈ Region.ready .any ops listed → (if pr then opIs ops pureOp i = true else opIs ops quietOwn i = true) → takeOk ops listed i pr = true → planFrom ops fuel (listed.setIfInBounds i true) = some l' →
        evalOps T cl call ops K ((i :: l').filterMap fun i => ops[i]?) st = some r → wpAnyIn (FW rd) n P .any ops (fun e a w => e = .normal ∧ Q a w) (fuel + 1) listed a c.w := fun i pr l' hir hop htk hpl h => by
      obtain ⟨oi, hoi, hq, hpure⟩ : ∃ oi, ops[i]? = some oi ∧ quietOwn oi.op = true ∧ (pr = true → pureOp oi.op = true) := by
        cases pr with
        | true => obtain ⟨oi, h1, h2⟩ := opIs_spec (by simpa using hop); exact ⟨oi, h1, pure_quiet h2, fun _ => h2⟩
        | false => obtain ⟨oi, h1, h2⟩ := opIs_spec (by simpa using hop); exact ⟨oi, h1, h2, fun h => by cases h⟩
      obtain ⟨D, d1, d2, d3, d4⟩ := takeOk_spec hoi htk
      simp only [List.filterMap_cons, hoi] at h
      rw [evalOps_cons] at h
      have hfree : ∀ j oj, ops[j]? = some oj → j ∉ D → listed.getD j true = false → oi.apart ops oj = true ∧ KeepsC P (fun w => pr = true ∨ Ext c w) oj := fun j oj hoj hjD hl => by
        obtain ⟨e1, e2⟩ := d4 j oj hoj hjD hl
        refine ⟨e1, ?_⟩
        rcases e2 with e2 | e2
        · exact .inl fun w => .inl e2
        · refine .inr fun ρ w v w' hw hx => ?_
          obtain ⟨hu, hb⟩ := keeps_next e2 ρ P w v w' hx
          exact ⟨hu, hw.imp (fun h => h) fun hw => hw.trans (hb.mono hw.size)⟩
      have hcw : pr = true ∨ Ext c c.w := .inr (Below.refl _ _)
      rcases one_step h hr with ⟨hwt, st1, hr1, h1⟩ | ⟨hwt, st1, hr1, h1⟩
      · have hy : ∃ z u, evalOps T cl call ops K (l'.filterMap fun i => ops[i]?) (st1.put oi.dst z) = some r ∧ VRel c z u ∧ YieldsC P ops (fun w => pr = true ∨ Ext c w) oi u a := by
          cases pr with
          | true =>
            obtain ⟨z, u, k1, k2, k3⟩ := pure_op hT hr1.ok (hpure rfl) hr1.hp hr1.fr h1
            exact ⟨z, u, k1, k2, .inl ⟨hwt, fun w _ => k3 w⟩⟩
          | false =>
            obtain ⟨z, u, k1, k2, k3⟩ := quiet_op hT hr1.ok hq hr1.hp hr1.fr h1
            exact ⟨z, u, k1, k2, .inl ⟨hwt, fun w hw => k3 w (hw.resolve_left (by simp))⟩⟩
        obtain ⟨z, u, k1, k2, k3⟩ := hy
        exact wpAnyIn_firstC hd hoi hQ0 D d3 fuel listed a c.w hcw d2 hfree d1 hir k3 (plan_any hT hcall hd fuel _ l' c (st1.put oi.dst z) (a.put oi.dst u) hpl k1 (hr1.put k2) hQ)
      · exact wpAnyIn_firstC hd hoi hQ0 D d3 fuel listed a c.w hcw d2 hfree d1 hir (.inr ⟨hwt, rfl⟩) (plan_any hT hcall hd fuel _ l' c st1 (a.put oi.dst undef) hpl h1 hr1 hQ)
    simp only [planFrom] at hp
    split at hp
    · rename_i hrd
      cases hp
      simp only [List.filterMap_nil, evalOps] at h
      exact ⟨fun _ => ⟨rfl, hQ c st a h hr (Cx.Mono.refl c)⟩, by rw [hrd]; simp⟩
    · rename_i k rs hrd
      split at hp
      · rename_i i hf
        have hf1 := List.find?_some hf
        have hf2 := List.mem_of_find?_eq_some hf
        simp only [Bool.and_eq_true] at hf1
        split at hp
        · rename_i l' hpl
          cases hp
          exact take i true l' (by rw [hrd]; exact hf2) (by simpa using hf1.1) hf1.2 hpl h
        · cases hp
      · split at hp
        · rename_i i hf
          have hf1 := List.find?_some hf
          have hf2 := List.mem_of_find?_eq_some hf
          simp only [Bool.and_eq_true] at hf1
          split at hp
          · rename_i l' hpl
            cases hp
            exact take i false l' (by rw [hrd]; exact hf2) (by simpa using hf1.1) hf1.2 hpl h
          · cases hp
        · split at hp
          · split at hp
            · rename_i l' hpl
              cases hp
              obtain ⟨_, ok, hok, _⟩ := mem_ready.1 (show k ∈ Region.ready .any ops listed by rw [hrd]; simp)
              simp only [List.filterMap_cons, hok] at h
              rw [evalOps_cons] at h
              refine wpAnyIn_all hrd (by simp) fun j hj => ?_
              obtain rfl : j = k := by simpa using hj
              unfold wpOpIn
              simp only [hok]
              rcases one_step h hr with ⟨hwt, st1, hr1, h1⟩ | ⟨hwt, st1, hr1, h1⟩
              · rw [if_pos hwt]
                exact op_sound hT hcall h1 hr1 fun c' z u st' k1 k2 k3 k4 => plan_any hT hcall hd fuel _ l' c' (st'.put ok.dst z) (a.put ok.dst u) hpl k1 (k2.put k3) fun c'' st'' a'' q1 q2 q3 => hQ c'' st'' a'' q1 q2 (k4.trans q3)
              · rw [if_neg (by rw [hwt]; simp)]
                exact ⟨about_FW ok c.w _, plan_any hT hcall hd fuel _ l' c st1 (a.put ok.dst undef) hpl h1 hr1 hQ⟩
            · cases hp
          · cases hp

/-- a region that draws its order, by a plan -/
theorem planned_sound (hT : TOk P T) (hm : P.follows .mixedOrders = true) {cl : Bool} {call : CallFn R} (hcall : CallOk P W0 n call) {id : Nat} {l : List Oper} (hp : planOf ops = some l) {K : St → Option R} {Q : Exit → Act → World → Prop}
    (h : evalOps T cl call ops K l st = some r) (hr : Rel W0 b0 rd c st a ats) (hQ : ∀ c' st' a', K st' = some r → Rel W0 b0 rd c' st' a' ats → c.Mono c' → Q .normal a' c'.w) :
    (Code.region id ops true).wpIn (FW rd) n P Q a c.w := by
  unfold planOf at hp
  rw [cond_eq_ite] at hp
  split at hp
  · rename_i hd
    split at hp
    · rename_i l' hpl
      cases hp
      have hext : Ext c { c.w with drawn := c.w.drawn + 1 } := ⟨rfl, rfl, rfl, Nat.le_refl _, fun _ _ => rfl⟩
      have h2 := plan_any (Q := fun a w => Q .normal a w) hT hcall hd ops.size _ l' (c.at_ { c.w with drawn := c.w.drawn + 1 }) st a hpl h (hr.ext hext) fun c' st' a' k1 k2 k3 => hQ c' st' a' k1 k2 ((Cx.Le.ext hext).mono.trans k3)
      exact Code.wpIn_mono (fun e a w he => by obtain ⟨rfl, he⟩ := he; exact he) (wpIn_region_any hm h2)
    · cases hp
  · cases hp
end
end Go.Proofs.YtnmaceljkegenaaDoor
