/-
  The plain machine: operations that make nothing and write nothing.
-/
import Derived.Test.YtnmaceljkegenaaDoorAc
import Derived.Laws.StructEq
import Derived.Laws.Slices
import Derived.Laws.Cells
namespace Go.Proofs.YtnmaceljkegenaaDoor
open Go.RowKit
set_option linter.unusedVariables false
set_option linter.unusedSimpArgs false

/-- the table's word for a form of type -/
def descK : TypeDesc → Option TK
  | .bool => some .bool
  | .int k => some (.int k)
  | .string => some .str
  | .slice e => some (.slice e)
  | .struct fs => some (.struct (fs.toList.map fun f => (f.offset, f.type)))
  | .func _ _ _ => some .fn
  | .pointer e => some (.ptr e)
  | .map k e => some (.map k e)
  | .array _ _ => none
  | _ => some .other

def tyFields (T : TT) : Nat → List (Nat × TypeId) → Option Ty
  | _, [] => some .unit
  | off, (o, ft) :: rest => if o = off then match (T.at ft).ty with
      | some a => if a.size = (T.at ft).size ∧ (T.at ft).known = true then match tyFields T (off + a.size) rest with
        | some b => some (.pair a b)
        | none => none
        else none
      | none => none
    else none

def tyOfK (T : TT) : TK → Option Ty
  | .bool => some .bool
  | .int k => some (.int k)
  | .str => some .str
  | .slice e => (T.at e).ty.map .list
  | .struct fs => tyFields T 0 fs
  | _ => none

/-- is a row of the table right? -/
def TIok (P : Program) (T : TT) (t : TypeId) (i : TI) : Prop :=
  i.known = true → (P.info? t).map (fun f => (f.size, f.bytes, f.zero.map fun z => (z.cells.toList.map constC, z.cells.toList.all Value.oneCell'))) = some (i.size, i.bytes, some (i.zero, true)) ∧
    (P.underlying t).map descK = some (some i.k) ∧ (i.ty = none ∨ i.ty = tyOfK T i.k) ∧ (∀ y, i.ty = some y → y.size = i.size) ∧ (i.isAgg = true ∨ i.size = 1) ∧
    (i.eq = true → P.eqGuardType P.depth t = false ∧ P.stoodInHeld t = false ∧ (P.underlying t).map (fun d => match d with | .struct fs => fs.toList.all fun f => f.name != "_" | _ => false) = some true) ∧
    (P.underlying t).map (fun d => match d with | .struct fs => fs.toList.all fun f => (P.info? f.type).isSome | _ => true) = some true ∧ i.zero.length = i.size ∧ (i.ty = some (.int .u8) → t = byteTy) ∧ (i.bld = true → t = bldTy) ∧ (∀ k, i.k = .int k → ∀ j, P.info? t = some j → j.zero = some (.int k 0))

def TOk (P : Program) (T : TT) : Prop := ∀ t, TIok P T t (T.at t)

def TT.All (p : Nat → TI → Prop) : TT → Prop
  | .nil => True
  | .node k i l r => p k i ∧ l.All p ∧ r.All p

theorem TT.All.at_ {p : Nat → TI → Prop} (hd : ∀ t, p t default) : ∀ (T : TT), T.All p → ∀ t, p t (T.at t)
  | .nil, _, t => hd t
  | .node k i l r, ⟨h1, h2, h3⟩, t => by
    simp only [TT.at]
    by_cases e : Nat.beq k t = true
    · have : k = t := Nat.eq_of_beq_eq_true e
      subst this; simp [e]; exact h1
    · have e' : Nat.beq k t = false := (Bool.not_eq_true _).mp e
      simp only [e', cond_false]
      by_cases e2 : Nat.blt t k = true
      · simp only [e2, cond_true]; exact TT.All.at_ hd l h2 t
      · have e2' : Nat.blt t k = false := (Bool.not_eq_true _).mp e2
        simp only [e2', cond_false]; exact TT.All.at_ hd r h3 t

theorem TOk.of_all {P : Program} {T : TT} (h : T.All (TIok P T)) : TOk P T := TT.All.at_ (fun t h => by cases h) T h

section types
variable {P : Program} {T : TT} (hT : TOk P T) {t : TypeId} (hk : (T.at t).known = true)

theorem TOk.info (hT : TOk P T) (hk : (T.at t).known = true) : ∃ i z, P.info? t = some i ∧ i.size = (T.at t).size ∧ i.bytes = (T.at t).bytes ∧ i.zero = some z ∧ z.cells.toList.map constC = (T.at t).zero ∧ z.cells.toList.all Value.oneCell' = true := by
  have h := (hT t hk).1
  cases hi : P.info? t with
  | none => rw [hi] at h; cases h
  | some i =>
    rw [hi] at h
    simp only [Option.map_some, Option.some.injEq, Prod.mk.injEq] at h
    obtain ⟨h1, h2, h3⟩ := h
    cases hz : i.zero with
    | none => rw [hz] at h3; cases h3
    | some z =>
      rw [hz] at h3
      simp only [Option.map_some, Option.some.injEq, Prod.mk.injEq] at h3
      exact ⟨i, z, rfl, h1, h2, hz, h3.1, h3.2⟩

theorem TOk.und (hT : TOk P T) (hk : (T.at t).known = true) : ∃ d, P.underlying t = some d ∧ descK d = some (T.at t).k := by
  have h := (hT t hk).2.1
  cases hd : P.underlying t with
  | none => rw [hd] at h; cases h
  | some d => rw [hd] at h; exact ⟨d, rfl, Option.some.inj h⟩

theorem TOk.slice (hT : TOk P T) (hk : (T.at t).known = true) {e : TypeId} (h : (T.at t).k = .slice e) : P.underlying t = some (.slice e) := by
  obtain ⟨d, h1, h2⟩ := hT.und hk
  rw [h] at h2
  cases d <;> simp [descK] at h2
  subst h2; exact h1

theorem TOk.str (hT : TOk P T) (hk : (T.at t).known = true) (h : (T.at t).k = .str) : P.underlying t = some .string := by
  obtain ⟨d, h1, h2⟩ := hT.und hk
  rw [h] at h2
  cases d <;> simp [descK] at h2
  exact h1

theorem TOk.int (hT : TOk P T) (hk : (T.at t).known = true) {k : IntKind} (h : (T.at t).k = .int k) : P.underlying t = some (.int k) := by
  obtain ⟨d, h1, h2⟩ := hT.und hk
  rw [h] at h2
  cases d <;> simp [descK] at h2
  subst h2; exact h1

theorem TOk.struct (hT : TOk P T) (hk : (T.at t).known = true) {fs : List (Nat × TypeId)} (h : (T.at t).k = .struct fs) : ∃ fields, P.underlying t = some (.struct fields) ∧ fields.toList.map (fun f => (f.offset, f.type)) = fs := by
  obtain ⟨d, h1, h2⟩ := hT.und hk
  rw [h] at h2
  cases d <;> simp [descK] at h2
  rename_i fields
  exact ⟨fields, h1, h2⟩

theorem TOk.isAgg (hT : TOk P T) (hk : (T.at t).known = true) (w : World) : (Go.isAgg t).run P w = .ok (T.at t).isAgg w := by
  obtain ⟨d, h1, h2⟩ := hT.und hk
  have : (Go.isAgg t).run P w = .ok (match d with | .struct _ | .array _ _ => true | _ => false) w := by
    simp only [Go.isAgg, Sem.run_bind, run_underlying h1, Result.andThen_ok]
    cases d <;> rfl
  rw [this]
  unfold TI.isAgg
  cases d <;> simp only [descK, Option.some.injEq, reduceCtorEq] at h2 <;> simp [← h2]

theorem TOk.sizeOf (hT : TOk P T) (hk : (T.at t).known = true) (w : World) : (Go.sizeOf t).run P w = .ok (T.at t).size w := by
  obtain ⟨i, z, h1, h2, _⟩ := hT.info hk
  simp [Go.sizeOf, typeInfo, h1, h2]

theorem TOk.ty_agg (hT : TOk P T) (hk : (T.at t).known = true) {y : Ty} (h : (T.at t).ty = some y) : y.isAgg = (T.at t).isAgg := by
  rcases (hT t hk).2.2.1 with h1 | h1
  · rw [h] at h1; cases h1
  · rw [h] at h1
    unfold TI.isAgg
    cases hkk : (T.at t).k with
    | struct fs =>
      rw [hkk] at h1
      simp only [tyOfK] at h1
      cases fs with
      | nil => simp only [tyFields, Option.some.injEq] at h1; subst h1; rfl
      | cons f r =>
        obtain ⟨o, ft⟩ := f
        simp only [tyFields] at h1
        repeat' split at h1
        all_goals first | cases h1 | skip
        rfl
    | bool => rw [hkk] at h1; simp only [tyOfK, Option.some.injEq] at h1; subst h1; rfl
    | int k => rw [hkk] at h1; simp only [tyOfK, Option.some.injEq] at h1; subst h1; rfl
    | str => rw [hkk] at h1; simp only [tyOfK, Option.some.injEq] at h1; subst h1; rfl
    | slice e =>
      rw [hkk] at h1
      simp only [tyOfK] at h1
      cases he : (T.at e).ty with
      | none => rw [he] at h1; cases h1
      | some e' => rw [he] at h1; simp only [Option.map_some, Option.some.injEq] at h1; subst h1; rfl
    | other => rw [hkk] at h1; cases h1
    | ptr e => rw [hkk] at h1; cases h1
    | fn => rw [hkk] at h1; cases h1
    | map a b => rw [hkk] at h1; cases h1

theorem TOk.ty_size (hT : TOk P T) (hk : (T.at t).known = true) {y : Ty} (h : (T.at t).ty = some y) : y.size = (T.at t).size := (hT t hk).2.2.2.1 y h

theorem TOk.zlen (hT : TOk P T) (hk : (T.at t).known = true) : (T.at t).zero.length = (T.at t).size := (hT t hk).2.2.2.2.2.2.2.1

theorem TOk.byte (hT : TOk P T) (hk : (T.at t).known = true) (h : (T.at t).ty = some (.int .u8)) : t = byteTy := (hT t hk).2.2.2.2.2.2.2.2.1 h

theorem TOk.bldr (hT : TOk P T) (hk : (T.at t).known = true) (h : (T.at t).bld = true) : t = bldTy := (hT t hk).2.2.2.2.2.2.2.2.2.1 h

theorem TOk.ptr (hT : TOk P T) (hk : (T.at t).known = true) {e : TypeId} (h : (T.at t).k = .ptr e) : P.underlying t = some (.pointer e) := by
  obtain ⟨d, h1, h2⟩ := hT.und hk
  rw [h] at h2
  cases d <;> simp [descK] at h2
  subst h2; exact h1

theorem TOk.zero_int (hT : TOk P T) (hk : (T.at t).known = true) {k : IntKind} (h : (T.at t).k = .int k) {i : TypeInfo} (hi : P.info? t = some i) : i.zero = some (.int k 0) := (hT t hk).2.2.2.2.2.2.2.2.2.2 k h i hi

theorem TOk.zero_byte (hT : TOk P T) (hk : (T.at t).known = true) (h : (T.at t).k = .int .u8) {i : TypeInfo} (hi : P.info? t = some i) : i.zero = some (.int .u8 0) := hT.zero_int hk h hi

theorem TOk.map (hT : TOk P T) (hk : (T.at t).known = true) {a e : TypeId} (h : (T.at t).k = .map a e) : P.underlying t = some (.map a e) := by
  obtain ⟨d, h1, h2⟩ := hT.und hk
  rw [h] at h2
  cases d <;> simp [descK] at h2
  obtain ⟨rfl, rfl⟩ := h2; exact h1

theorem TOk.one (hT : TOk P T) (hk : (T.at t).known = true) : (T.at t).isAgg = true ∨ (T.at t).size = 1 := (hT t hk).2.2.2.2.1
end types

/-! ### operands -/

theorem constC_rel (c : Cx) (v : Value) : VRel c (constC v) v := by
  unfold constC
  split <;> simp only [VRel]
  · exact (VD.leaf rfl).2 rfl
  · exact (VD.leaf rfl).2 rfl
  · refine (VD.leaf rfl).2 ?_
    simp [DRel]

theorem constC_rels (c : Cx) : ∀ (l : List Value), VRels c (l.map constC) l
  | [] => by simp [VRels]
  | v :: l => by simp only [List.map_cons, VRels]; exact ⟨constC_rel c v, constC_rels c l⟩

theorem VRels.setL {c : Cx} {z : AVal} : ∀ (s : Nat) (fr : List AVal) (xs : List Value), VRels c fr xs → (∀ h : s < xs.length, VRel c z xs[s]) → VRels c (fr.set s z) xs
  | s, [], [], _, _ => by simp [VRels]
  | 0, v :: fr, x :: xs, h, hz => by
    simp only [VRels, List.set_cons_zero] at h ⊢
    exact ⟨hz (by simp), h.2⟩
  | s + 1, v :: fr, x :: xs, h, hz => by
    simp only [VRels, List.set_cons_succ] at h ⊢
    exact ⟨h.1, VRels.setL s fr xs h.2 fun hl => hz (by simpa using hl)⟩
  | s, [], _ :: _, h, _ => by simp [VRels] at h
  | s, _ :: _, [], h, _ => by simp [VRels] at h

theorem VRels.getD {c : Cx} {l : List AVal} {xs : Array Value} (h : VRels c l xs.toList) (t : Nat) : VRel c (l.getD t .undef) (xs.getD t undef) := by
  have hl : l.length = xs.size := by have := VRels.length _ _ h; rwa [Array.length_toList] at this
  by_cases ht : t < l.length
  · have ht' : t < xs.size := by omega
    have h1 := VRels.get _ _ h t ht (by simpa using ht')
    rw [List.getD, List.getElem?_eq_getElem ht, Option.getD_some, Array.getD, dif_pos ht']
    simpa using h1
  · rw [List.getD, List.getElem?_eq_none (by omega)]
    simp [VRel]

theorem evalO_rel {c : Cx} {fr : List AVal} {a : Act} (h : VRels c fr a.tmps.toList) (x : Operand) : VRel c (evalO fr x) (a.eval x) := by
  cases x with
  | tmp t => exact h.getD t
  | const v =>
    cases v with
    | agg cs =>
      simp only [evalO, Act.eval, constV]
      cases e : cs.toList.all Value.oneCell'
      · simp [VRel]
      · simp only [cond_true, VRel]
        exact ⟨cs, rfl, constC_rels c _, fun u hu => List.all_eq_true.1 e u hu⟩
    | tuple _ => simp [evalO, constV, VRel]
    | _ => simp only [evalO, Act.eval, constV]; exact constC_rel c _
  | global g => simp [evalO, VRel]
  | func f => simp only [evalO, Act.eval, VRel]; exact ⟨#[], rfl, by simp [VRels]⟩
end Go.Proofs.YtnmaceljkegenaaDoor
