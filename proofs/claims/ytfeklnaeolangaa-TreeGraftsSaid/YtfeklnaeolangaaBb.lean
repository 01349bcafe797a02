/-
  The plain machine: loops by patterns of their states.
-/
import Derived.Test.YtfeklnaeolangaaBa
namespace Go.Proofs.Ytfeklnaeolangaa
open Go.RowKit
set_option linter.unusedVariables false
set_option linter.unusedSimpArgs false

/-- what a slot or a cell holds: nothing that is looked at; a datum; a slice of our own, by its name; an address in a block of our own; a constant without data -/
inductive FK where
  | u
  | v (t : Ty)
  | slc (id : Nat)
  | ptr (id off : Nat)
  | nils

/-- and so many slots of which nothing is held -/
def us (l : List FK) (n : Nat) : List FK := l ++ List.replicate n .u

def FKs.den : List FK → Ty
  | [] => .unit
  | .v t :: l => .pair t (FKs.den l)
  | .u :: l => FKs.den l
  | .slc _ :: l => FKs.den l
  | .ptr _ _ :: l => FKs.den l
  | .nils :: l => FKs.den l

def mkF : (l : List FK) → (FKs.den l).den → List AVal
  | [], _ => []
  | .v t :: l, y => .val t y.1 :: mkF l y.2
  | .u :: l, y => .undef :: mkF l y
  | .slc id :: l, y => .slc id 0 none :: mkF l y
  | .ptr id off :: l, y => .ptr id off :: mkF l y
  | .nils :: l, y => .nils :: mkF l y

def valAs (t : Ty) : AVal → Option t.den
  | .val t' x => castTy t x
  | _ => none

def isU : AVal → Bool
  | .undef => true
  | _ => false

def isNils : AVal → Bool
  | .nils => true
  | _ => false

def isOwn (id : Nat) : AVal → Bool
  | .slc i v w => Nat.beq i id && (Nat.beq v 0 && (match w with | none => true | some _ => false))
  | _ => false

def isPtr (id off : Nat) : AVal → Bool
  | .ptr i o => Nat.beq i id && Nat.beq o off
  | _ => false

theorem valAs_spec {t : Ty} {v : AVal} {x : t.den} (h : valAs t v = some x) : v = .val t x := by
  cases v with
  | val t' z =>
    simp only [valAs] at h
    have e := castTy_ty h
    subst e
    rw [castTy_same] at h
    cases h
    rfl
  | _ => simp [valAs] at h

theorem isU_spec {v : AVal} (h : isU v = true) : v = .undef := by cases v <;> first | rfl | (simp [isU] at h)
theorem isNils_spec {v : AVal} (h : isNils v = true) : v = .nils := by cases v <;> first | rfl | (simp [isNils] at h)
theorem isOwn_spec {id : Nat} {v : AVal} (h : isOwn id v = true) : v = .slc id 0 none := by
  cases v with
  | slc i k w =>
    simp only [isOwn, Bool.and_eq_true] at h
    obtain rfl : i = id := Nat.eq_of_beq_eq_true h.1
    obtain rfl : k = 0 := Nat.eq_of_beq_eq_true h.2.1
    cases w with
    | none => rfl
    | some _ => simp at h
  | _ => simp [isOwn] at h
theorem isPtr_spec {id off : Nat} {v : AVal} (h : isPtr id off v = true) : v = .ptr id off := by
  cases v with
  | ptr i o =>
    simp only [isPtr, Bool.and_eq_true] at h
    rw [Nat.eq_of_beq_eq_true h.1, Nat.eq_of_beq_eq_true h.2]
  | _ => simp [isPtr] at h

def getF : (l : List FK) → List AVal → Option (FKs.den l).den
  | [], fr => match fr with
    | [] => some ()
    | _ => none
  | .v t :: l, fr => match fr with
    | v :: fr => match valAs t v, getF l fr with
      | some x, some y => some (x, y)
      | _, _ => none
    | [] => none
  | .u :: l, fr => match fr with
    | v :: fr => bif isU v then getF l fr else none
    | [] => none
  | .slc id :: l, fr => match fr with
    | v :: fr => bif isOwn id v then getF l fr else none
    | [] => none
  | .ptr id off :: l, fr => match fr with
    | v :: fr => bif isPtr id off v then getF l fr else none
    | [] => none
  | .nils :: l, fr => match fr with
    | v :: fr => bif isNils v then getF l fr else none
    | [] => none

theorem getF_spec : ∀ (l : List FK) (fr : List AVal) (y : (FKs.den l).den), getF l fr = some y → fr = mkF l y
  | [], fr, y, h => by
    simp only [getF] at h
    split at h
    · rfl
    · cases h
  | .v t :: l, fr, y, h => by
    simp only [getF] at h
    split at h
    · split at h
      · rename_i x y' hx hy
        cases h
        rw [valAs_spec hx, getF_spec l _ y' hy]; rfl
      · cases h
    · cases h
  | .u :: l, fr, y, h => by
    simp only [getF] at h
    split at h
    · rename_i v fr
      obtain ⟨hu, h⟩ : isU v = true ∧ getF l fr = some y := bif_some h
      rw [isU_spec hu, getF_spec l fr y h]; rfl
    · cases h
  | .slc id :: l, fr, y, h => by
    simp only [getF] at h
    split at h
    · rename_i v fr
      obtain ⟨hu, h⟩ : isOwn id v = true ∧ getF l fr = some y := bif_some h
      rw [isOwn_spec hu, getF_spec l fr y h]; rfl
    · cases h
  | .ptr id off :: l, fr, y, h => by
    simp only [getF] at h
    split at h
    · rename_i v fr
      obtain ⟨hu, h⟩ : isPtr id off v = true ∧ getF l fr = some y := bif_some h
      rw [isPtr_spec hu, getF_spec l fr y h]; rfl
    · cases h
  | .nils :: l, fr, y, h => by
    simp only [getF] at h
    split at h
    · rename_i v fr
      obtain ⟨hu, h⟩ : isNils v = true ∧ getF l fr = some y := bif_some h
      rw [isNils_spec hu, getF_spec l fr y h]; rfl
    · cases h

/-- what a thing of the memory holds -/
inductive HK where
  | arr (id : Nat) (e : Ty)
  | box (id : Nat) (cs : List FK)

def HKs.den : List HK → Ty
  | [] => .unit
  | .arr _ e :: l => .pair (.list e) (HKs.den l)
  | .box _ cs :: l => .pair (FKs.den cs) (HKs.den l)

def mkH : (l : List HK) → (HKs.den l).den → Heap
  | [], _ => []
  | .arr id e :: l, y => (id, .arr e 0 y.1) :: mkH l y.2
  | .box id cs :: l, y => (id, .box (mkF cs y.1)) :: mkH l y.2

def arrAs (e : Ty) : AObj → Option (List e.den)
  | .arr e' v xs => bif Nat.beq v 0 then castTy (.list e) (t' := .list e') xs else none
  | _ => none

def boxAs (cs : List FK) : AObj → Option (FKs.den cs).den
  | .box l => getF cs l
  | _ => none

theorem arrAs_spec {e : Ty} {o : AObj} {x : List e.den} (h : arrAs e o = some x) : o = .arr e 0 x := by
  cases o with
  | arr e' v xs =>
    simp only [arrAs] at h
    rw [cond_eq_ite] at h
    split at h
    · rename_i hv
      obtain rfl : v = 0 := Nat.eq_of_beq_eq_true hv
      have ee := castTy_ty h
      cases ee
      rw [castTy_same] at h
      cases h
      rfl
    · cases h
  | _ => simp [arrAs] at h

theorem boxAs_spec {cs : List FK} {o : AObj} {x : (FKs.den cs).den} (h : boxAs cs o = some x) : o = .box (mkF cs x) := by
  cases o with
  | box l => rw [getF_spec cs l x h]
  | _ => simp [boxAs] at h

def getH : (l : List HK) → Heap → Option (HKs.den l).den
  | [], hp => match hp with
    | [] => some ()
    | _ => none
  | .arr id e :: l, hp => match hp with
    | (j, o) :: hp => bif Nat.beq j id then (match arrAs e o, getH l hp with
      | some x, some y => some (x, y)
      | _, _ => none) else none
    | [] => none
  | .box id cs :: l, hp => match hp with
    | (j, o) :: hp => bif Nat.beq j id then (match boxAs cs o, getH l hp with
      | some x, some y => some (x, y)
      | _, _ => none) else none
    | [] => none

theorem getH_spec : ∀ (l : List HK) (hp : Heap) (y : (HKs.den l).den), getH l hp = some y → hp = mkH l y
  | [], hp, y, h => by
    simp only [getH] at h
    split at h
    · rfl
    · cases h
  | .arr id e :: l, hp, y, h => by
    simp only [getH] at h
    split at h
    · rw [cond_eq_ite] at h
      split at h
      · rename_i hb
        split at h
        · rename_i x y' hx hy
          cases h
          rw [arrAs_spec hx, getH_spec l _ y' hy, Nat.eq_of_beq_eq_true hb]; rfl
        · cases h
      · cases h
    · cases h
  | .box id cs :: l, hp, y, h => by
    simp only [getH] at h
    split at h
    · rw [cond_eq_ite] at h
      split at h
      · rename_i hb
        split at h
        · rename_i x y' hx hy
          cases h
          rw [boxAs_spec hx, getH_spec l _ y' hy, Nat.eq_of_beq_eq_true hb]; rfl
        · cases h
      · cases h
    · cases h

/-- a pattern of a state, in a function that stands alone -/
structure SP where
  fr : List FK
  hp : List HK

def SP.den (p : SP) : Type := (FKs.den p.fr).den × (HKs.den p.hp).den

def mkSt (p : SP) (y : p.den) : St := ⟨mkF p.fr y.1, [[]], mkH p.hp y.2, 0⟩

def getSt (p : SP) (st : St) : Option p.den :=
  match st.stk, st.nxt with
  | [[]], 0 => match getF p.fr st.fr, getH p.hp st.hp with
    | some x, some y => some (x, y)
    | _, _ => none
  | _, _ => none

theorem getSt_spec {p : SP} {st : St} {y : p.den} (h : getSt p st = some y) : st = mkSt p y := by
  obtain ⟨fr, stk, hp, nxt⟩ := st
  unfold getSt at h
  split at h
  · rename_i h1 h2
    subst h1 h2
    split at h
    · rename_i x y' hx hy
      cases h
      have e1 := getF_spec _ _ _ hx
      have e2 := getH_spec _ _ _ hy
      simp only [mkSt]
      rw [← e1, ← e2]
    · cases h
  · cases h

/-- a loop by patterns -/
def loopBy (k : Keep) (l la lb : SP) (ex : Ex) (sp : l.den → Option (la.den ⊕ lb.den)) : LoopSum where
  V := l.den
  A := la.den
  B := lb.den
  get := fun st => match trim k.slots k.owns st with
    | some st => getSt l st
    | none => none
  spec := sp
  exA := ex
  stA := fun _ _ a => mkSt la a
  stB := fun _ _ b => mkSt lb b

/-- such a loop is right if its rounds are -/
theorem loopBy_ok {E : Env} {f : FuncId} {c : Code} {k : Keep} {l la lb : SP} {ex : Ex} {sp : l.den → Option (la.den ⊕ lb.den)} (hk : E.kp f (firstRegion c) = some k)
    (h : ∀ (R : Type) (x : ExecFn R) (xd : Job → St → Option AVal) (K : Ex → St → Option R) (v : l.den) o, sp v = some o →
      ∃ m, iter (some k) (run E x xd f c) m (mkSt l v) K = osum o (fun a => K ex (mkSt la a)) fun b => K .ret (mkSt lb b)) : LoopOk E f c (loopBy k l la lb ex sp) := by
  intro R r x xd st v K hg hr
  simp only [loopBy] at hg
  split at hg
  · rename_i st1 ht
    have e := getSt_spec hg
    subst e
    simp only [loopBy] at hr
    cases ho : sp v with
    | none => rw [ho] at hr; cases hr
    | some o =>
      rw [ho] at hr
      obtain ⟨m, hm⟩ := h R x xd K v o ho
      refine ⟨m, mkSt l v, by rw [hk]; exact ht, ?_⟩
      rw [hk, hm]
      exact hr
  · cases hg

/-! ### within a call: the frames above are part of the pattern -/

def FKss.den : List (List FK) → Type
  | [] => Unit
  | l :: ls => (FKs.den l).den × FKss.den ls

def mkK : (l : List (List FK)) → FKss.den l → List (List AVal)
  | [], _ => []
  | l :: ls, y => mkF l y.1 :: mkK ls y.2

def getK : (l : List (List FK)) → List (List AVal) → Option (FKss.den l)
  | [], st => match st with
    | [] => some ()
    | _ => none
  | l :: ls, st => match st with
    | fr :: st => match getF l fr, getK ls st with
      | some x, some y => some (x, y)
      | _, _ => none
    | [] => none

theorem getK_spec : ∀ (l : List (List FK)) (st : List (List AVal)) (y : FKss.den l), getK l st = some y → st = mkK l y
  | [], st, y, h => by
    simp only [getK] at h
    split at h
    · rfl
    · cases h
  | l :: ls, st, y, h => by
    simp only [getK] at h
    split at h
    · split at h
      · rename_i x y' hx hy
        cases h
        rw [getF_spec _ _ _ hx, getK_spec ls _ y' hy]; rfl
      · cases h
    · cases h

/-- a pattern of a state, within calls -/
structure SQ where
  fr : List FK
  stk : List (List FK)
  hp : List HK

def SQ.den (p : SQ) : Type := (FKs.den p.fr).den × (FKss.den p.stk × (HKs.den p.hp).den)

def mkSt2 (p : SQ) (y : p.den) : St := ⟨mkF p.fr y.1, mkK p.stk y.2.1, mkH p.hp y.2.2, 0⟩

def getSt2 (p : SQ) (st : St) : Option p.den :=
  match st.nxt with
  | 0 => match getF p.fr st.fr, getK p.stk st.stk, getH p.hp st.hp with
    | some x, some k, some y => some (x, k, y)
    | _, _, _ => none
  | _ => none

theorem getSt2_spec {p : SQ} {st : St} {y : p.den} (h : getSt2 p st = some y) : st = mkSt2 p y := by
  obtain ⟨fr, stk, hp, nxt⟩ := st
  unfold getSt2 at h
  split at h
  · rename_i h2
    subst h2
    split at h
    · rename_i x k y' hx hk hy
      cases h
      have e1 := getF_spec _ _ _ hx
      have e2 := getH_spec _ _ _ hy
      have e3 := getK_spec _ _ _ hk
      simp only [mkSt2]
      rw [← e1, ← e2, ← e3]
    · cases h
  · cases h

/-- a loop by patterns, within calls -/
def loopBy2 (k : Keep) (l la lb : SQ) (ex : Ex) (sp : l.den → Option (la.den ⊕ lb.den)) : LoopSum where
  V := l.den
  A := la.den
  B := lb.den
  get := fun st => match trim k.slots k.owns st with
    | some st => getSt2 l st
    | none => none
  spec := sp
  exA := ex
  stA := fun _ _ a => mkSt2 la a
  stB := fun _ _ b => mkSt2 lb b

theorem loopBy2_ok {E : Env} {f : FuncId} {c : Code} {k : Keep} {l la lb : SQ} {ex : Ex} {sp : l.den → Option (la.den ⊕ lb.den)} (hk : E.kp f (firstRegion c) = some k)
    (h : ∀ (R : Type) (x : ExecFn R) (xd : Job → St → Option AVal) (K : Ex → St → Option R) (v : l.den) o, sp v = some o →
      ∃ m, iter (some k) (run E x xd f c) m (mkSt2 l v) K = osum o (fun a => K ex (mkSt2 la a)) fun b => K .ret (mkSt2 lb b)) : LoopOk E f c (loopBy2 k l la lb ex sp) := by
  intro R r x xd st v K hg hr
  simp only [loopBy2] at hg
  split at hg
  · rename_i st1 ht
    have e := getSt2_spec hg
    subst e
    simp only [loopBy2] at hr
    cases ho : sp v with
    | none => rw [ho] at hr; cases hr
    | some o =>
      rw [ho] at hr
      obtain ⟨m, hm⟩ := h R x xd K v o ho
      refine ⟨m, mkSt2 l v, by rw [hk]; exact ht, ?_⟩
      rw [hk, hm]
      exact hr
  · cases hg
end Go.Proofs.Ytfeklnaeolangaa
