/-
  The plain machine: loops by patterns of their states.
-/
import Derived.Test.YtnmaceljkegenaaDoorBa
namespace Go.Proofs.YtnmaceljkegenaaDoor
open Go.RowKit
set_option linter.unusedVariables false
set_option linter.unusedSimpArgs false

/-- what a slot or a cell holds: nothing that is looked at; a datum; a slice of our own, by its name; an address in a block of our own; a constant without data -/
inductive FK where
  | u
  | v (t : Ty)
  | slc (id : Nat)
  | ptr (id off : Nat)
  | nils
  | slf (id : Nat)
  | yld (id : Nat)
  | nilp
  /-- nothing yet -/
  | e
  /-- a function with variables that it has caught, by their addresses -/
  | fn (f : FuncId) (caps : List (Nat × Nat))
  /-- an address in memory that is never written: what stands there -/
  | cp (t : Ty)
  /-- a table of our own -/
  | mpv (id : Nat)
  /-- a method with its receiver, by its address -/
  | mfn (f : FuncId) (fst : List (Nat × Nat))

/-- and so many slots of which nothing is held -/
def us (l : List FK) (n : Nat) : List FK := l ++ List.replicate n .u

def FKs.den : List FK → Ty
  | [] => .unit
  | .v t :: l => .pair t (FKs.den l)
  | .u :: l => FKs.den l
  | .slc _ :: l => FKs.den l
  | .ptr _ _ :: l => FKs.den l
  | .nils :: l => FKs.den l
  | .slf _ :: l => FKs.den l
  | .mpv _ :: l => FKs.den l
  | .mfn _ _ :: l => FKs.den l
  | .yld _ :: l => FKs.den l
  | .nilp :: l => FKs.den l
  | .e :: l => FKs.den l
  | .fn _ _ :: l => FKs.den l
  | .cp t :: l => .pair t (FKs.den l)

def ptrsOf : List (Nat × Nat) → List AVal
  | [] => []
  | (i, o) :: l => .ptr i o :: ptrsOf l

def mkF : (l : List FK) → (FKs.den l).den → List AVal
  | [], _ => []
  | .v t :: l, y => .val t y.1 :: mkF l y.2
  | .u :: l, y => .undef :: mkF l y
  | .slc id :: l, y => .slc id 0 none :: mkF l y
  | .ptr id off :: l, y => .ptr id off :: mkF l y
  | .nils :: l, y => .nils :: mkF l y
  | .slf id :: l, y => .slf id :: mkF l y
  | .mpv id :: l, y => .mpv id :: mkF l y
  | .mfn f c :: l, y => .mfn f (ptrsOf c) :: mkF l y
  | .yld id :: l, y => .yld id :: mkF l y
  | .nilp :: l, y => .nilp :: mkF l y
  | .e :: l, y => .tup [] :: mkF l y
  | .fn f caps :: l, y => .fn f (ptrsOf caps) :: mkF l y
  | .cp t :: l, y => .cellp t y.1 :: mkF l y.2

def valAs (t : Ty) : AVal → Option t.den
  | .val t' x => castTy t x
  | _ => none

def cpAs (t : Ty) : AVal → Option t.den
  | .cellp t' x => castTy t x
  | _ => none

def isU : AVal → Bool
  | .undef => true
  | _ => false

def isNils : AVal → Bool
  | .nils => true
  | _ => false

def isNilp : AVal → Bool
  | .nilp => true
  | _ => false

def isE : AVal → Bool
  | .tup l => l.isEmpty
  | _ => false

def isSlf (id : Nat) : AVal → Bool
  | .slf i => Nat.beq i id
  | _ => false

def isMpv (id : Nat) : AVal → Bool
  | .mpv i => Nat.beq i id
  | _ => false

def isYld (id : Nat) : AVal → Bool
  | .yld i => Nat.beq i id
  | _ => false

def isOwn (id : Nat) : AVal → Bool
  | .slc i v w => Nat.beq i id && (Nat.beq v 0 && (match w with | none => true | some _ => false))
  | _ => false

def isPtr (id off : Nat) : AVal → Bool
  | .ptr i o => Nat.beq i id && Nat.beq o off
  | _ => false

def isPtrs : List (Nat × Nat) → List AVal → Bool
  | [], [] => true
  | (i, o) :: c, v :: l => isPtr i o v && isPtrs c l
  | _, _ => false

def isFn (f : FuncId) (c : List (Nat × Nat)) : AVal → Bool
  | .fn g l => Nat.beq g f && isPtrs c l
  | _ => false

def isMfn (f : FuncId) (c : List (Nat × Nat)) : AVal → Bool
  | .mfn g l => Nat.beq g f && isPtrs c l
  | _ => false

theorem valAs_spec {t : Ty} {v : AVal} {x : t.den} (h : valAs t v = some x) : v = .val t x := by
  cases v with
  | val t' z =>
    simp only [valAs] at h
    have e := castTy_ty h
    subst e
    rw [castTy_same] at h
    cases h
    rfl
  | _ => simp [valAs] at h

theorem cpAs_spec {t : Ty} {v : AVal} {x : t.den} (h : cpAs t v = some x) : v = .cellp t x := by
  cases v with
  | cellp t' z =>
    simp only [cpAs] at h
    have e := castTy_ty h
    subst e
    rw [castTy_same] at h
    cases h
    rfl
  | _ => simp [cpAs] at h

theorem isU_spec {v : AVal} (h : isU v = true) : v = .undef := by cases v <;> first | rfl | (simp [isU] at h)
theorem isNils_spec {v : AVal} (h : isNils v = true) : v = .nils := by cases v <;> first | rfl | (simp [isNils] at h)
theorem isPtrs_spec : ∀ {c : List (Nat × Nat)} {l : List AVal}, isPtrs c l = true → l = ptrsOf c
  | [], [], _ => rfl
  | (i, o) :: c, v :: l, h => by
    simp only [isPtrs, Bool.and_eq_true] at h
    have h1 : v = .ptr i o := by
      have := h.1
      cases v <;> simp only [isPtr, Bool.false_eq_true] at this
      simp only [Bool.and_eq_true] at this
      rw [Nat.eq_of_beq_eq_true this.1, Nat.eq_of_beq_eq_true this.2]
    rw [h1, isPtrs_spec h.2]; rfl
  | [], _ :: _, h => by simp [isPtrs] at h
  | _ :: _, [], h => by simp [isPtrs] at h
theorem isFn_spec {f : FuncId} {c : List (Nat × Nat)} {v : AVal} (h : isFn f c v = true) : v = .fn f (ptrsOf c) := by
  cases v with
  | fn g l =>
    simp only [isFn, Bool.and_eq_true] at h
    rw [Nat.eq_of_beq_eq_true h.1, isPtrs_spec h.2]
  | _ => simp [isFn] at h
theorem isMfn_spec {f : FuncId} {c : List (Nat × Nat)} {v : AVal} (h : isMfn f c v = true) : v = .mfn f (ptrsOf c) := by
  cases v with
  | mfn g l =>
    simp only [isMfn, Bool.and_eq_true] at h
    rw [Nat.eq_of_beq_eq_true h.1, isPtrs_spec h.2]
  | _ => simp [isMfn] at h
theorem isNilp_spec {v : AVal} (h : isNilp v = true) : v = .nilp := by cases v <;> first | rfl | (simp [isNilp] at h)
theorem isE_spec {v : AVal} (h : isE v = true) : v = .tup [] := by
  cases v with
  | tup l => cases l with
    | nil => rfl
    | cons => simp [isE] at h
  | _ => simp [isE] at h
theorem isSlf_spec {id : Nat} {v : AVal} (h : isSlf id v = true) : v = .slf id := by
  cases v with
  | slf i => rw [Nat.eq_of_beq_eq_true h]
  | _ => simp [isSlf] at h
theorem isMpv_spec {id : Nat} {v : AVal} (h : isMpv id v = true) : v = .mpv id := by
  cases v with
  | mpv i => rw [Nat.eq_of_beq_eq_true h]
  | _ => simp [isMpv] at h
theorem isYld_spec {id : Nat} {v : AVal} (h : isYld id v = true) : v = .yld id := by
  cases v with
  | yld i => rw [Nat.eq_of_beq_eq_true h]
  | _ => simp [isYld] at h
theorem isOwn_spec {id : Nat} {v : AVal} (h : isOwn id v = true) : v = .slc id 0 none := by
  cases v with
  | slc i k w =>
    simp only [isOwn, Bool.and_eq_true] at h
    obtain rfl : i = id := Nat.eq_of_beq_eq_true h.1
    obtain rfl : k = 0 := Nat.eq_of_beq_eq_true h.2.1
    cases w with
    | none => rfl
    | some _ => simp at h
  | _ => simp [isOwn] at h
theorem isPtr_spec {id off : Nat} {v : AVal} (h : isPtr id off v = true) : v = .ptr id off := by
  cases v with
  | ptr i o =>
    simp only [isPtr, Bool.and_eq_true] at h
    rw [Nat.eq_of_beq_eq_true h.1, Nat.eq_of_beq_eq_true h.2]
  | _ => simp [isPtr] at h

def getF : (l : List FK) → List AVal → Option (FKs.den l).den
  | [], fr => match fr with
    | [] => some ()
    | _ => none
  | .v t :: l, fr => match fr with
    | v :: fr => match valAs t v, getF l fr with
      | some x, some y => some (x, y)
      | _, _ => none
    | [] => none
  | .u :: l, fr => match fr with
    | v :: fr => bif isU v then getF l fr else none
    | [] => none
  | .slc id :: l, fr => match fr with
    | v :: fr => bif isOwn id v then getF l fr else none
    | [] => none
  | .ptr id off :: l, fr => match fr with
    | v :: fr => bif isPtr id off v then getF l fr else none
    | [] => none
  | .nils :: l, fr => match fr with
    | v :: fr => bif isNils v then getF l fr else none
    | [] => none
  | .nilp :: l, fr => match fr with
    | v :: fr => bif isNilp v then getF l fr else none
    | [] => none
  | .e :: l, fr => match fr with
    | v :: fr => bif isE v then getF l fr else none
    | [] => none
  | .fn f c :: l, fr => match fr with
    | v :: fr => bif isFn f c v then getF l fr else none
    | [] => none
  | .mfn f c :: l, fr => match fr with
    | v :: fr => bif isMfn f c v then getF l fr else none
    | [] => none
  | .slf id :: l, fr => match fr with
    | v :: fr => bif isSlf id v then getF l fr else none
    | [] => none
  | .mpv id :: l, fr => match fr with
    | v :: fr => bif isMpv id v then getF l fr else none
    | [] => none
  | .yld id :: l, fr => match fr with
    | v :: fr => bif isYld id v then getF l fr else none
    | [] => none
  | .cp t :: l, fr => match fr with
    | v :: fr => match cpAs t v, getF l fr with
      | some x, some y => some (x, y)
      | _, _ => none
    | [] => none

theorem getF_spec : ∀ (l : List FK) (fr : List AVal) (y : (FKs.den l).den), getF l fr = some y → fr = mkF l y
  | [], fr, y, h => by
    simp only [getF] at h
    split at h
    · rfl
    · cases h
  | .v t :: l, fr, y, h => by
    simp only [getF] at h
    split at h
    · split at h
      · rename_i x y' hx hy
        cases h
        rw [valAs_spec hx, getF_spec l _ y' hy]; rfl
      · cases h
    · cases h
  | .u :: l, fr, y, h => by
    simp only [getF] at h
    split at h
    · rename_i v fr
      obtain ⟨hu, h⟩ : isU v = true ∧ getF l fr = some y := bif_some h
      rw [isU_spec hu, getF_spec l fr y h]; rfl
    · cases h
  | .slc id :: l, fr, y, h => by
    simp only [getF] at h
    split at h
    · rename_i v fr
      obtain ⟨hu, h⟩ : isOwn id v = true ∧ getF l fr = some y := bif_some h
      rw [isOwn_spec hu, getF_spec l fr y h]; rfl
    · cases h
  | .ptr id off :: l, fr, y, h => by
    simp only [getF] at h
    split at h
    · rename_i v fr
      obtain ⟨hu, h⟩ : isPtr id off v = true ∧ getF l fr = some y := bif_some h
      rw [isPtr_spec hu, getF_spec l fr y h]; rfl
    · cases h
  | .nils :: l, fr, y, h => by
    simp only [getF] at h
    split at h
    · rename_i v fr
      obtain ⟨hu, h⟩ : isNils v = true ∧ getF l fr = some y := bif_some h
      rw [isNils_spec hu, getF_spec l fr y h]; rfl
    · cases h
  | .nilp :: l, fr, y, h => by
    simp only [getF] at h
    split at h
    · rename_i v fr
      obtain ⟨hu, h⟩ : isNilp v = true ∧ getF l fr = some y := bif_some h
      rw [isNilp_spec hu, getF_spec l fr y h]; rfl
    · cases h
  | .e :: l, fr, y, h => by
    simp only [getF] at h
    split at h
    · rename_i v fr
      obtain ⟨hu, h⟩ : isE v = true ∧ getF l fr = some y := bif_some h
      rw [isE_spec hu, getF_spec l fr y h]; rfl
    · cases h
  | .fn f c :: l, fr, y, h => by
    simp only [getF] at h
    split at h
    · rename_i v fr
      obtain ⟨hu, h⟩ : isFn f c v = true ∧ getF l fr = some y := bif_some h
      rw [isFn_spec hu, getF_spec l fr y h]; rfl
    · cases h
  | .mfn f c :: l, fr, y, h => by
    simp only [getF] at h
    split at h
    · rename_i v fr
      obtain ⟨hu, h⟩ : isMfn f c v = true ∧ getF l fr = some y := bif_some h
      rw [isMfn_spec hu, getF_spec l fr y h]; rfl
    · cases h
  | .slf id :: l, fr, y, h => by
    simp only [getF] at h
    split at h
    · rename_i v fr
      obtain ⟨hu, h⟩ : isSlf id v = true ∧ getF l fr = some y := bif_some h
      rw [isSlf_spec hu, getF_spec l fr y h]; rfl
    · cases h
  | .mpv id :: l, fr, y, h => by
    simp only [getF] at h
    split at h
    · rename_i v fr
      obtain ⟨hu, h⟩ : isMpv id v = true ∧ getF l fr = some y := bif_some h
      rw [isMpv_spec hu, getF_spec l fr y h]; rfl
    · cases h
  | .yld id :: l, fr, y, h => by
    simp only [getF] at h
    split at h
    · rename_i v fr
      obtain ⟨hu, h⟩ : isYld id v = true ∧ getF l fr = some y := bif_some h
      rw [isYld_spec hu, getF_spec l fr y h]; rfl
    · cases h
  | .cp t :: l, fr, y, h => by
    simp only [getF] at h
    split at h
    · split at h
      · rename_i x y' hx hy
        cases h
        rw [cpAs_spec hx, getF_spec l _ y' hy]; rfl
      · cases h
    · cases h

/-- the texts of a named range -/
noncomputable def rfA (f : FuncId) (k : Nat) : Code := match rfTab f k with
  | some (a, _) => a
  | none => .skip
noncomputable def rfB (f : FuncId) (k : Nat) : Code := match rfTab f k with
  | some (_, b) => b
  | none => .skip

/-- what a thing of the memory holds -/
inductive HK where
  | arr (id : Nat) (e : Ty)
  | box (id : Nat) (t : TypeId) (cs : List FK)
  | mp (id : Nat) (kk vk : IntKind)
  | lp (id : Nat) (f : FuncId) (fr : List FK) (ps : List Nat) (key : Nat) (n : Nat) (p : Option Ex)

def HKs.den : List HK → Ty
  | [] => .unit
  | .arr _ e :: l => .pair (.list e) (HKs.den l)
  | .mp _ kk vk :: l => .pair (.list (.pair (.int kk) (.int vk))) (HKs.den l)
  | .box _ _ cs :: l => .pair (FKs.den cs) (HKs.den l)
  | .lp _ _ fr _ _ _ _ :: l => .pair (FKs.den fr) (HKs.den l)

noncomputable def mkH : (l : List HK) → (HKs.den l).den → Heap
  | [], _ => []
  | .arr id e :: l, y => (id, .arr e 0 y.1) :: mkH l y.2
  | .mp id kk vk :: l, y => (id, .mp kk vk y.1) :: mkH l y.2
  | .box id t cs :: l, y => (id, .box t (mkF cs y.1)) :: mkH l y.2
  | .lp id f fr ps key n p :: l, y => (id, .lp f (mkF fr y.1) ps (rfA f key) (rfB f key) (some key) n p) :: mkH l y.2

def arrAs (e : Ty) : AObj → Option (List e.den)
  | .arr e' v xs => bif Nat.beq v 0 then castTy (.list e) (t' := .list e') xs else none
  | _ => none

def mpAs (kk vk : IntKind) : AObj → Option (List (Int × Int))
  | .mp k v es => bif decide (k = kk) && decide (v = vk) then some es else none
  | _ => none

theorem mpAs_spec {kk vk : IntKind} {o : AObj} {x : List (Int × Int)} (h : mpAs kk vk o = some x) : o = .mp kk vk x := by
  cases o with
  | mp k v es =>
    simp only [mpAs] at h
    replace h := bif_some h
    obtain ⟨h1, h⟩ := h
    simp only [Bool.and_eq_true, decide_eq_true_eq] at h1
    obtain ⟨rfl, rfl⟩ := h1
    cases h
    rfl
  | _ => simp [mpAs] at h

def boxAs (t : TypeId) (cs : List FK) : AObj → Option (FKs.den cs).den
  | .box t' l => bif Nat.beq t' t then getF cs l else none
  | _ => none

def exEq : Ex → Ex → Bool
  | .normal, .normal => true
  | .exit i, .exit j => Nat.beq i j
  | .goto i, .goto j => Nat.beq i j
  | .ret, .ret => true
  | _, _ => false

def penEq : Option Ex → Option Ex → Bool
  | none, none => true
  | some a, some b => exEq a b
  | _, _ => false

def natsEq : List Nat → List Nat → Bool
  | [], [] => true
  | a :: l, b :: m => Nat.beq a b && natsEq l m
  | _, _ => false

theorem exEq_spec {a b : Ex} (h : exEq a b = true) : a = b := by
  cases a <;> cases b <;> simp only [exEq, Bool.false_eq_true] at h <;> first | rfl | rw [Nat.eq_of_beq_eq_true h]
theorem penEq_spec {a b : Option Ex} (h : penEq a b = true) : a = b := by
  cases a <;> cases b <;> simp only [penEq, Bool.false_eq_true] at h <;> first | rfl | rw [exEq_spec h]
theorem natsEq_spec : ∀ {l m : List Nat}, natsEq l m = true → l = m
  | [], [], _ => rfl
  | a :: l, b :: m, h => by
    simp only [natsEq, Bool.and_eq_true] at h
    rw [Nat.eq_of_beq_eq_true h.1, natsEq_spec h.2]
  | [], _ :: _, h => by simp [natsEq] at h
  | _ :: _, [], h => by simp [natsEq] at h

def lpAs (f : FuncId) (fr : List FK) (ps : List Nat) (key n : Nat) (p : Option Ex) : AObj → Option (FKs.den fr).den
  | .lp f' fr' ps' _ _ (some k') n' p' => bif Nat.beq f' f && (natsEq ps' ps && (Nat.beq k' key && (Nat.beq n' n && penEq p' p))) then getF fr fr' else none
  | _ => none

/-- a thing whose texts are those of the table -/
theorem arrAs_spec {e : Ty} {o : AObj} {x : List e.den} (h : arrAs e o = some x) : o = .arr e 0 x := by
  cases o with
  | arr e' v xs =>
    simp only [arrAs] at h
    rw [cond_eq_ite] at h
    split at h
    · rename_i hv
      obtain rfl : v = 0 := Nat.eq_of_beq_eq_true hv
      have ee := castTy_ty h
      cases ee
      rw [castTy_same] at h
      cases h
      rfl
    · cases h
  | _ => simp [arrAs] at h

theorem boxAs_spec {t : TypeId} {cs : List FK} {o : AObj} {x : (FKs.den cs).den} (h : boxAs t cs o = some x) : o = .box t (mkF cs x) := by
  cases o with
  | box t' l =>
    simp only [boxAs] at h
    obtain ⟨h1, h⟩ := bif_some h
    rw [getF_spec cs l x h, Nat.eq_of_beq_eq_true h1]
  | _ => simp [boxAs] at h

theorem lpAs_spec {f : FuncId} {fr : List FK} {ps : List Nat} {key n : Nat} {p : Option Ex} {o : AObj} {x : (FKs.den fr).den} (hw : WfO o) (h : lpAs f fr ps key n p o = some x) : o = .lp f (mkF fr x) ps (rfA f key) (rfB f key) (some key) n p := by
  cases o with
  | lp f' fr' ps' asg bd ky n' p' =>
    cases ky with
    | none => simp [lpAs] at h
    | some k' =>
      simp only [lpAs] at h
      replace h := bif_some h
      obtain ⟨hc, h⟩ := h
      simp only [Bool.and_eq_true] at hc
      obtain ⟨h1, h2, h3, h4, h5⟩ := hc
      have h1 := Nat.eq_of_beq_eq_true h1
      have h2 := natsEq_spec h2
      have h3 := Nat.eq_of_beq_eq_true h3
      have h4 := Nat.eq_of_beq_eq_true h4
      have h5 := penEq_spec h5
      subst h1 h2 h3 h4 h5
      have hw' : rfTab f' k' = some (asg, bd) := hw
      have hA : rfA f' k' = asg := by unfold rfA; rw [hw']
      have hB : rfB f' k' = bd := by unfold rfB; rw [hw']
      rw [getF_spec fr fr' x h, hA, hB]
  | _ => simp [lpAs] at h

def getH : (l : List HK) → Heap → Option (HKs.den l).den
  | [], hp => match hp with
    | [] => some ()
    | _ => none
  | .arr id e :: l, hp => match hp with
    | (j, o) :: hp => bif Nat.beq j id then (match arrAs e o, getH l hp with
      | some x, some y => some (x, y)
      | _, _ => none) else none
    | [] => none
  | .mp id kk vk :: l, hp => match hp with
    | (j, o) :: hp => bif Nat.beq j id then (match mpAs kk vk o, getH l hp with
      | some x, some y => some (x, y)
      | _, _ => none) else none
    | [] => none
  | .box id t cs :: l, hp => match hp with
    | (j, o) :: hp => bif Nat.beq j id then (match boxAs t cs o, getH l hp with
      | some x, some y => some (x, y)
      | _, _ => none) else none
    | [] => none
  | .lp id f fr ps key n p :: l, hp => match hp with
    | (j, o) :: hp => bif Nat.beq j id then (match lpAs f fr ps key n p o, getH l hp with
      | some x, some y => some (x, y)
      | _, _ => none) else none
    | [] => none

theorem getH_spec : ∀ (l : List HK) (hp : Heap) (y : (HKs.den l).den), (∀ e ∈ hp, WfO e.2) → getH l hp = some y → hp = mkH l y
  | [], hp, y, _, h => by
    simp only [getH] at h
    split at h
    · rfl
    · cases h
  | .arr id e :: l, hp, y, hw, h => by
    simp only [getH] at h
    split at h
    · rw [cond_eq_ite] at h
      split at h
      · rename_i hb
        split at h
        · rename_i x y' hx hy
          cases h
          rw [arrAs_spec hx, getH_spec l _ y' (fun e he => hw e (List.mem_cons_of_mem _ he)) hy, Nat.eq_of_beq_eq_true hb]; rfl
        · cases h
      · cases h
    · cases h
  | .mp id kk vk :: l, hp, y, hw, h => by
    simp only [getH] at h
    split at h
    · rw [cond_eq_ite] at h
      split at h
      · rename_i hb
        split at h
        · rename_i x y' hx hy
          cases h
          rw [mpAs_spec hx, getH_spec l _ y' (fun e he => hw e (List.mem_cons_of_mem _ he)) hy, Nat.eq_of_beq_eq_true hb]; rfl
        · cases h
      · cases h
    · cases h
  | .box id t cs :: l, hp, y, hw, h => by
    simp only [getH] at h
    split at h
    · rw [cond_eq_ite] at h
      split at h
      · rename_i hb
        split at h
        · rename_i x y' hx hy
          cases h
          rw [boxAs_spec hx, getH_spec l _ y' (fun e he => hw e (List.mem_cons_of_mem _ he)) hy, Nat.eq_of_beq_eq_true hb]; rfl
        · cases h
      · cases h
    · cases h
  | .lp id f fr ps key n p :: l, hp, y, hw, h => by
    simp only [getH] at h
    split at h
    · rw [cond_eq_ite] at h
      split at h
      · rename_i hb
        split at h
        · rename_i x y' hx hy
          cases h
          have hw0 := hw _ List.mem_cons_self
          dsimp only at hw0
          rw [lpAs_spec hw0 hx, getH_spec l _ y' (fun e he => hw e (List.mem_cons_of_mem _ he)) hy, Nat.eq_of_beq_eq_true hb]; rfl
        · cases h
      · cases h
    · cases h

/-- a pattern of a state, in a function that stands alone -/
structure SP where
  fr : List FK
  hp : List HK

def SP.den (p : SP) : Type := (FKs.den p.fr).den × (HKs.den p.hp).den

noncomputable def mkSt (p : SP) (y : p.den) : St := ⟨mkF p.fr y.1, [[]], mkH p.hp y.2, 0⟩

def getSt (p : SP) (st : St) : Option p.den :=
  match st.stk, st.nxt with
  | [[]], 0 => match getF p.fr st.fr, getH p.hp st.hp with
    | some x, some y => bif noTwice st.hp then some (x, y) else none
    | _, _ => none
  | _, _ => none

theorem getSt_spec {p : SP} {st : St} {y : p.den} (hw : WfH st.hp) (h : getSt p st = some y) : st = mkSt p y := by
  obtain ⟨fr, stk, hp, nxt⟩ := st
  unfold getSt at h
  split at h
  · rename_i h1 h2
    subst h1 h2
    split at h
    · rename_i x y' hx hy
      replace h := bif_some h
      obtain ⟨hn, h⟩ := h
      cases h
      have e1 := getF_spec _ _ _ hx
      have e2 := getH_spec _ _ _ (wf_all _ hn hw) hy
      simp only [mkSt]
      rw [← e1, ← e2]
    · cases h
  · cases h

/-- a code at a depth of calls -/
def runD {R : Type} (E : Env) (d : Nat) (f : FuncId) (c : Code) : St → (Ex → St → Option R) → Option R := run (E.at d) (exec E d) (exdOf E d) f c

/-- a loop by patterns -/
noncomputable def loopBy (k : Keep) (l la lb : SP) (ex : Ex) (sp : l.den → Option (la.den ⊕ lb.den)) (dep : Nat := 0) (exb : Ex := .ret) : LoopSum where
  V := l.den
  A := fun _ => la.den
  B := fun _ => lb.den
  get := fun st => match trim k.slots k.owns st with
    | some st => getSt l st
    | none => none
  spec := sp
  exA := fun _ => ex
  stA := fun _ _ a => mkSt la a
  stB := fun _ _ b => mkSt lb b
  dep := dep
  exB := fun _ => exb

/-- such a loop is right if its rounds are -/
theorem loopBy_ok {E : Env} {f : FuncId} {c : Code} {k : Keep} {l la lb : SP} {ex : Ex} {sp : l.den → Option (la.den ⊕ lb.den)} {dep : Nat} {exb : Ex} (hk : E.kp f (firstRegion c) = some k)
    (h : ∀ (R : Type) (d : Nat) (K : Ex → St → Option R) (v : l.den) o, sp v = some o →
      ∃ m, iter (some k) (runD E (d + dep) f c) m (mkSt l v) K = osum o (fun a => K ex (mkSt la a)) fun b => K exb (mkSt lb b)) : LoopOk E f c (loopBy k l la lb ex sp dep exb) := by
  intro R d r st v K hwf hg hr
  simp only [loopBy] at hg
  split at hg
  · rename_i st1 ht
    have e := getSt_spec (hwf _ _ _ ht) hg
    subst e
    simp only [loopBy] at hr
    cases ho : sp v with
    | none => rw [ho] at hr; cases hr
    | some o =>
      rw [ho] at hr
      obtain ⟨m, hm⟩ := h R d K v o ho
      have hk2 : (E.at (d + (loopBy k l la lb ex sp dep exb).dep)).kp f (firstRegion c) = some k := hk
      refine ⟨m, mkSt l v, by rw [hk2]; exact ht, ?_⟩
      rw [hk2]
      exact hm.trans hr
  · cases hg

theorem cutBy_ok {E : Env} {f : FuncId} {c : Code} {k : Keep} {l la lb : SP} {ex : Ex} {sp : l.den → Option (la.den ⊕ lb.den)} {dep : Nat} {exb : Ex} (hk : E.kp f (800000 + firstRegion c) = some k)
    (h : ∀ (R : Type) (d : Nat) (K : Ex → St → Option R) (v : l.den) o, sp v = some o →
      ∃ m, iter (some k) (cutF (runD E (d + dep) f c)) m (mkSt l v) K = osum o (fun a => K ex (mkSt la a)) fun b => K exb (mkSt lb b)) : CutOk E f c (loopBy k l la lb ex sp dep exb) := by
  intro R d r st v K hwf hg hr
  simp only [loopBy] at hg
  split at hg
  · rename_i st1 ht
    have e := getSt_spec (hwf _ _ _ ht) hg
    subst e
    simp only [loopBy] at hr
    cases ho : sp v with
    | none => rw [ho] at hr; cases hr
    | some o =>
      rw [ho] at hr
      obtain ⟨m, hm⟩ := h R d K v o ho
      have hk2 : (E.at (d + (loopBy k l la lb ex sp dep exb).dep)).kp f (800000 + firstRegion c) = some k := hk
      refine ⟨m, mkSt l v, by rw [hk2]; exact ht, ?_⟩
      rw [hk2]
      exact hm.trans hr
  · cases hg

/-! ### within a call: the frames above are part of the pattern -/

def FKss.den : List (List FK) → Type
  | [] => Unit
  | l :: ls => (FKs.den l).den × FKss.den ls

def mkK : (l : List (List FK)) → FKss.den l → List (List AVal)
  | [], _ => []
  | l :: ls, y => mkF l y.1 :: mkK ls y.2

def getK : (l : List (List FK)) → List (List AVal) → Option (FKss.den l)
  | [], st => match st with
    | [] => some ()
    | _ => none
  | l :: ls, st => match st with
    | fr :: st => match getF l fr, getK ls st with
      | some x, some y => some (x, y)
      | _, _ => none
    | [] => none

theorem getK_spec : ∀ (l : List (List FK)) (st : List (List AVal)) (y : FKss.den l), getK l st = some y → st = mkK l y
  | [], st, y, h => by
    simp only [getK] at h
    split at h
    · rfl
    · cases h
  | l :: ls, st, y, h => by
    simp only [getK] at h
    split at h
    · split at h
      · rename_i x y' hx hy
        cases h
        rw [getF_spec _ _ _ hx, getK_spec ls _ y' hy]; rfl
      · cases h
    · cases h

/-- a pattern of a state, within calls -/
structure SQ where
  fr : List FK
  stk : List (List FK)
  hp : List HK

def SQ.den (p : SQ) : Type := (FKs.den p.fr).den × (FKss.den p.stk × (HKs.den p.hp).den)

noncomputable def mkSt2 (p : SQ) (y : p.den) : St := ⟨mkF p.fr y.1, mkK p.stk y.2.1, mkH p.hp y.2.2, 0⟩

def getSt2 (p : SQ) (st : St) : Option p.den :=
  match st.nxt with
  | 0 => match getF p.fr st.fr, getK p.stk st.stk, getH p.hp st.hp with
    | some x, some k, some y => bif noTwice st.hp then some (x, k, y) else none
    | _, _, _ => none
  | _ => none

theorem getSt2_spec {p : SQ} {st : St} {y : p.den} (hw : WfH st.hp) (h : getSt2 p st = some y) : st = mkSt2 p y := by
  obtain ⟨fr, stk, hp, nxt⟩ := st
  unfold getSt2 at h
  split at h
  · rename_i h2
    subst h2
    split at h
    · rename_i x k y' hx hk hy
      replace h := bif_some h
      obtain ⟨hn, h⟩ := h
      cases h
      have e1 := getF_spec _ _ _ hx
      have e2 := getH_spec _ _ _ (wf_all _ hn hw) hy
      have e3 := getK_spec _ _ _ hk
      simp only [mkSt2]
      rw [← e1, ← e2, ← e3]
    · cases h
  · cases h

/-- a loop by patterns, within calls -/
noncomputable def loopBy2 (k : Keep) (l la lb : SQ) (ex : Ex) (sp : l.den → Option (la.den ⊕ lb.den)) (dep : Nat := 0) (exb : Ex := .ret) : LoopSum where
  V := l.den
  A := fun _ => la.den
  B := fun _ => lb.den
  get := fun st => match trim k.slots k.owns st with
    | some st => getSt2 l st
    | none => none
  spec := sp
  exA := fun _ => ex
  stA := fun _ _ a => mkSt2 la a
  stB := fun _ _ b => mkSt2 lb b
  dep := dep
  exB := fun _ => exb

theorem loopBy2_ok {E : Env} {f : FuncId} {c : Code} {k : Keep} {l la lb : SQ} {ex : Ex} {sp : l.den → Option (la.den ⊕ lb.den)} {dep : Nat} {exb : Ex} (hk : E.kp f (firstRegion c) = some k)
    (h : ∀ (R : Type) (d : Nat) (K : Ex → St → Option R) (v : l.den) o, sp v = some o →
      ∃ m, iter (some k) (runD E (d + dep) f c) m (mkSt2 l v) K = osum o (fun a => K ex (mkSt2 la a)) fun b => K exb (mkSt2 lb b)) : LoopOk E f c (loopBy2 k l la lb ex sp dep exb) := by
  intro R d r st v K hwf hg hr
  simp only [loopBy2] at hg
  split at hg
  · rename_i st1 ht
    have e := getSt2_spec (hwf _ _ _ ht) hg
    subst e
    simp only [loopBy2] at hr
    cases ho : sp v with
    | none => rw [ho] at hr; cases hr
    | some o =>
      rw [ho] at hr
      obtain ⟨m, hm⟩ := h R d K v o ho
      have hk2 : (E.at (d + (loopBy2 k l la lb ex sp dep exb).dep)).kp f (firstRegion c) = some k := hk
      refine ⟨m, mkSt2 l v, by rw [hk2]; exact ht, ?_⟩
      rw [hk2]
      exact hm.trans hr
  · cases hg

theorem cutBy2_ok {E : Env} {f : FuncId} {c : Code} {k : Keep} {l la lb : SQ} {ex : Ex} {sp : l.den → Option (la.den ⊕ lb.den)} {dep : Nat} {exb : Ex} (hk : E.kp f (800000 + firstRegion c) = some k)
    (h : ∀ (R : Type) (d : Nat) (K : Ex → St → Option R) (v : l.den) o, sp v = some o →
      ∃ m, iter (some k) (cutF (runD E (d + dep) f c)) m (mkSt2 l v) K = osum o (fun a => K ex (mkSt2 la a)) fun b => K exb (mkSt2 lb b)) : CutOk E f c (loopBy2 k l la lb ex sp dep exb) := by
  intro R d r st v K hwf hg hr
  simp only [loopBy2] at hg
  split at hg
  · rename_i st1 ht
    have e := getSt2_spec (hwf _ _ _ ht) hg
    subst e
    simp only [loopBy2] at hr
    cases ho : sp v with
    | none => rw [ho] at hr; cases hr
    | some o =>
      rw [ho] at hr
      obtain ⟨m, hm⟩ := h R d K v o ho
      have hk2 : (E.at (d + (loopBy2 k l la lb ex sp dep exb).dep)).kp f (800000 + firstRegion c) = some k := hk
      refine ⟨m, mkSt2 l v, by rw [hk2]; exact ht, ?_⟩
      rw [hk2]
      exact hm.trans hr
  · cases hg

/-- what is known of a loop at heads of two forms -/
def loopOr (L M : LoopSum) : LoopSum where
  V := L.V ⊕ M.V
  A := fun v => match v with | .inl v => L.A v | .inr v => M.A v
  B := fun v => match v with | .inl v => L.B v | .inr v => M.B v
  get := fun st => match L.get st with
    | some v => some (.inl v)
    | none => match M.get st with
      | some v => some (.inr v)
      | none => none
  spec := fun v => match v with | .inl v => L.spec v | .inr v => M.spec v
  exA := fun v => match v with | .inl v => L.exA v | .inr v => M.exA v
  stA := fun st v => match v with | .inl v => L.stA st v | .inr v => M.stA st v
  stB := fun st v => match v with | .inl v => L.stB st v | .inr v => M.stB st v
  dep := L.dep + M.dep
  exB := fun v => match v with | .inl v => L.exB v | .inr v => M.exB v

theorem loopOr_ok {E : Env} {f : FuncId} {c : Code} {L M : LoopSum} (h1 : LoopOk E f c L) (h2 : LoopOk E f c M) : LoopOk E f c (loopOr L M) := fun R m r st v K hwf hg hr => by
  simp only [loopOr] at hg
  split at hg
  · rename_i v1 hv
    cases hg
    have e : m + (loopOr L M).dep = (m + M.dep) + L.dep := by show m + (L.dep + M.dep) = _; omega
    rw [e]
    exact h1 R _ r st v1 K hwf hv hr
  · split at hg
    · rename_i v1 hv
      cases hg
      have e : m + (loopOr L M).dep = (m + L.dep) + M.dep := by show m + (L.dep + M.dep) = _; omega
      rw [e]
      exact h2 R _ r st v1 K hwf hv hr
    · cases hg

theorem cutOr_ok {E : Env} {f : FuncId} {c : Code} {L M : LoopSum} (h1 : CutOk E f c L) (h2 : CutOk E f c M) : CutOk E f c (loopOr L M) := fun R m r st v K hwf hg hr => by
  simp only [loopOr] at hg
  split at hg
  · rename_i v1 hv
    cases hg
    have e : m + (loopOr L M).dep = (m + M.dep) + L.dep := by show m + (L.dep + M.dep) = _; omega
    rw [e]
    exact h1 R _ r st v1 K hwf hv hr
  · split at hg
    · rename_i v1 hv
      cases hg
      have e : m + (loopOr L M).dep = (m + L.dep) + M.dep := by show m + (L.dep + M.dep) = _; omega
      rw [e]
      exact h2 R _ r st v1 K hwf hv hr
    · cases hg
end Go.Proofs.YtnmaceljkegenaaDoor
