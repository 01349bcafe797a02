/-
  The plain machine: an operation that comes to an end has handed on a value and a state.
-/
import Derived.Test.YtnmaceljkegenaaDoorAqa
namespace Go.Proofs.YtnmaceljkegenaaDoor
open Go.RowKit
set_option linter.unusedVariables false
set_option linter.unusedSimpArgs false

section
variable {T : TT} {cl : Bool} {R : Type} {r : R} {sg : FuncId → Option Sum}

theorem ex_alloc {dst : Option Nat} {o : AObj} {st : St} {K : Nat → St → Option R} (h : alloc cl dst o st K = some r) : ∃ i st', K i st' = some r := by
  unfold alloc at h
  split at h
  · cases h
  · replace h := bif_some h
    exact ⟨_, _, h.2⟩

theorem ex_need {b : Bool} {k : Option R} (h : need b k = some r) : k = some r := (bif_some h).2

theorem ex_bin {op : BinOp} {t : TypeId} {x y : AVal} {K : AVal → Option R} (h : evBin T op t x y K = some r) : ∃ z, K z = some r := by
  unfold evBin at h
  simp only [need, cond_eq_ite] at h
  repeat' split at h
  all_goals first | cases h; done | exact ⟨_, h⟩

theorem ex_binH {hp : Heap} {op : BinOp} {t : TypeId} {x y : AVal} {K : AVal → Option R} (h : evBinH T hp op t x y K = some r) : ∃ z, K z = some r := by
  unfold evBinH at h
  simp only [cond_eq_ite] at h
  repeat' split at h
  all_goals first | cases h; done | exact ⟨_, h⟩ | exact ex_bin h

theorem ex_un {op : UnOp} {x : AVal} {K : AVal → Option R} (h : evUn op x K = some r) : ∃ z, K z = some r := by
  unfold evUn at h
  repeat' split at h
  all_goals first | cases h; done | exact ⟨_, h⟩

theorem ex_load {hp : Heap} {t : TypeId} {a : AVal} {K : AVal → Option R} (h : evLoad T hp t a K = some r) : ∃ z, K z = some r := by
  unfold evLoad at h
  simp only [cond_eq_ite] at h
  repeat' split at h
  all_goals first | cases h; done | exact ⟨_, h⟩

theorem ex_cut {old : Heap} {st : St} {a v : AVal} {K : St → Option R} (h : evCut old st a v K = some r) : ∃ z, K z = some r := by
  unfold evCut at h
  simp only [cond_eq_ite] at h
  repeat' split at h
  all_goals first | cases h; done | exact ⟨_, h⟩

theorem ex_store {st : St} {t : TypeId} {a v : AVal} {K : St → Option R} (h : evStore T st t a v K = some r) : ∃ z, K z = some r := by
  unfold evStore at h
  simp only [cond_eq_ite] at h
  repeat' split at h
  all_goals first | cases h; done | exact ⟨_, h⟩

theorem ex_convert {s d : TypeId} {x : AVal} {hp : Heap} {K : AVal → Option R} (h : evConvert T s d x hp K = some r) : ∃ z, K z = some r := by
  unfold evConvert at h
  simp only [need, cond_eq_ite] at h
  repeat' split at h
  all_goals first | cases h; done | exact ⟨_, h⟩

theorem ex_slice {hp : Heap} {t : TypeId} {x : AVal} {lo hi mx : Option AVal} {K : AVal → Option R} (h : evSlice T hp t x lo hi mx K = some r) : ∃ z, K z = some r := by
  unfold evSlice at h
  simp only [need, cond_eq_ite] at h
  repeat' split at h
  all_goals first | cases h; done | exact ⟨_, h⟩

theorem ex_fieldAddr {hp : Heap} {t : TypeId} {x : AVal} {f : Nat} {K : AVal → Option R} (h : evFieldAddr T hp t x f K = some r) : ∃ z, K z = some r := by
  unfold evFieldAddr at h
  simp only [cond_eq_ite] at h
  repeat' split at h
  all_goals first | cases h; done | exact ⟨_, h⟩

theorem ex_field {t : TypeId} {x : AVal} {f : Nat} {K : AVal → Option R} (h : evField T t x f K = some r) : ∃ z, K z = some r := by
  unfold evField at h
  repeat' split at h
  all_goals first | cases h; done | exact ⟨_, h⟩

theorem ex_indexAddr {hp : Heap} {t : TypeId} {x i : AVal} {K : AVal → Option R} (h : evIndexAddr T hp t x i K = some r) : ∃ z, K z = some r := by
  unfold evIndexAddr at h
  simp only [need, cond_eq_ite] at h
  repeat' split at h
  all_goals first | cases h; done | exact ⟨_, h⟩

theorem ex_len {hp : Heap} {t : TypeId} {x : AVal} {K : AVal → Option R} (h : evLen T hp t x K = some r) : ∃ z, K z = some r := by
  unfold evLen at h
  simp only [need, cond_eq_ite] at h
  repeat' split at h
  all_goals first | cases h; done | exact ⟨_, h⟩

theorem ex_append {dst : Option Nat} {t : TypeId} {s x : AVal} {st : St} {K : AVal → St → Option R} (h : evAppend T cl dst t s x st K = some r) : ∃ z st', K z st' = some r := by
  unfold evAppend at h
  simp only [need, cond_eq_ite] at h
  repeat' split at h
  all_goals first | cases h; done | exact ⟨_, _, h⟩ | (obtain ⟨_, _, h⟩ := ex_alloc h; exact ⟨_, _, h⟩)

theorem ex_appendS {dst : Option Nat} {t t' : TypeId} {s x : AVal} {st : St} {K : AVal → St → Option R} (h : evAppendS T cl dst t t' s x st K = some r) : ∃ z st', K z st' = some r := by
  unfold evAppendS at h
  simp only [need, cond_eq_ite] at h
  repeat' split at h
  all_goals first | cases h; done | exact ⟨_, _, h⟩ | (obtain ⟨_, _, h⟩ := ex_alloc h; exact ⟨_, _, h⟩)

theorem ex_builtin {o : Oper} {b : Builtin} {ts : List TypeId} {args : List AVal} {st : St} {K : AVal → St → Option R} (h : evBuiltin T cl o b ts args st K = some r) : ∃ z st', K z st' = some r := by
  unfold evBuiltin at h
  simp only [need, cond_eq_ite] at h
  repeat' split at h
  all_goals first | cases h; done | exact ⟨_, _, h⟩ | (obtain ⟨_, h⟩ := ex_len h; exact ⟨_, _, h⟩) | exact ex_append h | exact ex_appendS h

/-- a call of a function of which all is known hands on a value and a state -/
def CallX (sg : FuncId → Option Sum) (call : CallFn R) : Prop := ∀ g s args dst st (K : AVal → St → Option R) r, sg g = some s → call (.fn g []) args dst st K = some r → ∃ z st', K z st' = some r

theorem ex_sum {s : Sum} {args : List AVal} {dst : Option Nat} {st : St} {K : AVal → St → Option R} (h : s.call cl args dst st K = some r) : ∃ z st', K z st' = some r := by
  unfold Sum.call at h
  simp only [cond_eq_ite] at h
  split at h
  · split at h
    · rename_i x hx
      cases hf : s.f x with
      | none => rw [hf] at h; simp [obind] at h
      | some y =>
        rw [hf] at h
        simp only [obind] at h
        repeat' split at h
        all_goals first | cases h; done | exact ⟨_, _, h⟩ | (obtain ⟨_, _, h⟩ := ex_alloc h; exact ⟨_, _, h⟩)
    · cases h
  · cases h

/-- no call, but of a builtin or of a function of which all is known -/
theorem ex_op {call : CallFn R} (hx : CallX sg call) {o : Oper} {st : St} {K : AVal → St → Option R} (hp : plainOp sg o.op = true) (h : evalOp T cl call o st K = some r) : ∃ z st', K z st' = some r := by
  obtain ⟨dst, op, ty, pos, after, guard⟩ := o
  cases op with
  | call c =>
    simp only [evalOp] at h
    simp only [plainOp] at hp
    split at h
    · exact ex_builtin h
    · rename_i f hf
      rw [hf] at hp
      cases f with
      | func g =>
        simp only at hp
        cases hs : sg g with
        | none => rw [hs] at hp; cases hp
        | some s => exact hx g s _ _ _ _ _ hs h
      | _ => simp at hp
    · cases h
  | store t x y =>
    simp only [evalOp] at h
    obtain ⟨_, h⟩ := ex_store h
    obtain ⟨_, h⟩ := ex_cut h
    exact ⟨_, _, h⟩
  | _ =>
    simp only [evalOp, need, cond_eq_ite] at h
    repeat' split at h
    all_goals first
      | cases h; done
      | exact ⟨_, _, h⟩
      | (obtain ⟨_, _, h⟩ := ex_alloc h; exact ⟨_, _, h⟩)
      | (obtain ⟨_, _, h⟩ := ex_alloc h; obtain ⟨_, _, h⟩ := ex_alloc h; exact ⟨_, _, h⟩)
      | (obtain ⟨_, h⟩ := ex_load h; exact ⟨_, _, h⟩)
      | (obtain ⟨_, h⟩ := ex_binH h; exact ⟨_, _, h⟩)
      | (obtain ⟨_, h⟩ := ex_un h; exact ⟨_, _, h⟩)
      | (obtain ⟨_, h⟩ := ex_convert h; exact ⟨_, _, h⟩)
      | (obtain ⟨_, h⟩ := ex_slice h; exact ⟨_, _, h⟩)
      | (obtain ⟨_, h⟩ := ex_fieldAddr h; exact ⟨_, _, h⟩)
      | (obtain ⟨_, h⟩ := ex_field h; exact ⟨_, _, h⟩)
      | (obtain ⟨_, h⟩ := ex_indexAddr h; exact ⟨_, _, h⟩)

theorem callV_x {E : Env} {ex : ExecFn R} : CallX E.sg (callV E ex) := fun g s args dst st K r hs h => by
  simp only [callV, hs] at h
  exact ex_sum h

theorem sumQ_x : CallX (R := R) sg (sumQ sg cl) := fun g s args dst st K r hs h => by
  simp only [sumQ, hs] at h
  exact ex_sum (bif_some h).2

theorem own_plain {o : Op} (h : quietOwn o = true) : plainOp sg o = true := by
  cases o with
  | call c =>
    simp only [quietOwn] at h
    simp only [plainOp]
    split at h <;> simp_all
  | _ => rfl

theorem ex_recheck {call : CallFn R} (hx : CallX sg call) {ops : Array Oper} {old : List AVal} : ∀ (l : List Nat) {st : St} {K : St → Option R}, recheck T cl call ops old l st K = some r → ∃ st', K st' = some r
  | [], st, K, h => ⟨st, h⟩
  | i :: l, st, K, h => by
    simp only [recheck] at h
    split at h
    · rw [cond_eq_ite] at h
      split at h
      · rename_i hq
        obtain ⟨_, _, h⟩ := ex_op hx (own_plain hq) h
        exact ex_recheck hx l (bif_some h).2
      · exact ex_recheck hx l (bif_some h).2
    · cases h

theorem ex_late {call : CallFn R} (hx : CallX sg call) {ops : Array Oper} (hp : ∀ o ∈ ops.toList, plainOp sg o.op = true) {j : Nat} {log : List Nat} {st : St} {K : St → Option R} (h : lateStep T cl call ops j log st K = some r) : ∃ st', K st' = some r := by
  unfold lateStep at h
  split at h
  · rename_i oj hoj
    obtain ⟨_, _, h⟩ := ex_op hx (hp oj (by have := Array.mem_of_getElem? hoj; simpa using this)) (bif_some h).2
    split at h
    · exact ex_recheck hx _ h
    · cases h
  · cases h

theorem obind_some_ex {α β : Type} {o : Option α} {k : α → Option β} {y : β} (h : obind o k = some y) : ∃ x, o = some x ∧ k x = some y := by
  cases o with
  | none => simp [obind] at h
  | some x => exact ⟨x, rfl, h⟩

theorem unitAll_mem {k : Option R} {r : R} : ∀ (l : List (Option Unit)), unitAll l k = some r → k = some r ∧ ∀ x ∈ l, x = some ()
  | [], h => ⟨h, fun _ hx => by cases hx⟩
  | o :: l, h => by
    simp only [unitAll] at h
    obtain ⟨⟨⟩, h1, h2⟩ := obind_some_ex h
    obtain ⟨h3, h4⟩ := unitAll_mem l h2
    exact ⟨h3, fun x hx => by
      rcases List.mem_cons.1 hx with rfl | hx
      · exact h1
      · exact h4 x hx⟩

theorem ex_any {ops : Array Oper} (hp : ∀ o ∈ ops.toList, plainOp sg o.op = true) {callS : CallFn St} {callU : CallFn Unit} (hxS : CallX sg callS) (hxU : CallX sg callU) : ∀ (n : Nat) {R : Type} {r : R} {call : CallFn R}, CallX sg call → ∀ (listed : Array Bool) (log : List Nat) (st : St) (K : St → Option R),
    evalAny T cl sg callS callU ops n call listed log st K = some r → ∃ st', K st' = some r
  | 0, R, r, call, hx, listed, log, st, K, h => by simp [evalAny] at h
  | n + 1, R, r, call, hx, listed, log, st, K, h => by
    have hpi : ∀ {i : Nat} {oi : Oper}, ops[i]? = some oi → plainOp sg oi.op = true := fun {i oi} hoi => hp oi (by have := Array.mem_of_getElem? hoi; simpa using this)
    simp only [evalAny] at h
    split at h
    · exact ⟨st, h⟩
    · split at h
      · split at h
        · rename_i hoi
          obtain ⟨_, _, h⟩ := ex_op hx (hpi hoi) (bif_some h).2
          exact ex_any hp hxS hxU n hx _ _ _ _ h
        · cases h
      · split at h
        · split at h
          · rename_i hoi
            obtain ⟨_, _, h⟩ := ex_op (sumQ_x (sg := sg)) (hpi hoi) (bif_some h).2
            exact ex_any hp hxS hxU n hx _ _ _ _ h
          · cases h
        · split at h
          · obtain ⟨_, h⟩ := ex_late hx hp h
            exact ex_any hp hxS hxU n hx _ _ _ _ h
          · rw [cond_eq_ite] at h
            split at h
            · split at h
              · exact ⟨_, h⟩
              · cases h
            · obtain ⟨_, h⟩ := ex_late hx hp h
              obtain ⟨_, h⟩ := ex_any hp hxS hxU n hx _ _ _ _ h
              replace h := (bif_some h).2
              split at h
              · exact ⟨_, (unitAll_mem _ h).1⟩
              · cases h
end
end Go.Proofs.YtnmaceljkegenaaDoor
