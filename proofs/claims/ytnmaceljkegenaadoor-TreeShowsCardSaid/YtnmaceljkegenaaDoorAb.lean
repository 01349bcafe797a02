/-
  The plain machine and the model's: what a plain value says of a value.
-/
import Derived.Test.YtnmaceljkegenaaDoorAa
import Derived.Test.YtnmaceljkegenaaDoorProg
import Derived.WalkKit
import Derived.WalkSmall
import Derived.Below
import Derived.Laws.AppendOwn
namespace Go.Proofs.YtnmaceljkegenaaDoor
open Go.RowKit
set_option linter.unusedVariables false
set_option linter.unusedSimpArgs false

/-- the types of bytes, and of builders of texts -/
def byteTy : TypeId := 5
def bldTy : TypeId := 37

/-- the ranges over functions in a text, by the first region of what they do -/
def rfOf : Code → Nat → Option (Code × Code)
  | .rangeFunc _ _ asg bd, k => if firstRegion bd = k then some (asg, bd) else match rfOf asg k with
    | some x => some x
    | none => rfOf bd k
  | .seq a b, k => match rfOf a k with
    | some x => some x
    | none => rfOf b k
  | .cond _ a b, k => match rfOf a k with
    | some x => some x
    | none => rfOf b k
  | .block _ c, k => rfOf c k
  | .loop c, k => rfOf c k
  | .scope c, k => rfOf c k
  | _, _ => none

def rfAt (P : Program) (f : FuncId) (k : Nat) : Option (Code × Code) :=
  match P.funcs[f]? with
  | some fn => match fn.body with
    | some c => rfOf c k
    | none => none
  | none => none

/-- those of this program -/
noncomputable def rfTab (f : FuncId) (k : Nat) : Option (Code × Code) := rfAt Tryd.prog f k

/-- cells that stand one behind the other -/
def CellsAt (w : World) (b o : Nat) (zs : List Value) : Prop := ∀ j (h : j < zs.length), w.cell? ⟨b, o + j, none⟩ = some zs[j]

theorem CellsAt.of_block {w w' : World} {b o : Nat} {zs : List Value} (h : CellsAt w b o zs) (hb : w'.heap[b]? = w.heap[b]?) : CellsAt w' b o zs :=
  fun j hj => (World.cell?_of_block (w := w) (a := ⟨b, o + j, none⟩) hb).trans (h j hj)

theorem CellsAt.append {w : World} {b o : Nat} {xs ys : List Value} : CellsAt w b o (xs ++ ys) ↔ CellsAt w b o xs ∧ CellsAt w b (o + xs.length) ys := by
  constructor
  · intro h
    refine ⟨fun j hj => ?_, fun j hj => ?_⟩
    · have := h j (by simp; omega)
      rw [this, List.getElem_append_left hj]
    · have := h (xs.length + j) (by simp; omega)
      rw [List.getElem_append_right (by omega)] at this
      simp only [Nat.add_sub_cancel_left] at this
      rw [Nat.add_assoc]; exact this
  · rintro ⟨h1, h2⟩ j hj
    rcases Nat.lt_or_ge j xs.length with h | h
    · rw [List.getElem_append_left h]; exact h1 j h
    · rw [List.getElem_append_right h]
      have := h2 (j - xs.length) (by simp at hj; omega)
      rw [← this]; congr 2; omega

/-- rows of cells, one for each element -/
def LRel {α : Type} (R : α → List Value → Prop) (size : Nat) : List α → List Value → Prop
  | [], zs => zs = []
  | x :: xs, zs => ∃ c rest, zs = c ++ rest ∧ c.length = size ∧ R x c ∧ LRel R size xs rest

theorem LRel.mono {α : Type} {R R' : α → List Value → Prop} {size : Nat} (h : ∀ x c, R x c → R' x c) : ∀ (xs : List α) (zs : List Value), LRel R size xs zs → LRel R' size xs zs
  | [], _, hh => hh
  | _ :: xs, _, ⟨c, rest, h1, h2, h3, h4⟩ => ⟨c, rest, h1, h2, h _ _ h3, LRel.mono h xs rest h4⟩

theorem LRel.length {α : Type} {R : α → List Value → Prop} {size : Nat} : ∀ (xs : List α) (zs : List Value), LRel R size xs zs → zs.length = xs.length * size
  | [], _, hh => by cases hh; simp
  | _ :: xs, _, ⟨c, rest, h1, h2, h3, h4⟩ => by
    subst h1
    simp only [List.length_append, List.length_cons, h2, LRel.length xs rest h4, Nat.add_mul, Nat.one_mul]
    omega

theorem LRel.append {α : Type} {R : α → List Value → Prop} {size : Nat} : ∀ (xs : List α) (zs : List Value) (ys : List α) (us : List Value), LRel R size xs zs → LRel R size ys us → LRel R size (xs ++ ys) (zs ++ us)
  | [], _, ys, us, hh, h => by cases hh; exact h
  | x :: xs, _, ys, us, ⟨c, rest, h1, h2, h3, h4⟩, h => by
    subst h1
    exact ⟨c, rest ++ us, by simp, h2, h3, LRel.append xs rest ys us h4 h⟩

theorem LRel.take {α : Type} {R : α → List Value → Prop} {size : Nat} : ∀ (k : Nat) (xs : List α) (zs : List Value), LRel R size xs zs → LRel R size (xs.take k) (zs.take (k * size))
  | 0, _, _, _ => by simp [LRel]
  | k + 1, [], _, hh => by cases hh; simp [LRel]
  | k + 1, x :: xs, _, ⟨c, rest, h1, h2, h3, h4⟩ => by
    subst h1
    refine ⟨c, rest.take (k * size), ?_, h2, h3, LRel.take k xs rest h4⟩
    rw [List.take_append, List.take_of_length_le (by rw [h2, Nat.add_mul]; omega), h2, Nat.add_mul]
    congr 2; omega

theorem LRel.drop {α : Type} {R : α → List Value → Prop} {size : Nat} : ∀ (k : Nat) (xs : List α) (zs : List Value), LRel R size xs zs → LRel R size (xs.drop k) (zs.drop (k * size))
  | 0, _, _, h => by simpa using h
  | k + 1, [], _, hh => by cases hh; simp [LRel]
  | k + 1, x :: xs, _, ⟨c, rest, h1, h2, h3, h4⟩ => by
    subst h1
    have : (c ++ rest).drop ((k + 1) * size) = rest.drop (k * size) := by
      rw [List.drop_append, List.drop_of_length_le (by rw [h2, Nat.add_mul]; omega), List.nil_append, h2, Nat.add_mul]
      congr 1; omega
    rw [this, List.drop_succ_cons]
    exact LRel.drop k xs rest h4

/-- the cells of one element -/
theorem LRel.at_ {α : Type} {R : α → List Value → Prop} {size : Nat} : ∀ (i : Nat) (xs : List α) (zs : List Value) (hi : i < xs.length), LRel R size xs zs →
    ∃ c, c.length = size ∧ R xs[i] c ∧ ∃ l1 l2, zs = l1 ++ c ++ l2 ∧ l1.length = i * size
  | i, [], _, hi, _ => by simp at hi
  | 0, x :: xs, _, _, ⟨c, rest, h1, h2, h3, h4⟩ => ⟨c, h2, h3, [], rest, by simp [h1], by simp⟩
  | i + 1, x :: xs, _, hi, ⟨c, rest, h1, h2, h3, h4⟩ => by
    obtain ⟨c', e1, e2, l1, l2, e3, e4⟩ := LRel.at_ i xs rest (by simpa using hi) h4
    refine ⟨c', e1, e2, c ++ l1, l2, by rw [h1, e3]; simp, ?_⟩
    rw [List.length_append, e4, h2, Nat.add_mul]; omega

theorem LRel.set {α : Type} {R : α → List Value → Prop} {size : Nat} (y : α) (d : List Value) (hd : d.length = size) (hy : R y d) : ∀ (i : Nat) (xs : List α) (l1 c l2 : List Value),
    i < xs.length → LRel R size xs (l1 ++ c ++ l2) → l1.length = i * size → c.length = size → LRel R size (xs.set i y) (l1 ++ d ++ l2)
  | i, [], _, _, _, hi, _, _, _ => by simp at hi
  | 0, x :: xs, l1, c, l2, _, ⟨c0, rest, h1, h2, h3, h4⟩, hl, hc => by
    have : l1 = [] := List.eq_nil_of_length_eq_zero (by simpa using hl)
    subst this
    simp only [List.nil_append] at h1 ⊢
    obtain ⟨e1, e2⟩ := List.append_inj h1 (by rw [hc, h2])
    subst e2
    exact ⟨d, l2, rfl, hd, hy, h4⟩
  | i + 1, x :: xs, l1, c, l2, hi, ⟨c0, rest, h1, h2, h3, h4⟩, hl, hc => by
    have hl' : size ≤ l1.length := by rw [hl, Nat.add_mul]; omega
    have e0 : l1 = l1.take size ++ l1.drop size := (List.take_append_drop size l1).symm
    rw [e0, List.append_assoc, List.append_assoc] at h1
    obtain ⟨e1, e2⟩ := List.append_inj h1 (by rw [List.length_take, h2]; omega)
    have := LRel.set y d hd hy i xs (l1.drop size) c l2 (by simpa using hi) (by rw [List.append_assoc, e2]; exact h4) (by rw [List.length_drop, hl, Nat.add_mul]; omega) hc
    refine ⟨c0, l1.drop size ++ d ++ l2, ?_, h2, h3, this⟩
    conv => lhs; rw [e0]
    rw [e1]; simp

/-- what a datum says of cells; fr: blocks that are never written -/
def DRel (w : World) (fr : Nat → Prop) : (t : Ty) → t.den → List Value → Prop
  | .unit, _, cs => cs = []
  | .bool, x, cs => cs = [.bool x]
  | .int k, x, cs => cs = [.int k x]
  | .str, x, cs => cs = [.string ⟨x.toArray⟩]
  | .list t, xs, cs => ∃ a c zs, cs = [.slice a xs.length c] ∧ xs.length ≤ c ∧ LRel (DRel w fr t) t.size xs zs ∧ (zs = [] ∨ ∃ b off, a = some ⟨b, off, none⟩ ∧ fr b ∧ CellsAt w b off zs)
  | .pair a b, x, cs => ∃ l1 l2, cs = l1 ++ l2 ∧ DRel w fr a x.1 l1 ∧ DRel w fr b x.2 l2

theorem DRel.mono {w w' : World} {fr fr' : Nat → Prop} (h : ∀ b, fr b → fr' b ∧ w'.heap[b]? = w.heap[b]?) : ∀ (t : Ty) (x : t.den) (cs : List Value), DRel w fr t x cs → DRel w' fr' t x cs
  | .unit, _, _, hh => hh
  | .bool, _, _, hh => hh
  | .int _, _, _, hh => hh
  | .str, _, _, hh => hh
  | .list t, xs, _, ⟨a, c, zs, h1, h2, h3, h4⟩ => ⟨a, c, zs, h1, h2, LRel.mono (DRel.mono h t) xs zs h3, h4.imp id fun ⟨b, off, e1, e2, e3⟩ => ⟨b, off, e1, (h b e2).1, e3.of_block (h b e2).2⟩⟩
  | .pair a b, x, _, ⟨l1, l2, h1, h2, h3⟩ => ⟨l1, l2, h1, DRel.mono h a x.1 l1 h2, DRel.mono h b x.2 l2 h3⟩

theorem DRel.length {w : World} {fr : Nat → Prop} : ∀ (t : Ty) (x : t.den) (cs : List Value), DRel w fr t x cs → cs.length = t.size
  | .unit, _, _, hh => by cases hh; rfl
  | .bool, _, _, hh => by cases hh; rfl
  | .int _, _, _, hh => by cases hh; rfl
  | .str, _, _, hh => by cases hh; rfl
  | .list t, xs, _, ⟨a, c, zs, h1, _⟩ => by subst h1; rfl
  | .pair a b, x, _, ⟨l1, l2, h1, h2, h3⟩ => by subst h1; simp [Ty.size, DRel.length a x.1 l1 h2, DRel.length b x.2 l2 h3]

theorem DRel.one {w : World} {fr : Nat → Prop} : ∀ (t : Ty) (x : t.den) (cs : List Value), DRel w fr t x cs → ∀ v ∈ cs, v.oneCell' = true
  | .unit, _, _, hh => by cases hh; simp
  | .bool, _, _, hh => by cases hh; simp [Value.oneCell']
  | .int _, _, _, hh => by cases hh; simp [Value.oneCell']
  | .str, _, _, hh => by cases hh; simp [Value.oneCell']
  | .list t, xs, _, ⟨a, c, zs, h1, _⟩ => by subst h1; simp [Value.oneCell']
  | .pair a b, x, _, ⟨l1, l2, h1, h2, h3⟩ => by
    subst h1
    intro v hv
    rcases List.mem_append.1 hv with hv | hv
    · exact DRel.one a x.1 l1 h2 v hv
    · exact DRel.one b x.2 l2 h3 v hv

structure Loc where
  blk : Nat
  v : Value

/-- where the things of the plain memory lie -/
structure Cx where
  mu : Nat → Loc
  hp : Heap
  nxt : Nat
  w : World
  /-- the marks of ranges over functions -/
  mks : List Nat
  /-- blocks of others that may be written -/
  bar : Nat → Prop

def AObj.blk : AObj → Loc → Option Nat
  | .box _ _, l => some l.blk
  | .arr _ _ _, l => l.v.ownBlock
  | .lp _ _ _ _ _ _ _ _, l => some l.blk
  | .dead, _ => none
  | .mp _ _ _, l => some l.blk

def Cx.own (c : Cx) (b : Nat) : Prop := ∃ id o, hget c.hp id = some o ∧ o.blk (c.mu id) = some b
def Cx.free (c : Cx) (b : Nat) : Prop := b < c.w.heap.size ∧ ¬ c.own b ∧ b ∉ c.mks ∧ ¬ c.bar b
/-- blocks of others -/
def Cx.out (c : Cx) (b : Nat) : Prop := b < c.w.heap.size ∧ ¬ c.own b ∧ b ∉ c.mks
def Cx.known (c : Cx) (id : Nat) : Prop := (∃ o, hget c.hp id = some o) ∨ id < c.nxt

/-- a datum as a value -/
def VD (c : Cx) (t : Ty) (x : t.den) (v : Value) : Prop :=
  (t.isAgg = true → ∃ cs, v = .agg cs ∧ DRel c.w c.free t x cs.toList) ∧ (t.isAgg = false → DRel c.w c.free t x [v])

def ViewIs (size : Nat) (s : Value) : Option (Int × Int) → Value → Prop
  | none, v => v = s
  | some (lo, hi), v => ∃ a n c, s = .slice a n c ∧ 0 ≤ lo ∧ lo ≤ hi ∧ hi ≤ n ∧ v = .slice (if c = lo.toNat then a else a.map (·.add (lo.toNat * size))) (hi.toNat - lo.toNat) (c - lo.toNat)

mutual
/-- what a plain value says of a value -/
def VRel (c : Cx) : AVal → Value → Prop
  | .undef, _ => True
  | .val t x, v => VD c t x v
  | .nils, v => v = .slice none 0 0
  | .emp, v => ∃ a, v = .slice a 0 0
  | .lst e xs b, v => VD c (.list e) xs v ∧ ∃ a n m, v = .slice a n m ∧ b = a.isNone
  | .nilp, v => v = .pointer none
  | .nilfn, v => v = .nilFunc
  | .tup l, v => ∃ vs, v = .tuple vs ∧ VRels c l vs.toList
  | .agg l, v => ∃ vs, v = .agg vs ∧ VRels c l vs.toList ∧ ∀ u ∈ vs.toList, u.oneCell' = true
  | .cellp t x, v => ∃ b o zs, v = .pointer (some ⟨b, o, none⟩) ∧ c.free b ∧ CellsAt c.w b o zs ∧ DRel c.w c.free t x zs
  | .ptr id off, v => v.oneCell' = true ∧ c.known id ∧ ∀ t cs, hget c.hp id = some (.box t cs) → v = .pointer (some ⟨(c.mu id).blk, off, none⟩)
  | .slf id, v => v.oneCell' = true ∧ c.known id ∧ ∀ t cs, hget c.hp id = some (.box t cs) → v = .pointer none ∨ v = .pointer (some ⟨(c.mu id).blk, 0, none⟩)
  | .sd id ver, v => v.oneCell' = true ∧ c.known id ∧ ∀ t u xs, hget c.hp id = some (.arr t u xs) → ver ≤ u ∧ (u = ver → (∃ p, v = .pointer p) ∧ ∀ a n cp, (c.mu id).v = .slice a n cp → n ≠ 0 → v = .pointer a)
  | .slc id ver vw, v => v.oneCell' = true ∧ c.known id ∧ ∀ t u xs, hget c.hp id = some (.arr t u xs) → ver ≤ u ∧ (u = ver → ViewIs t.size (c.mu id).v vw v)
  | .ep id ver i off, v => v.oneCell' = true ∧ c.known id ∧ ∀ t u xs, hget c.hp id = some (.arr t u xs) → ver ≤ u ∧ (u = ver → ∃ g n cp, (c.mu id).v = .slice (some ⟨g, 0, none⟩) n cp ∧ v = .pointer (some ⟨g, i * t.size + off, none⟩))
  | .fn f l, v => ∃ vs, v = .func (.func f) #[] vs ∧ VRels c l vs.toList
  | .mfn f l, v => ∃ vs, v = .func (.func f) vs #[] ∧ VRels c l vs.toList
  | .mpv id, v => v.oneCell' = true ∧ c.known id ∧ ∀ kk vk es, hget c.hp id = some (.mp kk vk es) → v = .map (some (c.mu id).blk)
  | .yld id, v => v.oneCell' = true ∧ c.known id ∧ ∀ f fr ps asg bd ky n p, hget c.hp id = some (.lp f fr ps asg bd ky n p) → v = .func (.yield (c.mu id).blk) #[] #[]
def VRels (c : Cx) : List AVal → List Value → Prop
  | [], [] => True
  | v :: l, x :: xs => VRel c v x ∧ VRels c l xs
  | _, _ => False
end

/-- is a thing the one that it was? -/
def AObj.like : AObj → Loc → AObj → Loc → Prop
  | .box _ _, l, .box _ _, l' => l'.blk = l.blk
  | .lp _ _ _ _ _ _ _ _, l, .lp _ _ _ _ _ _ _ _, l' => l'.blk = l.blk
  | .mp _ _ _, l, .mp _ _ _, l' => l'.blk = l.blk
  | _, _, .dead, _ => True
  | .arr t v _, l, .arr t' v' _, l' => v ≤ v' ∧ (v = v' → t = t' ∧ l'.v = l.v)
  | _, _, _, _ => False

/-- what was said of values is still true -/
structure Cx.Le0 (c c' : Cx) : Prop where
  out : ∀ b, c.out b → c'.out b ∧ c'.w.heap[b]? = c.w.heap[b]?
  ref : ∀ id, c.known id → c'.known id
  obj : ∀ id o', c.known id → hget c'.hp id = some o' → ∃ o, hget c.hp id = some o ∧ o.like (c.mu id) o' (c'.mu id)
  bar : c'.bar = c.bar

/-- what was said is still true -/
structure Cx.Le (c c' : Cx) : Prop where
  out : ∀ b, c.out b → c'.out b ∧ c'.w.heap[b]? = c.w.heap[b]?
  ref : ∀ id, c.known id → c'.known id
  obj : ∀ id o', c.known id → hget c'.hp id = some o' → ∃ o, hget c.hp id = some o ∧ o.like (c.mu id) o' (c'.mu id)
  mks : ∀ r, r ∈ c.mks → r ∈ c'.mks
  lp : ∀ (b : Nat) (L : Loop), c.w.heap[b]? = some (Obj.loop L) → ∃ L' : Loop, c'.w.heap[b]? = some (Obj.loop L')
  size : c.w.heap.size ≤ c'.w.heap.size
  bar : c'.bar = c.bar

theorem Cx.Le0.free {c c' : Cx} (h : c.Le0 c') (b : Nat) (hb : c.free b) : c'.free b ∧ c'.w.heap[b]? = c.w.heap[b]? :=
  let ⟨⟨h1, h2, h3⟩, h4⟩ := h.out b ⟨hb.1, hb.2.1, hb.2.2.1⟩
  ⟨⟨h1, h2, h3, by rw [h.bar]; exact hb.2.2.2⟩, h4⟩

theorem Cx.Le.free {c c' : Cx} (h : c.Le c') (b : Nat) (hb : c.free b) : c'.free b ∧ c'.w.heap[b]? = c.w.heap[b]? :=
  let ⟨⟨h1, h2, h3⟩, h4⟩ := h.out b ⟨hb.1, hb.2.1, hb.2.2.1⟩
  ⟨⟨h1, h2, h3, by rw [h.bar]; exact hb.2.2.2⟩, h4⟩

theorem AObj.like_refl (o : AObj) (l : Loc) : o.like l o l := by cases o <;> simp [AObj.like]

theorem AObj.like_trans {a b d : AObj} {l m n : Loc} (h : a.like l b m) (k : b.like m d n) : a.like l d n := by
  cases d with
  | dead => cases a <;> simp [AObj.like]
  | arr t'' v'' xs'' =>
    cases b with
    | arr t' v' xs' =>
      cases a with
      | arr t v xs =>
        simp only [AObj.like] at h k ⊢
        refine ⟨Nat.le_trans h.1 k.1, fun e => ?_⟩
        have h1 := h.1
        have h2 := k.1
        obtain ⟨a1, a2⟩ := h.2 (by omega)
        obtain ⟨b1, b2⟩ := k.2 (by omega)
        exact ⟨a1.trans b1, b2.trans a2⟩
      | _ => simp [AObj.like] at h
    | _ => simp [AObj.like] at k
  | box _ _ => cases b <;> cases a <;> simp_all [AObj.like]
  | lp _ _ _ _ _ _ _ _ => cases b <;> cases a <;> simp_all [AObj.like]
  | mp _ _ _ => cases b <;> cases a <;> simp_all [AObj.like]

theorem Cx.Le.refl (c : Cx) : c.Le c := ⟨fun _ h => ⟨h, rfl⟩, fun _ h => h, fun id o h ho => ⟨o, ho, o.like_refl _⟩, fun _ h => h, fun b L h => ⟨L, h⟩, Nat.le_refl _, rfl⟩

theorem VD.le0 {c c' : Cx} (h : c.Le0 c') {t : Ty} {x : t.den} {v : Value} (hv : VD c t x v) : VD c' t x v :=
  ⟨fun e => let ⟨cs, h1, h2⟩ := hv.1 e; ⟨cs, h1, DRel.mono h.free t x _ h2⟩, fun e => DRel.mono h.free t x _ (hv.2 e)⟩

mutual
theorem VRel.le0 {c c' : Cx} (h : c.Le0 c') : ∀ (v : AVal) (x : Value), VRel c v x → VRel c' v x
  | .undef, _, _ => by simp [VRel]
  | .val t x, v, hv => by simp only [VRel] at hv ⊢; exact hv.le0 h
  | .nils, _, hv => by simpa only [VRel] using hv
  | .emp, _, hv => by simpa only [VRel] using hv
  | .lst e xs b, v, hv => by simp only [VRel] at hv ⊢; exact ⟨hv.1.le0 h, hv.2⟩
  | .nilp, _, hv => by simpa only [VRel] using hv
  | .nilfn, _, hv => by simpa only [VRel] using hv
  | .tup l, v, hv => by simp only [VRel] at hv ⊢; obtain ⟨vs, h1, h2⟩ := hv; exact ⟨vs, h1, VRels.le0 h l _ h2⟩
  | .agg l, v, hv => by simp only [VRel] at hv ⊢; obtain ⟨vs, h1, h2, h3⟩ := hv; exact ⟨vs, h1, VRels.le0 h l _ h2, h3⟩
  | .cellp t x, v, hv => by
    simp only [VRel] at hv ⊢
    obtain ⟨b, o, zs, h1, h2, h3, h4⟩ := hv
    exact ⟨b, o, zs, h1, (h.free b h2).1, h3.of_block (h.free b h2).2, DRel.mono h.free t x _ h4⟩
  | .ptr id off, v, hv => by
    simp only [VRel] at hv ⊢
    obtain ⟨hone, hv⟩ := hv
    refine ⟨hone, h.ref id hv.1, fun t cs hc => ?_⟩
    obtain ⟨o, h1, h2⟩ := h.obj id _ hv.1 hc
    cases o <;> simp only [AObj.like] at h2
    rw [h2]; exact hv.2 _ _ h1
  | .slf id, v, hv => by
    simp only [VRel] at hv ⊢
    obtain ⟨hone, hv⟩ := hv
    refine ⟨hone, h.ref id hv.1, fun t cs hc => ?_⟩
    obtain ⟨o, h1, h2⟩ := h.obj id _ hv.1 hc
    cases o <;> simp only [AObj.like] at h2
    rw [h2]; exact hv.2 _ _ h1
  | .sd id ver, v, hv => by
    simp only [VRel] at hv ⊢
    obtain ⟨hone, hv⟩ := hv
    refine ⟨hone, h.ref id hv.1, fun t u xs hc => ?_⟩
    obtain ⟨o, h1, h2⟩ := h.obj id _ hv.1 hc
    cases o with
    | arr t' v' xs' =>
      simp only [AObj.like] at h2
      have h3 := hv.2 _ _ _ h1
      have := h2.1
      refine ⟨by omega, fun e => ?_⟩
      obtain ⟨e1, e2⟩ := h2.2 (by omega)
      rw [e2]; exact h3.2 (by omega)
    | box _ _ => simp [AObj.like] at h2
    | lp _ _ _ _ _ _ _ _ => simp [AObj.like] at h2
    | dead => simp [AObj.like] at h2
    | mp _ _ _ => simp [AObj.like] at h2
  | .slc id ver vw, v, hv => by
    simp only [VRel] at hv ⊢
    obtain ⟨hone, hv⟩ := hv
    refine ⟨hone, h.ref id hv.1, fun t u xs hc => ?_⟩
    obtain ⟨o, h1, h2⟩ := h.obj id _ hv.1 hc
    cases o with
    | arr t' v' xs' =>
      simp only [AObj.like] at h2
      have h3 := hv.2 _ _ _ h1
      have := h2.1
      refine ⟨by omega, fun e => ?_⟩
      obtain ⟨e1, e2⟩ := h2.2 (by omega)
      rw [e2, ← e1]; exact h3.2 (by omega)
    | box _ _ => simp [AObj.like] at h2
    | lp _ _ _ _ _ _ _ _ => simp [AObj.like] at h2
    | dead => simp [AObj.like] at h2
    | mp _ _ _ => simp [AObj.like] at h2
  | .ep id ver i off, v, hv => by
    simp only [VRel] at hv ⊢
    obtain ⟨hone, hv⟩ := hv
    refine ⟨hone, h.ref id hv.1, fun t u xs hc => ?_⟩
    obtain ⟨o, h1, h2⟩ := h.obj id _ hv.1 hc
    cases o with
    | arr t' v' xs' =>
      simp only [AObj.like] at h2
      have h3 := hv.2 _ _ _ h1
      have := h2.1
      refine ⟨by omega, fun e => ?_⟩
      obtain ⟨e1, e2⟩ := h2.2 (by omega)
      rw [e2, ← e1]; exact h3.2 (by omega)
    | box _ _ => simp [AObj.like] at h2
    | lp _ _ _ _ _ _ _ _ => simp [AObj.like] at h2
    | dead => simp [AObj.like] at h2
    | mp _ _ _ => simp [AObj.like] at h2
  | .fn f l, v, hv => by simp only [VRel] at hv ⊢; obtain ⟨vs, h1, h2⟩ := hv; exact ⟨vs, h1, VRels.le0 h l _ h2⟩
  | .mfn f l, v, hv => by simp only [VRel] at hv ⊢; obtain ⟨vs, h1, h2⟩ := hv; exact ⟨vs, h1, VRels.le0 h l _ h2⟩
  | .mpv id, v, hv => by
    simp only [VRel] at hv ⊢
    obtain ⟨hone, hv⟩ := hv
    refine ⟨hone, h.ref id hv.1, fun kk vk es hc => ?_⟩
    obtain ⟨o, h1, h2⟩ := h.obj id _ hv.1 hc
    cases o <;> simp only [AObj.like] at h2
    rw [h2]; exact hv.2 _ _ _ h1
  | .yld id, v, hv => by
    simp only [VRel] at hv ⊢
    obtain ⟨hone, hv⟩ := hv
    refine ⟨hone, h.ref id hv.1, fun f fr ps asg bd ky n p hc => ?_⟩
    obtain ⟨o, h1, h2⟩ := h.obj id _ hv.1 hc
    cases o <;> simp only [AObj.like] at h2
    rw [h2]; exact hv.2 _ _ _ _ _ _ _ _ h1
theorem VRels.le0 {c c' : Cx} (h : c.Le0 c') : ∀ (l : List AVal) (xs : List Value), VRels c l xs → VRels c' l xs
  | [], [], _ => by simp [VRels]
  | v :: l, x :: xs, hv => by simp only [VRels] at hv ⊢; exact ⟨VRel.le0 h v x hv.1, VRels.le0 h l xs hv.2⟩
  | [], _ :: _, hv => by simp [VRels] at hv
  | _ :: _, [], hv => by simp [VRels] at hv
end

theorem Cx.Le.le0 {c c' : Cx} (h : c.Le c') : c.Le0 c' := ⟨h.out, h.ref, h.obj, h.bar⟩
theorem VD.le {c c' : Cx} (h : c.Le c') {t : Ty} {x : t.den} {v : Value} (hv : VD c t x v) : VD c' t x v := hv.le0 h.le0
theorem VRel.le {c c' : Cx} (h : c.Le c') (v : AVal) (x : Value) (hv : VRel c v x) : VRel c' v x := VRel.le0 h.le0 v x hv
theorem VRels.le {c c' : Cx} (h : c.Le c') (l : List AVal) (xs : List Value) (hv : VRels c l xs) : VRels c' l xs := VRels.le0 h.le0 l xs hv
end Go.Proofs.YtnmaceljkegenaaDoor
