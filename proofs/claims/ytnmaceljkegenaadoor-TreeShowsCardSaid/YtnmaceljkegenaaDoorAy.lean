/-
  The plain machine: such functions are what the calls ask for; what is known of a function, out of a run.
-/
import Derived.Test.YtnmaceljkegenaaDoorAxa
namespace Go.Proofs.YtnmaceljkegenaaDoor
open Go.RowKit
set_option linter.unusedVariables false
set_option linter.unusedSimpArgs false

section
variable {P : Program} {T : TT} {W0 : World} {b0 : Nat} {rd : Option Nat} {R : Type} {r : R} {c : Cx} {ats : List (Array Value)}

/-- a call of a function of which something is known -/
theorem sum_v {g : FuncId} {s : Sum} (hs : SumOk P g s) (cl : Bool) (n : Nat) : CallOk (R := R) P W0 n (sumFn g s cl) := by
  intro b0 rd fv args dst st K r h c a ats fv' args' hr hfv hargs o next Q hn
  cases fv with
  | fn g' caps =>
    simp only [sumFn] at h
    split at h
    · rename_i hg
      subst hg
      simp only [VRel] at hfv
      obtain ⟨vs, rfl, hcaps⟩ := hfv
      have hall := VRels.append_arr hargs hcaps
      obtain ⟨hc, x, y, hx, hy, h2⟩ := sum_some h
      rw [← hr.hp] at hx
      -- which blocks may be written
      obtain ⟨bar, hbar, hdv, hfree⟩ : ∃ bar : Nat → Prop, (∀ b, bar b → b < c.w.heap.size) ∧ DVals (base0 c.w bar) s.ps x (args' ++ vs).toList ∧
          ((s.rs.all fun r => r.1.rigid || (r.2 && r.1.elem.rigid)) = true ∨ bar = fun b => b < c.w.heap.size ∧ ¬ c.free b) := by
        rcases hc with hc | hc
        · refine ⟨fun _ => False, fun b h => h.elim, asAll_rel s.ps _ x _ hx hall fun t v x u _ h1 h2 => as_sees hr.ok (fun b hb => ⟨base0_free.2 ⟨hb, fun h => h⟩, rfl⟩) h1 h2, .inl hc⟩
        · refine ⟨fun b => b < c.w.heap.size ∧ ¬ c.free b, fun b h => h.1, asAll_rel s.ps _ x _ hx hall fun t v x u hm h1 h2 => as_free (fun b hb => ⟨base0_free.2 ⟨hb.1, fun h => h.2 hb⟩, rfl⟩) ?_ h1 h2, .inr rfl⟩
          have := List.any_eq_false.1 hc v hm
          simpa using this
      have key : ∀ e w'', SumPost c.w bar s.rs y e w'' → (match e with
          | .returned v => next (a.put o.dst v) w''
          | .panicked chain => Q (.panic chain) a w''
          | .outgrown => LetsOut Q) := ?_
      · rw [invoke_fn]
        rcases hs c.w bar (args' ++ vs) x y hr.ok.phiw hbar hdv hy with ⟨h3, h4⟩ | ⟨u, h3, h4⟩
        · rw [h3]
          exact ⟨FW_depth rd, (callPost h4).mono fun e w'' he => by
            have := key e w'' he
            cases e <;> exact this⟩
        · rw [h3]
          exact key (.returned u) c.w h4
      rintro e w'' ⟨c', us, rfl, rfl, hok', hb', hm', hhp', hv'⟩
      simp only
      have hext : Ext c c'.w := hok'.bel
      have hmove : ∀ (c2 : Cx), c2.w = c'.w → (∀ b, (c.at_ c'.w).free b → c'.free b → c2.free b) → ((s.rs.all fun r => r.1.rigid || (r.2 && r.1.elem.rigid)) = true ∨ ∀ b, c'.free b → c2.free b) := fun c2 hw hf => by
        rcases hfree with hf1 | hf1
        · exact .inl hf1
        · right
          intro b hb
          exact hf b (sum_free hr.ok hok' (hb'.trans hf1) hb) hb
      rcases h2 with ⟨hn0, hnews, hK⟩ | ⟨e, xs, id, n', hn1, hnews, h5, h6, h7, hK⟩
      · have hr2 := hr.ext hext
        refine hn (c.at_ c'.w) _ _ _ hK hr2 (resA_rel ?_) (Cx.Le.ext hext).mono
        refine vals_move (c' := c') (c2 := c.at_ c'.w) rfl 0 s.rs y us (fun t ht => ?_) (.inl hnews) hv'
        rcases hmove (c.at_ c'.w) rfl (fun b h _ => h) with h8 | h8
        · have := List.all_eq_true.1 h8 t ht
          simp only [Bool.or_eq_true, Bool.and_eq_true] at this
          rcases this with h9 | h9
          · exact .inr (.inl h9)
          · exact .inr (.inr h9.1)
        · exact .inl h8
      · have hobj := hok'.obj 0 (.arr e 0 xs) (by rw [hhp', newHeap, hn1]; simp [hget_cons])
        obtain ⟨hpos, el, zs, hown, hL, htyq⟩ := hobj
        have hk := not_known hr.hp hr.nxt h5 h6
        obtain ⟨u0, hu0⟩ := vals_slc s.rs y us (by omega) hv'
        simp only [VRel] at hu0
        have hget0 : hget c'.hp 0 = some (.arr e 0 xs) := by rw [hhp', newHeap, hn1]; simp [hget_cons]
        have hone : (c'.mu 0).v.oneCell' = true := by
          have := (hu0.2.2 _ _ _ hget0).2 rfl
          simp only [ViewIs] at this
          rw [← this]; exact hu0.1
        have hl : ∀ b, AObj.blk (.arr e 0 xs) ⟨0, (c'.mu 0).v⟩ = some b → c.w.heap.size ≤ b := fun b hb => (World.ownsRow.lt hown b hb).1
        have hle := Cx.Le.push (o := .arr e 0 xs) (l := ⟨0, (c'.mu 0).v⟩) (nxt := n') (w := c'.w) hk (by rw [hr.nxt]; exact h7) hext.size hext.block hl
        have hfree2 := hmove (c.push id (.arr e 0 xs) ⟨0, (c'.mu 0).v⟩ n' c'.w) rfl (fun b hb1 hb2 => ⟨hb1.1, (by
          rintro ⟨j, o, q1, q2⟩
          simp only [Cx.push, hget_cons] at q1 q2
          split at q1
          · rename_i e1
            subst e1
            cases q1
            rw [upd_same] at q2
            exact hb2.2.1 ⟨0, _, hget0, q2⟩
          · rename_i e1
            rw [upd_ne _ _ (Ne.symm e1)] at q2
            exact hb1.2.1 ⟨j, o, q1, q2⟩), hb1.2.2⟩)
        have hown' : c'.w.ownsRow W0.heap.size el e.size (c'.mu 0).v xs.length zs := by
          refine ⟨hown.1, ?_⟩
          rcases hown.2 with h | ⟨g, cap, cur, e1, e2, e3⟩
          · exact .inl h
          · exact .inr ⟨g, cap, cur, e1, Nat.le_trans hr.ok.size e2, e3⟩
        have ho : (c.push id (.arr e 0 xs) ⟨0, (c'.mu 0).v⟩ n' c'.w).ORel W0.heap.size id (.arr e 0 xs) := by
          refine ⟨hpos, el, zs, by simp only [Cx.push, upd_same]; exact hown', LRel.move (c' := c') (c2 := c.push id (.arr e 0 xs) ⟨0, (c'.mu 0).v⟩ n' c'.w) rfl ?_ hL, htyq⟩
          rcases hfree2 with h8 | h8
          · exact .inr (newOf_rigid s.rs y hn1 h8)
          · exact .inl h8
        have hok2 := hr.ok.push hk (by rw [hr.nxt]; exact h7) hext hl ho
        have hd : Did W0 c st (c.push id (.arr e 0 xs) ⟨0, (c'.mu 0).v⟩ n' c'.w) { st with hp := (id, .arr e 0 xs) :: st.hp, nxt := n' } := ⟨by simp [Cx.push, hr.hp], rfl, rfl, rfl, hok2, hle⟩
        refine hn (c.push id (.arr e 0 xs) ⟨0, (c'.mu 0).v⟩ n' c'.w) _ _ _ hK (hr.did hd) (resA_rel ?_) hle.mono
        refine vals_move (c' := c') (c2 := c.push id (.arr e 0 xs) ⟨0, (c'.mu 0).v⟩ n' c'.w) rfl id s.rs y us (fun t ht => ?_) (.inr fun u hu => ?_) hv'
        · rcases hfree2 with h8 | h8
          · have := List.all_eq_true.1 h8 t ht
            simp only [Bool.or_eq_true, Bool.and_eq_true] at this
            rcases this with h9 | h9
            · exact .inr (.inl h9)
            · exact .inr (.inr h9.1)
          · exact .inl h8
        · simp only [VRel] at hu ⊢
          have hu1 := (hu.2.2 _ _ _ hget0).2 rfl
          simp only [ViewIs] at hu1
          subst hu1
          refine ⟨hone, .inl ⟨.arr e 0 xs, by simp [Cx.push, hget_cons]⟩, fun t u xs' h => ?_⟩
          have : AObj.arr e 0 xs = .arr t u xs' := by simpa [Cx.push, hget_cons] using h
          cases this
          exact ⟨Nat.le_refl _, fun _ => by simp [ViewIs, Cx.push, upd_same]⟩
    · cases h
  | _ => simp [sumFn] at h

theorem news_rigid : ∀ (rs : List (Ty × Bool)), (rs.all fun r => !r.2 && r.1.rigid) = true → news rs = 0
  | [], _ => rfl
  | (t, true) :: rs, h => by simp at h
  | (t, false) :: rs, h => by
    simp only [List.all_cons, Bool.and_eq_true] at h
    exact news_rigid rs h.2

theorem sum_q {g : FuncId} {s : Sum} (hs : SumOk P g s) (cl : Bool) (hall : (s.rs.all fun r => !r.2 && r.1.rigid) = true) : QCallOk (R := R) P (sumFn g s cl) := by
  intro W0 b0 rd fv args dst st K r h c a ats fv' args' hr hfv hargs
  cases fv with
  | fn g' caps =>
    simp only [sumFn] at h
    split at h
    · rename_i hg
      subst hg
      simp only [VRel] at hfv
      obtain ⟨vs, rfl, hcaps⟩ := hfv
      have hall2 := VRels.append_arr hargs hcaps
      obtain ⟨hc, x, y, hx, hy, h2⟩ := sum_some h
      rw [← hr.hp] at hx
      rcases h2 with ⟨hn0, hnews, hK⟩ | ⟨e, xs, id, n', hn1, hnews, _⟩
      · have hrig := resA_rigid _ (vals_rigid 0 s.rs y hall)
        refine ⟨_, rv (resA (vals 0 s.rs y)), hK, (rv_iff hrig _).2 rfl, fun w' hw' => ?_⟩
        have hdv : DVals (base0 w' fun _ => False) s.ps x (args' ++ vs).toList := asAll_rel s.ps _ x _ hx hall2 fun t v x u _ h1 h2 => as_sees hr.ok (fun b hb => ⟨base0_free.2 ⟨Nat.lt_of_lt_of_le hb hw'.size, fun h => h⟩, hw'.block b hb⟩) h1 h2
        rcases hs w' (fun _ => False) (args' ++ vs) x y (Phi.below hw' hr.ok.phiw) (fun b h => h.elim) hdv hy with ⟨h3, h4⟩ | ⟨u, h3, h4⟩
        · refine .inl ⟨g', args' ++ vs, by rw [invoke_fn, h3], h4.mono ?_⟩
          rintro e w'' ⟨c', us, rfl, rfl, hok', hb', hm', hhp', hv'⟩
          exact ⟨by rw [(rv_iff hrig _).1 (resA_rel hv')], hw'.trans (hok'.bel.mono hw'.size)⟩
        · obtain ⟨c', us, hu, _, hok', _, _, _, hv'⟩ := h4
          cases hu
          right
          rw [invoke_fn, h3, (rv_iff hrig _).1 (resA_rel hv')]
      · rw [news_rigid _ hall] at hnews; omega
    · cases h
  | _ => simp [sumFn] at h

theorem sums_ok {E : Env} (hT : TOk P E.T) (hb : ∀ g, E.bf g = true → CheckOk P g) (h : ∀ g s, E.sg g = some s → SumOk P g s) (hx : ∀ g s, E.sb g = some s → SumBOk P g s) : SumsOk P E :=
  ⟨hT, fun R W0 n g s hs => sumB_v (hx g s hs) E.cl n, hb, fun R W0 n g s hs => sum_v (h g s hs) E.cl n, fun R g s hs hall => sum_q (h g s hs) E.cl hall⟩

/-! ### out of a run -/

def argVals : (ps : List Ty) → (ps.foldr Ty.pair Ty.unit).den → List AVal
  | [], _ => []
  | t :: ps, x => .val t x.1 :: argVals ps x.2

/-- a cell of a result, without memory of ours -/
def frozen (hp : Heap) : AVal → AVal
  | .val t x => .val t x
  | .nils => .nils
  | .slc id ver vw => match hget hp id with
    | some (.arr e v xs) => bif v == ver then .val (.list e) (viewOf xs vw) else .undef
    | _ => .undef
  | _ => .undef

/-- a result as a datum: where nothing is handed over as new memory, the slices of our own within it become data -/
def AVal.asR (hp : Heap) (own : Bool) (t : Ty) (v : AVal) : Option t.den := bif own then v.as hp t else match v with
  | .agg l => bif t.isAgg then mkAll t (l.map (frozen hp)) else none
  | v => v.as hp t

/-- the results, as data; where some of them is new memory that may be written, the others are not of it -/
def resOf (own : Bool) : (rs : List (Ty × Bool)) → List AVal → Heap → Option ((rs.map (·.1)).foldr Ty.pair Ty.unit).den
  | [], [], _ => some ()
  | (t, false) :: rs, v :: l, hp => match (bif own && (ownArg v && !t.rigid) then none else v.asR hp own t), resOf own rs l hp with
    | some x, some y => some (x, y)
    | _, _ => none
  | (.list e, true) :: rs, .slc id ver none :: l, hp => match hget hp id with
    | some (.arr t u xs) => bif u == ver then (match castTy (.list e) (t' := .list t) xs, resOf own rs l hp with
      | some x, some y => some (x, y)
      | _, _ => none) else none
    | _ => none
  | _, _, _ => none

def resL (n : Nat) (v : AVal) : List AVal :=
  match n, v with
  | 1, v => [v]
  | _, .tup l => l
  | _, _ => [.undef]

/-- what a function computes, by the plain machine -/
def runF (E : Env) (g : FuncId) (ps : List Ty) (rs : List (Ty × Bool)) (x : (ps.foldr Ty.pair Ty.unit).den) : Option ((rs.map (·.1)).foldr Ty.pair Ty.unit).den :=
  exec E 1000000 (.call g (argVals ps x)) ⟨[], [], [], 0⟩ fun v st => resOf (!Nat.beq (news rs) 0) rs (resL rs.length v) st.hp

theorem argVals_rel : ∀ (ps : List Ty) x (us : List Value), DVals c ps x us → VRels c (argVals ps x) us
  | [], x, us, h => by
    simp only [DVals] at h
    subst h
    simp [argVals, VRels]
  | t :: ps, x, us, h => by
    obtain ⟨u, us', rfl, h1, h2⟩ := h
    simp only [argVals, VRels, VRel]
    exact ⟨h1, argVals_rel ps x.2 us' h2⟩

theorem resOf_length {own : Bool} : ∀ (rs : List (Ty × Bool)) (l : List AVal) {hp : Heap}, (resOf own rs l hp).isSome = true → l.length = rs.length
  | [], [], _, _ => rfl
  | [], _ :: _, _, h => by simp [resOf] at h
  | (t, false) :: rs, [], _, h => by simp [resOf] at h
  | (t, false) :: rs, v :: l, hp, h => by
    simp only [resOf] at h
    split at h
    · rename_i h2
      simp [resOf_length rs l (hp := hp) (by rw [h2]; rfl)]
    · cases h
  | (t, true) :: rs, [], _, h => by cases t <;> simp [resOf] at h
  | (t, true) :: rs, v :: l, hp, h => by
    cases t with
    | list e =>
      cases v with
      | slc id ver vw =>
        cases vw with
        | none =>
          simp only [resOf] at h
          split at h
          · rw [cond_eq_ite] at h
            split at h
            · split at h
              · rename_i h2
                simp [resOf_length rs l (hp := hp) (by rw [h2]; rfl)]
              · cases h
            · cases h
          · cases h
        | some p => simp [resOf] at h
      | _ => simp [resOf] at h
    | _ => simp [resOf] at h

theorem resL_rel {own : Bool} {v : AVal} {u : Value} {rs : List (Ty × Bool)} {hp : Heap} (h : (resOf own rs (resL rs.length v) hp).isSome = true) (hv : VRel c v u) : ∃ us, u = resV us ∧ VRels c (resL rs.length v) us := by
  match rs, h with
  | [t], h => exact ⟨[u], rfl, by simpa [resL, VRels] using hv⟩
  | [], h =>
    cases v with
    | tup l =>
      simp only [List.length_nil, resL] at h ⊢
      cases l with
      | nil =>
        simp only [VRel] at hv
        obtain ⟨vs, rfl, h1⟩ := hv
        have : vs = #[] := by
          have := VRels.length _ _ h1
          exact Array.eq_empty_of_size_eq_zero (by simpa using this.symm)
        subst this
        exact ⟨[], rfl, by simp [VRels]⟩
      | cons _ _ => simp [resOf] at h
    | _ => simp [resL, resOf] at h
  | t1 :: t2 :: rs, h =>
    cases v with
    | tup l =>
      simp only [VRel] at hv
      obtain ⟨vs, rfl, h1⟩ := hv
      have hl := VRels.length _ _ h1
      have hlen : l.length = (t1 :: t2 :: rs).length := resOf_length _ _ h
      simp only [List.length_cons, resL]
      refine ⟨vs.toList, ?_, h1⟩
      cases hvs : vs.toList with
      | nil => rw [hvs, hlen] at hl; simp only [List.length_cons, List.length_nil] at hl; omega
      | cons v1 r1 =>
        cases r1 with
        | nil => rw [hvs, hlen] at hl; simp only [List.length_cons, List.length_nil] at hl; omega
        | cons v2 r2 => simp only [resV]; rw [← hvs]
    | _ =>
      exfalso
      have := resOf_length _ _ h
      simp [resL] at this
end
end Go.Proofs.YtnmaceljkegenaaDoor
