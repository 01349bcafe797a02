/-
  Words for memory: an append of one element onto a row of the call's own; a slice that reads as a list.
-/
import Derived.Test.YtkbdgokmcdopgaaProg
import Derived.BigQuiet
import Derived.WalkKit
import Derived.WalkSmall
import Derived.Below
import Derived.Maps.AppendAt
import Derived.Deep.QuietTactic
namespace Go.Proofs.Ytkbdgokmcdopgaa
open Go.RowKit
set_option linter.unusedVariables false
set_option linter.unusedSimpArgs false

theorem below_grown_alloc {B : Nat} {w0 wr w1 : World} {v : Value} {e : TypeId} {size n : Nat} {xs : List Value} {o : Obj} (hb : Below B w0 wr) (hB : B ≤ wr.heap.size) (hown : wr.ownsRow B e size v n xs) (hg : (wr.alloc o).grownBy w1 v.ownBlock) : Below B w0 w1 :=
  (hb.alloc hB o).grown hg (by simp; omega) fun k hk => (hown.lt k hk).1

theorem grown_of_alloc {wr w1 : World} {row : Option Nat} {o : Obj} (hg : (wr.alloc o).grownBy w1 row) : wr.grownBy w1 row :=
  ⟨hg.os, hg.tape, hg.output, by have := hg.size; simp at this; omega, fun k hk hne => by
    rw [hg.block k (by simp; omega) hne]; exact Below.heap_alloc wr o k hk⟩

/-- APPEND OF ONE ELEMENT onto a row of the call's own (nil, too). -/
theorem wpl_app1 {P : Program} {ops : Array Oper} {rest : List Oper} {o : Oper} {a : Act} {Q : Exit → Act → World → Prop} (hgd : o.guard = none) (s x : Operand) (t : TypeId)
    (ho : o.op = .call { callee := .builtin .append, args := #[s, x], argTypes := #[t, t] })
    {e : TypeId} {i : TypeInfo} {z : Value} {size bytes : Nat} (ht : P.underlying t = some (.slice e)) (hi : P.info? e = some i) (hz : i.zero = some z)
    (hsize : i.size = size) (hby : i.bytes = bytes) (hzs : z.cells.size = size) (hsz : 0 < size)
    {B : Nat} {w0 wr : World} {v : Value} {n : Nat} {xs : List Value} (hs : a.eval s = v) (hown : wr.ownsRow B e size v n xs) (hb : Below B w0 wr) (hB : B ≤ wr.heap.size)
    (news : List Value) (hx : a.eval x = .slice (some ⟨wr.heap.size, 0, none⟩) 1 1) (hl : news.length = size) (h1 : ∀ u ∈ news, u.oneCell' = true)
    (h63 : n + 1 ≤ maxLen) (hbytes : (n + 1) * bytes ≤ 140737488355328)
    (h : ∀ v' w1, w1.ownsRow B e size v' (n + 1) (xs ++ news) → Below B w0 w1 → wr.grownBy w1 v.ownBlock → wpList P ops Q rest (a.put o.dst v') w1) :
    wpList P ops Q (o :: rest) a (wr.alloc (.cells news.toArray e)) :=
  wpList_append_own _ hgd s x t ho B e i z size bytes ht hi hz hsize hby hzs hsz v n xs hs (hown.alloc _) ⟨wr.heap.size, 0, none⟩ 1 1 news hx (by omega)
    (fun j u hu => by
      have hj : j < news.length := (List.getElem?_eq_some_iff.1 hu).1
      have : (⟨wr.heap.size, 0, none⟩ : Addr).add j = ⟨wr.heap.size, j, none⟩ := by
        unfold Addr.add; split <;> simp_all
      rw [this, World.cell?_alloc_at _ _ _ _ rfl]
      simpa using hu)
    h1 h63 hbytes (by simp; omega) fun v' w1 h2 h3 _ => h v' w1 h2 (below_grown_alloc hb hB hown h3) (grown_of_alloc h3)

theorem own_form {w : World} {B : Nat} {e : TypeId} {size n : Nat} {v : Value} {xs : List Value} (h : w.ownsRow B e size v n xs) : ∃ A c, v = .slice A n c := by
  rcases h.2 with ⟨rfl, rfl⟩ | ⟨g, cap, cur, rfl, _⟩
  · exact ⟨_, _, rfl⟩
  · exact ⟨_, _, rfl⟩

theorem quiet_w {P : Program} {f : FuncId} {args : Array Value} {w : World} {n : Nat} {v : Value} (h : Calls P f args (w.drewN n) fun e w' => e = .returned v ∧ w.drewN n = w') :
    Calls P f args (w.drewN n) fun e w'' => e = .returned v ∧ ∃ m, w'' = w.drewN m := h.mono fun _ _ ⟨he, hm⟩ => ⟨he, n, hm.symm⟩

theorem quiet_a {P : Program} {f : FuncId} {args : Array Value} {w : World} {a n : Nat} {v : Value} (h : Calls P f args (w.drewN (a + n)) fun e w' => e = .returned v ∧ w.drewN (a + n) = w') :
    Calls P f args (w.drewN (a + n)) fun e w'' => e = .returned v ∧ ∃ m, w'' = w.drewN (a + m) := h.mono fun _ _ ⟨he, hm⟩ => ⟨he, n, hm.symm⟩
end Go.Proofs.Ytkbdgokmcdopgaa
