/-
  Words for memory: rows of bytes that the call owns; a slice of integers that came in.
-/
import Derived.Test.YtkbdgokmcdopgaaM
import Derived.Lib.AppendStr
import Derived.Laws.IdiomStrings
import Derived.Lib.BufferRead
namespace Go.Proofs.Ytkbdgokmcdopgaa
open Go.RowKit
set_option linter.unusedVariables false
set_option linter.unusedSimpArgs false

def bcells (l : List UInt8) : List Value := l.map fun b => Value.int .u8 b.toNat

theorem bcells_append (a b : List UInt8) : bcells (a ++ b) = bcells a ++ bcells b := by simp [bcells]

theorem strCells_eq (s : ByteArray) : Lib.strCells s = bcells s.data.toList := rfl

/-- APPEND OF A STRING onto a row of bytes of the call's own. -/
theorem wpl_appS {P : Program} {ops : Array Oper} {rest : List Oper} {o : Oper} {a : Act} {Q : Exit → Act → World → Prop} (hgd : o.guard = none) (sl x : Operand) (t u : TypeId)
    (ho : o.op = .call { callee := .builtin .append, args := #[sl, x], argTypes := #[t, u] })
    {e : TypeId} {i : TypeInfo} (ht : P.underlying t = some (.slice e)) (hu : P.underlying u = some .string) (hi : P.info? e = some i) (hz : i.zero = some (.int .u8 0)) (hsize : i.size = 1) (hby : i.bytes = 1)
    {B : Nat} {w0 wr : World} {v : Value} {l : List UInt8} (hs : a.eval sl = v) (hown : wr.ownsRow B e 1 v l.length (bcells l)) (hb : Below B w0 wr) (hB : B ≤ wr.heap.size)
    (s : ByteArray) (hx : a.eval x = .string s) (h63 : l.length + s.size ≤ 1000000000000)
    (h : ∀ v' w1, w1.ownsRow B e 1 v' (l ++ s.data.toList).length (bcells (l ++ s.data.toList)) → Below B w0 w1 → wr.grownBy w1 v.ownBlock → wpList P ops Q rest (a.put o.dst v') w1) :
    wpList P ops Q (o :: rest) a wr :=
  Lib.wpList_append_own_string _ hgd sl x t u ho B e i ht hu hi hz hsize hby v l.length (bcells l) hs hown s hx (by simp only [maxLen]; omega) (by omega) hB fun v' w1 h1 h2 _ =>
    h v' w1 (by rw [List.length_append, bcells_append]; have : s.data.toList.length = s.size := by simp
                rw [this]; exact h1) (hb.grown h2 hB fun k hk => (hown.lt k hk).1) h2

/-- string(b) of a row of bytes of the call's own. -/
theorem conv_own {P : Program} (src dst e : TypeId) (hs : P.underlying src = some (.slice e)) (he : P.underlying e = some (.int .u8)) (hd : P.underlying dst = some .string)
    {B : Nat} {w : World} {A : Option Addr} {c : Nat} {l : List UInt8} (hown : w.ownsRow B e 1 (.slice A l.length c) l.length (bcells l)) :
    (convert src dst (.slice A l.length c)).run P w = .ok (.string ⟨l.toArray⟩) w := by
  rcases hown.2 with ⟨h1, h2⟩ | ⟨g, cap, cur, h1, _, hg, _, _, _, htake⟩
  · have hl : l = [] := List.length_eq_zero_iff.1 h2
    subst hl
    injection h1 with h1
    subst h1
    exact Lib.run_convert_nil_bytes w src dst e c hs he hd
  · injection h1 with h1 _ h3
    subst h1
    refine run_convert_bytes_back w src dst e ⟨g, 0, none⟩ c l hs he hd fun j hj => ?_
    refine hown.cells (g := g) rfl j _ ?_
    simp [bcells, hj]

/-- a slice that came in reads as these numbers, in blocks below B -/
def ReadsI (w : World) (B : Nat) (A : Option Addr) (xs : List Int) : Prop :=
  ∀ k (h : k < xs.length), ∃ b off, A = some ⟨b, off, none⟩ ∧ b < B ∧ w.cell? ⟨b, off + k, none⟩ = some (.int .i64 xs[k])

theorem ReadsI.below {w w' : World} {B : Nat} {A : Option Addr} {xs : List Int} (h : ReadsI w B A xs) (hb : Below B w w') : ReadsI w' B A xs := fun k hk => by
  obtain ⟨b, off, h1, h2, h3⟩ := h k hk
  exact ⟨b, off, h1, h2, (hb.cell (p := ⟨b, off + k, none⟩) h2).trans h3⟩

theorem ReadsI.drewN {w : World} {B : Nat} {A : Option Addr} {xs : List Int} (h : ReadsI w B A xs) (n : Nat) : ReadsI (w.drewN n) B A xs := h

theorem cell_lt {w : World} {a : Addr} {v : Value} (h : w.cell? a = some v) : a.block < w.heap.size := by
  unfold World.cell? at h
  rcases Nat.lt_or_ge a.block w.heap.size with hlt | hge
  · exact hlt
  · rw [Array.getElem?_eq_none hge] at h; cases h

theorem addr_add (b o i : Nat) : (⟨b, o, none⟩ : Addr).add i = ⟨b, o + i, none⟩ := by unfold Addr.add; split <;> simp_all

theorem reads_of_cells {W : World} {x : Addr} {len cap : Nat} {zs : List Int} (hl : len ≤ cap) (hm : cap ≤ maxLen) (hz : zs.length = cap) (hcell : ∀ i, i < zs.length → W.cell? (x.add i) = some (.int .i64 (zs.getD i 0))) (hwz : ∀ n ∈ zs, (Lit.int .i64 n).wf = true) :
    ∃ xs : List Int, xs.length = len ∧ ReadsI W W.heap.size (some x) xs ∧ (∀ x ∈ xs, -9223372036854775808 ≤ x ∧ x ≤ 9223372036854775807) ∧ xs.length ≤ maxLen := by
  refine ⟨zs.take len, by rw [List.length_take]; omega, fun k hk => ?_, fun n hn => ?_, by rw [List.length_take]; omega⟩
  · rw [List.length_take] at hk
    have hc := hcell k (by omega)
    obtain ⟨b, off, spot⟩ := x
    have hs : spot = none := by simpa [Addr.add] using World.cell?_spot (hcell 0 (by omega))
    subst hs
    rw [addr_add] at hc
    have hlt := cell_lt hc
    refine ⟨b, off, rfl, hlt, ?_⟩
    rw [hc]
    simp [show k < zs.length by omega]
  · have h := hwz n (List.mem_of_mem_take hn)
    simp [Lit.wf, IntKind.min, IntKind.max, IntKind.signed, IntKind.bits] at h
    omega
end Go.Proofs.Ytkbdgokmcdopgaa
