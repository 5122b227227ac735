/- The references' numbers of two and four bytes. -/
import Derived.Test.YteoicpbfjkjogaaRefB
namespace Go.Proofs.Yteoicpbfjkjogaa
open Go Go.RowKit
set_option linter.unusedVariables false
set_option linter.unusedSimpArgs false
set_option maxRecDepth 100000

/-- The number of two bytes, of four, from a place on, if they are there. -/
def n2 (l : List Int) (a : Nat) : Int := if a + 2 ≤ l.length then 256 * l.getD a 0 + l.getD (a + 1) 0 else 0
def n4 (l : List Int) (a : Nat) : Int := if a + 4 ≤ l.length then 65536 * n2 l a + n2 l (a + 2) else 0
theorem Bytes.get {l : List Int} (h : Bytes l) (k : Nat) : 0 ≤ l.getD k 0 ∧ l.getD k 0 < 256 := by
  by_cases hk : k < l.length
  · exact h _ (by simp [List.getD, hk])
  · simp [List.getD, List.getElem?_eq_none (Nat.le_of_not_lt hk)]
theorem n2_bound {l : List Int} (h : Bytes l) (a : Nat) : 0 ≤ n2 l a ∧ n2 l a < 65536 := by
  have h1 := h.get a
  have h2 := h.get (a + 1)
  unfold n2
  split <;> omega
theorem n4_bound {l : List Int} (h : Bytes l) (a : Nat) : 0 ≤ n4 l a ∧ n4 l a < 4294967296 := by
  have h1 := n2_bound h a
  have h2 := n2_bound h (a + 2)
  unfold n4
  split <;> omega

theorem N2_calls (w : World) {v : Value} {l : List Int} (a : Nat) (ha : a ≤ 4611686018427387904) (hB : Bytes l) (h1 : BytesAt w v l) :
    Calls Try.prog 50 #[v, .int .i64 a] w (Ret fun r w' => r = .tuple #[.int .i64 (n2 l a), .bool (decide (a + 2 ≤ l.length))] ∧ Below w.heap.size w w') := by
  obtain ⟨A1, c1, rfl, hc1, hm1, hA1, hr1⟩ := h1
  unfold maxLen at hm1
  have h0 : decide ((a : Int) < 0) = false := by simp
  by_cases h : a + 2 ≤ l.length
  · have hd := hid (show decide (a + 2 ≤ l.length) = true from decide_eq_true h)
    have he := hid (show n2 l a = 256 * l.getD a 0 + l.getD (a + 1) 0 by unfold n2; rw [if_pos h])
    have hx := hB.get a
    have hy := hB.get (a + 1)
    have hi1 : (a : Int) < (l.length : Int) := by omega
    have hi2 : (a : Int) + 1 < (l.length : Int) := by omega
    have hg : ¬ ((l.length : Int) - 2 < a) := by omega
    have hsum := hid (IntWalk.i64_in (a + 1) (by omega))
    obtain ⟨a1, rfl, hcell1⟩ := hr1.cell (ints_get .u8 l a (by omega))
    obtain ⟨a2, he2, hcell2⟩ := hr1.cell (ints_get .u8 l (a + 1) (by omega))
    injection he2 with he2
    subst he2
    generalize l.getD a 0 = x at *
    generalize l.getD (a + 1) 0 = y at *
    obtain ⟨hx0, hx1⟩ := hx
    obtain ⟨hy0, hy1⟩ := hy
    have hn1 : ((a : Int) + 1).toNat = a + 1 := by omega
    have hge : 0 ≤ (a : Int) + 1 := by omega
    have hcell3 : w.cell? ⟨a1.block, a1.off + (a + 1), none⟩ = some (.int .u8 y) := by
      have := hcell2
      rwa [Addr.add, if_neg (by omega)] at this
    have hw1 := IntWalk.i64_in x (by omega)
    have hw2 := IntWalk.i64_in y (by omega)
    have hw3 := IntWalk.i64_in (256 * x) (by omega)
    have hw4 := IntWalk.i64_in (256 * x + y) (by omega)
    have hsum2 : IntKind.i64.wrap ((a : Int) + 1) = (a : Int) + 1 := hsum.out
    clear hr1 hA1 hB
    go_enter Try.func50, Try.ntmps50
    go_wp2
    go_quiet (fail)
    go_wp2
    go_ret2
    exact .mk ⟨by rw [hd.out, he.out]; rfl, ⟨rfl, rfl, rfl, Nat.le_refl _, fun _ _ => rfl⟩⟩
  · have hd := hid (show decide (a + 2 ≤ l.length) = false from decide_eq_false h)
    have he := hid (show n2 l a = 0 by unfold n2; rw [if_neg h])
    have hg : (l.length : Int) - 2 < a := by omega
    clear hr1 hA1 hB
    go_enter Try.func50, Try.ntmps50
    go_wp2
    go_ret2
    exact .mk ⟨by rw [hd.out, he.out]; rfl, Below.refl _ _⟩

end Go.Proofs.Yteoicpbfjkjogaa
