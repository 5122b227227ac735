/- Plain words: numbers of two and of four bytes at places; bytes out of numbers. -/
import Derived.Test.YteoicpbfjkjogaaRead
namespace Go.Proofs.Yteoicpbfjkjogaa
open Go Go.RowKit
set_option linter.unusedVariables false
set_option linter.unusedSimpArgs false

theorem take2 {l : List Int} {a : Nat} (h : a + 2 ≤ l.length) : (l.drop a).take 2 = [l.getD a 0, l.getD (a + 1) 0] := by
  rw [List.drop_eq_getElem_cons (by omega), List.take_succ_cons, List.drop_eq_getElem_cons (by omega), List.take_succ_cons, List.take_zero]
  simp [List.getD, show a < l.length by omega, show a + 1 < l.length by omega]
theorem rOk_at {l : List Int} {a m : Nat} (h : a + m ≤ l.length) : rOk l a false m = true := by
  simp only [rOk, Bool.not_false, Bool.true_and, decide_eq_true_eq]; omega
theorem read2 {l : List Int} {a : Nat} (h : a + 2 ≤ l.length) : rNum l a false 2 = n2 l a ∧ rAt l a false 2 = a + 2 ∧ (!rOk l a false 2) = false := by
  have h1 : rOk l a false 2 = true := rOk_at (m := 2) h
  refine ⟨?_, ?_, by rw [h1]; rfl⟩
  · unfold rNum rBytes n2
    rw [h1, if_pos rfl, if_pos h, show (2 : Int).toNat = 2 from rfl, take2 h]
    simp only [be, List.foldl_cons, List.foldl_nil]; omega
  · unfold rAt; rw [h1, if_pos rfl]; rfl
theorem take4 {l : List Int} {a : Nat} (h : a + 4 ≤ l.length) : (l.drop a).take 4 = [l.getD a 0, l.getD (a + 1) 0, l.getD (a + 2) 0, l.getD (a + 3) 0] := by
  rw [show (4 : Nat) = 2 + 2 from rfl, List.take_add, take2 (by omega), List.drop_drop, take2 (by omega)]; rfl
theorem read4 {l : List Int} {a : Nat} (h : a + 4 ≤ l.length) : rNum l a false 4 = n4 l a ∧ rAt l a false 4 = a + 4 ∧ (!rOk l a false 4) = false := by
  have h1 : rOk l a false 4 = true := rOk_at (m := 4) h
  refine ⟨?_, ?_, by rw [h1]; rfl⟩
  · unfold rNum rBytes n4 n2
    rw [h1, if_pos rfl, if_pos h, if_pos (by omega), if_pos (by omega), show (4 : Int).toNat = 4 from rfl, take4 h]
    simp only [be, List.foldl_cons, List.foldl_nil, Nat.add_assoc, Nat.reduceAdd]; omega
  · unfold rAt; rw [h1, if_pos rfl]; rfl

/-- The numbers of two bytes from a place on. -/
def u16s (l : List Int) (a n : Nat) : List Int := (List.range n).map fun i => n2 l (a + 2 * i)
theorem u16s_length (l : List Int) (a n : Nat) : (u16s l a n).length = n := by simp [u16s]
theorem u16s_get (l : List Int) (a n k : Nat) (hk : k < n) : (u16s l a n).getD k 0 = n2 l (a + 2 * k) := by simp [u16s, List.getD, hk]
theorem b2_n2 {l : List Int} (h : Bytes l) {a : Nat} (ha : a + 2 ≤ l.length) : b2 (n2 l a) = (l.drop a).take 2 := by
  have h1 := h.get a
  have h2 := h.get (a + 1)
  rw [take2 ha]
  unfold n2 b2
  rw [if_pos ha]
  congr 1
  · omega
  · congr 1; omega
theorem b4_n4 {l : List Int} (h : Bytes l) {a : Nat} (ha : a + 4 ≤ l.length) : b4 (n4 l a) = (l.drop a).take 4 := by
  have h1 := n2_bound h a
  have h2 := n2_bound h (a + 2)
  rw [show (4 : Nat) = 2 + 2 from rfl, List.take_add, List.drop_drop, ← b2_n2 h (a := a) (by omega), ← b2_n2 h (a := a + 2) (by omega)]
  unfold b4 n4
  rw [if_pos ha]
  congr 2 <;> omega
theorem flat_u16s {l : List Int} (h : Bytes l) (a : Nat) : ∀ n, a + 2 * n ≤ l.length → (u16s l a n).flatMap b2 = (l.drop a).take (2 * n) := by
  intro n
  induction n with
  | zero => intro _; simp [u16s]
  | succ n ih =>
    intro hn
    have e : u16s l a (n + 1) = u16s l a n ++ [n2 l (a + 2 * n)] := by simp [u16s, List.range_succ]
    rw [e, List.flatMap_append, ih (by omega), show 2 * (n + 1) = 2 * n + 2 by omega, List.take_add, List.drop_drop]
    simp [b2_n2 h (a := a + 2 * n) (by omega)]
/-- The other way: what stands behind so many bytes is read as those numbers. -/
theorem n2_app {p s : List Int} {x : Int} {a : Nat} (ha : p.length = a) (h0 : 0 ≤ x) (h1 : x < 65536) : n2 (p ++ (b2 x ++ s)) a = x := by
  have hl : a + 2 ≤ (p ++ (b2 x ++ s)).length := by simp [b2_length]; omega
  have h2 : ((p ++ (b2 x ++ s)).drop a).take 2 = b2 x := by rw [← ha, List.drop_left]; exact List.take_left (l₁ := b2 x)
  rw [take2 hl, b2_eq h0 h1] at h2
  simp only [List.cons.injEq, and_true] at h2
  unfold n2
  rw [if_pos hl, b2_eq h0 h1, h2.1, h2.2]
  omega
theorem n4_app {p s : List Int} {x : Int} {a : Nat} (ha : p.length = a) (h0 : 0 ≤ x) (h1 : x < 4294967296) : n4 (p ++ (b4 x ++ s)) a = x := by
  have hl : a + 4 ≤ (p ++ (b4 x ++ s)).length := by simp [b4_length]; omega
  unfold n4
  rw [if_pos hl]
  unfold b4
  rw [List.append_assoc, n2_app ha (by omega) (by omega), ← List.append_assoc, n2_app (by simp [b2_length, ha]) (by omega) (by omega)]
  omega
theorem u16s_app {p s : List Int} {a : Nat} (ha : p.length = a) : ∀ (xs : List Int), (∀ x ∈ xs, 0 ≤ x ∧ x < 65536) → u16s (p ++ (xs.flatMap b2 ++ s)) a xs.length = xs := by
  intro xs hx
  apply List.ext_getElem
  · rw [u16s_length]
  · intro i h1 h2
    have hb := hx xs[i] (List.getElem_mem h2)
    have e : p ++ (xs.flatMap b2 ++ s) = (p ++ (xs.take i).flatMap b2) ++ (b2 xs[i] ++ ((xs.drop (i + 1)).flatMap b2 ++ s)) := by
      conv => lhs; rw [← List.take_append_drop i xs, List.flatMap_append, List.drop_eq_getElem_cons h2, List.flatMap_cons]
      simp
    have hl : (p ++ (xs.take i).flatMap b2).length = a + 2 * i := by
      have : ∀ ys : List Int, (ys.flatMap b2).length = 2 * ys.length := by
        intro ys
        induction ys with
        | nil => rfl
        | cons y ys ih => rw [List.flatMap_cons, List.length_append, ih, b2_length, List.length_cons]; omega
      rw [List.length_append, this, List.length_take, ha]; omega
    simp only [u16s, List.getElem_map, List.getElem_range]
    rw [e, n2_app hl hb.1 hb.2]
end Go.Proofs.Yteoicpbfjkjogaa
