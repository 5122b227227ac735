/- What was written is read: plain words on lists of bytes. And a writer at its beginning. -/
import Derived.Test.YteoicpbfjkjogaaRefC
namespace Go.Proofs.Yteoicpbfjkjogaa
open Go Go.RowKit
set_option linter.unusedVariables false
set_option linter.unusedSimpArgs false

theorem rd_at {l p q s : List Int} {k m : Nat} (h : l = p ++ (q ++ s)) (hk : p.length = k) (hm : q.length = m) :
    rOk l k false m = true ∧ rBytes l k false m = q ∧ rAt l k false m = k + m := by
  have h1 : rOk l k false m = true := by
    simp only [rOk, Bool.not_false, Bool.true_and, decide_eq_true_eq]
    rw [h, List.length_append, List.length_append]
    omega
  refine ⟨h1, ?_, ?_⟩
  · unfold rBytes
    rw [h1, if_pos rfl, h, ← hk, List.drop_left, Int.toNat_natCast, ← hm, List.take_left]
  · unfold rAt
    rw [h1, if_pos rfl, Int.toNat_natCast]
theorem be_one (a : Int) : be [a] = a := by simp [be]
theorem be_b2 {n : Int} (h0 : 0 ≤ n) (h1 : n < 65536) : be (b2 n) = n := by
  rw [b2_eq h0 h1]
  simp only [be, List.foldl_cons, List.foldl_nil]
  omega
theorem be_b4 {n : Int} (h0 : 0 ≤ n) (h1 : n < 4294967296) : be (b4 n) = n := by
  simp only [b4, b2, be, List.cons_append, List.nil_append, List.foldl_cons, List.foldl_nil]
  omega
theorem rd_num {l p q s : List Int} {k m : Nat} {n : Int} (h : l = p ++ (q ++ s)) (hk : p.length = k) (hm : q.length = m) (hn : be q = n) :
    rNum l k false m = n ∧ rAt l k false m = k + m ∧ (!rOk l k false m) = false := by
  obtain ⟨h1, h2, h3⟩ := rd_at h hk hm
  exact ⟨by unfold rNum; rw [h2, hn], h3, by rw [h1]; rfl⟩
theorem sgn_mod {n : Int} (h0 : -32768 ≤ n) (h1 : n < 32768) : sgn (n % 65536) = n := by unfold sgn; split <;> omega
theorem bytes_nil : Bytes [] := by intro x hx; cases hx
theorem bytes_b2 (n : Int) : Bytes (b2 n) := by
  intro x hx
  simp only [b2, List.mem_cons, List.not_mem_nil, or_false] at hx
  omega
theorem bytes_b4 (n : Int) : Bytes (b4 n) := by
  intro x hx
  rcases List.mem_append.1 hx with hx | hx
  · exact bytes_b2 _ x hx
  · exact bytes_b2 _ x hx
theorem Bytes.append {p q : List Int} (h1 : Bytes p) (h2 : Bytes q) : Bytes (p ++ q) := fun x hx => (List.mem_append.1 hx).elim (h1 x) (h2 x)
theorem Bytes.one {a : Int} (h0 : 0 ≤ a) (h1 : a < 256) : Bytes [a] := by intro x hx; simp at hx; subst hx; exact ⟨h0, h1⟩
theorem Bytes.take {p : List Int} (h : Bytes p) (k : Nat) : Bytes (p.take k) := fun x hx => h x (List.mem_of_mem_take hx)
theorem Bytes.drop {p : List Int} (h : Bytes p) (k : Nat) : Bytes (p.drop k) := fun x hx => h x (List.mem_of_mem_drop hx)

theorem Own.writer {W0 w : World} {L : List Ent} (M : Own W0 w L) : Own W0 (w.alloc (.cells #[.slice none 0 0] 69)) ([] ++ (wrE w.heap.size (.slice none 0 0) [] ++ L)) :=
  ((M.alloc 69 #[.slice none 0 0]).nil_row 5 1).swap
theorem Own.head1 {W0 w : World} {x : Ent} {L : List Ent} (M : Own W0 w (x :: L)) : Own W0 w [x] := M.sub (by simp)
theorem Own.mk_writer {W0 w : World} {L : List Ent} {b : Nat} (M : Own W0 w (.blk b 69 #[.slice none 0 0] :: L)) : Own W0 w ([] ++ (wrE b (.slice none 0 0) [] ++ L)) := (M.nil_row 5 1).swap
end Go.Proofs.Yteoicpbfjkjogaa
