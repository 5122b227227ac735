/- A reader of bytes by the place where it would stand: what it reads is told by the bytes alone (nothing, where there are too few), and it is bad just if that place lies behind the end. -/
import Derived.Test.YteoicpbfjkjogaaNums
namespace Go.Proofs.Yteoicpbfjkjogaa
open Go Go.RowKit
set_option linter.unusedVariables false
set_option linter.unusedSimpArgs false

/-- The reader at block b would stand at k. -/
def RS (W0 w : World) (b : Nat) (l : List Int) (k : Nat) (L : List Ent) : Prop :=
  ∃ v a bad, RdOk l a ∧ bad = decide (l.length < k) ∧ (k ≤ l.length → a = k) ∧ Own W0 w (rdE b v l a bad ++ L)
section
variable {W0 w w' : World} {b k : Nat} {l : List Int} {L : List Ent}
theorem RS.start {v : Value} (h : Bytes l) (M : Own W0 w (rdE b v l 0 false ++ L)) : RS W0 w b l 0 L := ⟨v, 0, false, ⟨Nat.zero_le _, h⟩, by simp, fun _ => rfl, M⟩
theorem RS.keep (h : RS W0 w b l k L) (hb : Below w.heap.size w w') : RS W0 w' b l k L := by
  obtain ⟨v, a, bad, h1, h2, h3, M⟩ := h
  exact ⟨v, a, bad, h1, h2, h3, M.keep hb⟩
theorem RS.below (h : RS W0 w b l k L) : Below W0.heap.size W0 w := by
  obtain ⟨v, a, bad, h1, h2, h3, M⟩ := h
  exact M.below
theorem RS.perm {L' : List Ent} (h : RS W0 w b l k L) (hp : L.Perm L') : RS W0 w b l k L' := by
  obtain ⟨v, a, bad, h1, h2, h3, M⟩ := h
  exact ⟨v, a, bad, h1, h2, h3, M.perm (hp.append_left _)⟩
theorem RS.opened (h : RS W0 w b l k L) : ∃ v a bad, Own W0 w (L ++ rdE b v l a bad) ∧ RdOk l a ∧ bad = decide (l.length < k) ∧ (k ≤ l.length → a = k) := by
  obtain ⟨v, a, bad, h1, h2, h3, M⟩ := h
  exact ⟨v, a, bad, M.perm List.perm_append_comm, h1, h2, h3⟩
theorem RS.shut {v : Value} {a : Nat} {bad : Bool} (M : Own W0 w (L ++ rdE b v l a bad)) (h1 : RdOk l a) (h2 : bad = decide (l.length < k)) (h3 : k ≤ l.length → a = k) : RS W0 w b l k L :=
  ⟨v, a, bad, h1, h2, h3, M.perm List.perm_append_comm⟩
/-- What stands beside the reader. -/
theorem RS.beside (h : RS W0 w b l k L) : Own W0 w L := by
  obtain ⟨v, a, bad, -, -, -, M⟩ := h
  exact M.sub (List.sublist_append_right _ _)
theorem RS.lift {L' : List Ent} (h : RS W0 w b l k L) (h' : Own w w' L') (hm : ∀ y ∈ L', y.mine := by simp [Ent.mine]) : RS W0 w' b l k (L' ++ L) := by
  obtain ⟨v, a, bad, h1, h2, h3, M⟩ := h
  exact ⟨v, a, bad, h1, h2, h3, (M.lift h' hm).perm (List.perm_append_comm_assoc _ _ _)⟩
theorem RS.nil_row (h : RS W0 w b l k L) (e : TypeId) (sz : Nat) : RS W0 w b l k (.row e sz (.slice none 0 0) 0 [] :: L) := by
  obtain ⟨v, a, bad, h1, h2, h3, M⟩ := h
  exact ⟨v, a, bad, h1, h2, h3, (M.nil_row e sz).perm List.perm_middle.symm⟩
theorem RS.perm_tail {x : Ent} (h : RS W0 w b l k (x :: L)) : RS W0 w b l k L := by
  obtain ⟨v, a, bad, h1, h2, h3, M⟩ := h
  exact ⟨v, a, bad, h1, h2, h3, M.sub ((List.sublist_cons_self _ _).append_left _)⟩
theorem RS.size (h : RS W0 w b l k L) : l.length ≤ maxLen := by
  obtain ⟨v, a, bad, h1, h2, h3, M⟩ := h
  exact (M.slice (e := 5) (sz := 1) (v := v) (n := l.length) (xs := ints .u8 l) (by simp [rdE])).le
theorem RS.bytes (h : RS W0 w b l k L) : Bytes l := by
  obtain ⟨v, a, bad, h1, h2, h3, M⟩ := h
  exact h1.bytes
/-- Where a reader stands that is at a, or bad. -/
theorem rs_step {a m : Nat} {bad : Bool} (h2 : bad = decide (l.length < k)) (h3 : k ≤ l.length → a = k) :
    rOk l a bad m = decide (k + m ≤ l.length) ∧ (!rOk l a bad m) = decide (l.length < k + m) ∧ (k + m ≤ l.length → a = k ∧ rAt l a bad m = k + m) := by
  have e : rOk l a bad m = decide (k + m ≤ l.length) := by
    by_cases hk : k ≤ l.length
    · have h3 := h3 hk; subst h3
      have hb : bad = false := by rw [h2]; exact decide_eq_false (by omega)
      rw [hb]
      unfold rOk
      rw [Bool.not_false, Bool.true_and]
      exact decide_eq_decide.2 ⟨fun h => by omega, fun h => by omega⟩
    · have hb : bad = true := by rw [h2]; exact decide_eq_true (by omega)
      rw [hb]
      unfold rOk
      rw [Bool.not_true, Bool.false_and]
      exact (decide_eq_false (by omega)).symm
  refine ⟨e, ?_, fun h => ⟨h3 (by omega), ?_⟩⟩
  · rw [e]
    by_cases h : k + m ≤ l.length
    · rw [decide_eq_true h, decide_eq_false (by omega)]; rfl
    · rw [decide_eq_false h, decide_eq_true (by omega)]; rfl
  · unfold rAt
    rw [e, if_pos (decide_eq_true h), h3 (by omega), Int.toNat_natCast]
theorem rs_bytes {a m : Nat} {bad : Bool} (h2 : bad = decide (l.length < k)) (h3 : k ≤ l.length → a = k) : rBytes l a bad m = if k + m ≤ l.length then (l.drop k).take m else [] := by
  obtain ⟨h4, -, h5⟩ := rs_step (m := m) h2 h3
  unfold rBytes
  rw [h4]
  by_cases h : k + m ≤ l.length
  · rw [if_pos (decide_eq_true h), if_pos h, (h5 h).1, Int.toNat_natCast]
  · rw [if_neg (by simp; omega), if_neg h]
theorem rs_n2 {a : Nat} {bad : Bool} (h2 : bad = decide (l.length < k)) (h3 : k ≤ l.length → a = k) : rNum l a bad 2 = n2 l k := by
  have := rs_bytes (m := 2) h2 h3
  unfold rNum n2
  rw [show ((2 : Nat) : Int) = 2 from rfl] at this
  rw [this]
  by_cases h : k + 2 ≤ l.length
  · rw [if_pos h, if_pos h, take2 h]
    simp only [be, List.foldl_cons, List.foldl_nil]; omega
  · rw [if_neg h, if_neg h]; rfl
theorem rs_n1 {a : Nat} {bad : Bool} (h2 : bad = decide (l.length < k)) (h3 : k ≤ l.length → a = k) : rNum l a bad 1 = l.getD k 0 := by
  have := rs_bytes (m := 1) h2 h3
  unfold rNum
  rw [show ((1 : Nat) : Int) = 1 from rfl] at this
  rw [this]
  by_cases h : k + 1 ≤ l.length
  · rw [if_pos h, List.drop_eq_getElem_cons (by omega), List.take_succ_cons, List.take_zero]
    simp [be, List.getD, show k < l.length by omega]
  · rw [if_neg h]
    simp [be, List.getD, List.getElem?_eq_none (show l.length ≤ k by omega)]
theorem RS.next {v : Value} {a m : Nat} {bad : Bool} (h1 : RdOk l a) (h2 : bad = decide (l.length < k)) (h3 : k ≤ l.length → a = k) (M : Own W0 w (rdE b v l (rAt l a bad m) (!rOk l a bad m) ++ L)) : RS W0 w b l (k + m) L := by
  obtain ⟨h4, h5, h6⟩ := rs_step (m := m) h2 h3
  exact ⟨v, _, _, h1.next bad m, h5, fun h => (h6 h).2, M⟩
theorem RS.U8 (h : RS W0 w b l k L) : Calls Try.prog 56 #[.pointer (some ⟨b, 0, none⟩)] w (Ret fun r w' => r = .int .u8 (l.getD k 0) ∧ RS W0 w' b l (k + 1) L) := by
  obtain ⟨v, a, bad, h1, h2, h3, M⟩ := h
  refine (rd_U8 h1 M).mono ?_
  rintro _ w' ⟨r, e, h4, M'⟩
  exact ⟨r, e, by rw [h4, rs_n1 h2 h3], RS.next (m := 1) h1 h2 h3 M'⟩
theorem RS.U16 (h : RS W0 w b l k L) : Calls Try.prog 44 #[.pointer (some ⟨b, 0, none⟩)] w (Ret fun r w' => r = .int .u16 (n2 l k) ∧ RS W0 w' b l (k + 2) L) := by
  obtain ⟨v, a, bad, h1, h2, h3, M⟩ := h
  refine (rd_U16 h1 M).mono ?_
  rintro _ w' ⟨r, e, h4, M'⟩
  exact ⟨r, e, by rw [h4, rs_n2 h2 h3], RS.next (m := 2) h1 h2 h3 M'⟩
theorem RS.I16 (h : RS W0 w b l k L) : Calls Try.prog 34 #[.pointer (some ⟨b, 0, none⟩)] w (Ret fun r w' => r = .int .i16 (sgn (n2 l k)) ∧ RS W0 w' b l (k + 2) L) := by
  obtain ⟨v, a, bad, h1, h2, h3, M⟩ := h
  refine (rd_I16 h1 M).mono ?_
  rintro _ w' ⟨r, e, h4, M'⟩
  exact ⟨r, e, by rw [h4, rs_n2 h2 h3], RS.next (m := 2) h1 h2 h3 M'⟩
/-- The bytes that are taken. -/
def tkB (l : List Int) (k m : Nat) : List Int := if k + m ≤ l.length then (l.drop k).take m else []
theorem RS.Take (h : RS W0 w b l k L) (m : Nat) (hl : l.length ≤ 140737488355328) : Calls Try.prog 47 #[.pointer (some ⟨b, 0, none⟩), .int .i64 m] w (Ret fun r w' =>
    RS W0 w' b l (k + m) (.row 5 1 r (tkB l k m).length (ints .u8 (tkB l k m)) :: L)) := by
  obtain ⟨v, a, bad, h1, h2, h3, M⟩ := h
  refine (rd_Take (n := m) h1.le hl M).mono ?_
  rintro _ w' ⟨r, e, M'⟩
  rw [rs_bytes h2 h3] at M'
  exact ⟨r, e, RS.next (m := m) h1 h2 h3 (M'.perm List.perm_middle.symm)⟩
theorem RS.At (h : RS W0 w b l k L) : Calls Try.prog 48 #[.pointer (some ⟨b, 0, none⟩)] w (Ret fun r w' => ∃ a : Nat, (k ≤ l.length → a = k) ∧ r = .int .i64 a ∧ w = w') := by
  obtain ⟨v, a, bad, h1, h2, h3, M⟩ := h
  exact (rd_At M).mono fun _ _ ⟨r, e, h4, h5⟩ => ⟨r, e, a, h3, h4, h5⟩
theorem RS.Bad (h : RS W0 w b l k L) : Calls Try.prog 45 #[.pointer (some ⟨b, 0, none⟩)] w (Ret fun r w' => r = .bool (decide (l.length < k)) ∧ w = w') := by
  obtain ⟨v, a, bad, h1, h2, h3, M⟩ := h
  rw [← h2]
  exact rd_Bad M
end
end Go.Proofs.Yteoicpbfjkjogaa
