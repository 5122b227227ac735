/- Package word: numbers of bytes, and bytes that grow. -/
import Derived.Test.YteoicpbfjkjogaaWordA
namespace Go.Proofs.Yteoicpbfjkjogaa
open Go Go.RowKit
set_option linter.unusedVariables false
set_option linter.unusedSimpArgs false
attribute [local go_sem] nil_u8

/-- A number of bytes, the highest first. -/
def be (l : List Int) : Int := l.foldl (fun a b => a * 256 + b) 0
def Bytes (l : List Int) : Prop := ∀ x ∈ l, 0 ≤ x ∧ x < 256
theorem be_snoc (l : List Int) (x : Int) : be (l ++ [x]) = be l * 256 + x := by simp [be]
theorem be_take_succ (l : List Int) (k : Nat) (h : k < l.length) : be (l.take (k + 1)) = be (l.take k) * 256 + l.getD k 0 := by
  rw [List.take_succ_eq_append_getElem h, be_snoc]
  simp [List.getD, h]
theorem be_bound (l : List Int) (h : Bytes l) : ∀ k, k ≤ l.length → 0 ≤ be (l.take k) ∧ be (l.take k) < 256 ^ k := by
  intro k
  induction k with
  | zero => intro _; simp [be]
  | succ k ih =>
    intro hk
    obtain ⟨h1, h2⟩ := ih (by omega)
    have h3 := h (l.getD k 0) (by simp [List.getD, show k < l.length by omega])
    rw [be_take_succ _ _ (by omega), Int.pow_succ]
    omega
theorem be_small (l : List Int) (h : Bytes l) (k : Nat) (hk : k ≤ l.length) (hk4 : k ≤ 4) : 0 ≤ be (l.take k) ∧ be (l.take k) < 4294967296 ∧ (k < 4 → be (l.take k) < 16777216) := by
  obtain ⟨h1, h2⟩ := be_bound l h k hk
  rcases (by omega : k = 0 ∨ k = 1 ∨ k = 2 ∨ k = 3 ∨ k = 4) with rfl | rfl | rfl | rfl | rfl <;> simp only [Int.reducePow] at h2 <;> exact ⟨h1, by omega, by omega⟩

theorem or_u32 (a x : Int) (h0 : 0 ≤ a) (h1 : a < 16777216) (h2 : 0 ≤ x) (h3 : x < 256) : bits .or .u32 (a * 256) x = a * 256 + x := by
  rw [u32_or _ _ (by omega) (by omega) (by omega) (by omega), nat_join8 _ _ (by omega) (by omega)]
  omega

section
variable {W0 w : World} {L : List Ent} {b at_ : Nat} {v : Value} {l : List Int} {bad : Bool}
theorem number_ok (n : Nat) (hn : at_ + n ≤ l.length) (hn4 : n ≤ 4) (hB : Bytes l) (M : Own W0 w (rdE b v l at_ false ++ L)) : Calls Try.prog 55 #[.pointer (some ⟨b, 0, none⟩), .int .i64 n] w (Ret fun r w' =>
    r = .int .u32 (be ((l.drop at_).take n)) ∧ Own W0 w' (rdE b v l (at_ + n) false ++ L)) := by
  have MH := hid M
  have hBH := hid hB
  clear M hB
  go_enter Try.func55, Try.ntmps55
  go_wp2_with (go_at_call 58; refine (next_ok n hn MH.out).mono ?_; rintro _ w1 ⟨_, rfl, p, rfl, ⟨A, c, rfl, hnc, hcm, hA, hr⟩, M1⟩; clear MH hA; (have M1H := hid M1); (have hrH := hid hr); clear M1 hr; unfold maxLen at hcm; (have hx : ((l.drop at_).take n).length = n := (by simp; omega)); generalize hxs : (l.drop at_).take n = xs at *; (have hBx : Hid (Bytes xs) := hid (hxs ▸ fun y hy => hBH.out y (List.mem_of_mem_drop (List.mem_of_mem_take hy)))); (have hxsH := hid hxs); clear hxs; (have hxH := hid hx); clear hx)
  go_loop [7, 20] (fun o i => ∃ k : Nat, k ≤ n ∧ i = .int .i64 k ∧ o = .int .u32 (be (xs.take k))) (fun _ i => n - (intOf i).toNat)
  case atStart => exact ⟨0, Nat.zero_le _, rfl, rfl⟩
  case round =>
    obtain ⟨k, hk, rfl, rfl⟩ := hrel
    by_cases hlt : k < n
    · have hxk := hxH.out
      have hb3 := be_take_succ xs k (by omega)
      obtain ⟨ad, rfl, hc⟩ := hrH.out.cell (j := k) (ints_get .u8 xs k (by omega))
      obtain ⟨hb0, hb1, hb2⟩ := be_small xs hBx.out k (by omega) (by omega)
      obtain ⟨hx0, hx1⟩ := hBx.out (xs.getD k 0) (by simp [List.getD, show k < xs.length by omega])
      generalize xs.getD k 0 = x at *
      have hb2' := hb2 (by omega)
      have hor := hid (or_u32 _ x hb0 hb2' hx0 hx1)
      have hb3H := hid hb3
      clear hb2 hxk hb3
      go_wp2
      go_round
      case rel => exact ⟨k + 1, by omega, by go_num, by rw [hb3H.out, ← hor.out]⟩
      case measure => simp [intOf]; omega
    · obtain rfl : k = n := by omega
      go_wp2
      go_ret
      exact .mk ⟨by rw [hxsH.out, List.take_of_length_le (l := xs) (by have := hxH.out; omega)]; rfl, M1H.out⟩

/-- Are there so many bytes? -/
def rOk (l : List Int) (at_ : Nat) (bad : Bool) (n : Int) : Bool := !bad && decide (0 ≤ n ∧ n ≤ (l.length : Int) - at_)
def rAt (l : List Int) (at_ : Nat) (bad : Bool) (n : Int) : Nat := if rOk l at_ bad n then at_ + n.toNat else at_
def rBytes (l : List Int) (at_ : Nat) (bad : Bool) (n : Int) : List Int := if rOk l at_ bad n then (l.drop at_).take n.toNat else []
def rNum (l : List Int) (at_ : Nat) (bad : Bool) (n : Int) : Int := be (rBytes l at_ bad n)
/-- A reader, so far gone. -/
structure RdOk (l : List Int) (at_ : Nat) : Prop where
  le : at_ ≤ l.length
  bytes : Bytes l

theorem next_any (n : Int) (hat : at_ ≤ l.length) (M : Own W0 w (rdE b v l at_ bad ++ L)) : Calls Try.prog 58 #[.pointer (some ⟨b, 0, none⟩), .int .i64 n] w (Ret fun r w' =>
    ∃ p, r = .tuple #[p, .bool (rOk l at_ bad n)] ∧ SliceAt w' w'.heap.size 1 p (rBytes l at_ bad n).length (ints .u8 (rBytes l at_ bad n)) ∧ Own W0 w' (rdE b v l (rAt l at_ bad n) (!rOk l at_ bad n) ++ L)) := by
  cases bad with
  | true =>
    refine (next_bad n M).mono ?_
    rintro _ w1 ⟨_, rfl, rfl, M1⟩
    exact .mk ⟨_, rfl, SliceAt.nil _ _ _, M1⟩
  | false =>
    by_cases h : 0 ≤ n ∧ n ≤ (l.length : Int) - at_
    · obtain ⟨k, rfl⟩ := Int.eq_ofNat_of_zero_le h.1
      have hk : rOk l at_ false k = true := by simp only [rOk, h, and_self, decide_true, Bool.not_false, Bool.and_self]
      refine (next_ok k (by omega) M).mono ?_
      rintro _ w1 ⟨_, rfl, p, rfl, hp, M1⟩
      refine .mk ⟨p, by rw [hk], ?_, ?_⟩
      · simp only [rBytes, hk, if_true, Int.toNat_natCast]
        rw [show ((l.drop at_).take k).length = k by simp; omega]
        exact hp
      · simp only [rAt, hk, if_true, Int.toNat_natCast]
        exact M1
    · have hk : rOk l at_ false n = false := by simp only [rOk, h, decide_false, Bool.and_false]
      refine (next_few n (by omega) hat M).mono ?_
      rintro _ w1 ⟨_, rfl, rfl, M1⟩
      refine .mk ⟨_, by rw [hk], ?_, ?_⟩
      · simp only [rBytes, hk, Bool.false_eq_true, if_false]
        exact SliceAt.nil _ _ _
      · simp only [rAt, hk, Bool.false_eq_true, if_false]
        exact M1

theorem number_no (n : Nat) (hn4 : n ≤ 4) (hat : at_ ≤ l.length) (h : rOk l at_ bad n = false) (M : Own W0 w (rdE b v l at_ bad ++ L)) : Calls Try.prog 55 #[.pointer (some ⟨b, 0, none⟩), .int .i64 n] w (Ret fun r w' =>
    r = .int .u32 0 ∧ Own W0 w' (rdE b v l at_ true ++ L)) := by
  have hN := next_any (bad := bad) n hat M
  have hA : rAt l at_ bad n = at_ := by simp only [rAt, h, Bool.false_eq_true, if_false]
  rw [h, hA] at hN
  have NH := hid hN
  clear hN M h hA
  go_enter Try.func55, Try.ntmps55
  go_wp2_with (go_at_call 58; refine NH.out.mono ?_; rintro _ w1 ⟨_, rfl, p, rfl, hp, M1⟩; (have M1H := hid M1); clear M1 hp)
  go_ret
  exact .mk ⟨rfl, M1H.out⟩

theorem number_any (n : Nat) (hn4 : n ≤ 4) (hR : RdOk l at_) (M : Own W0 w (rdE b v l at_ bad ++ L)) : Calls Try.prog 55 #[.pointer (some ⟨b, 0, none⟩), .int .i64 n] w (Ret fun r w' =>
    r = .int .u32 (rNum l at_ bad n) ∧ Own W0 w' (rdE b v l (rAt l at_ bad n) (!rOk l at_ bad n) ++ L)) := by
  cases h : rOk l at_ bad n with
  | true =>
    have h' := h
    simp only [rOk, Bool.and_eq_true, Bool.not_eq_true', decide_eq_true_eq] at h'
    obtain ⟨rfl, h1, h2⟩ := h'
    simp only [rNum, rBytes, rAt, h, if_true, Int.toNat_natCast]
    exact number_ok n (by omega) hn4 hR.bytes M
  | false =>
    simp only [rNum, rBytes, rAt, h, Bool.false_eq_true, if_false]
    exact number_no n hn4 hR.le h M
theorem RdOk.next (hR : RdOk l at_) (bad : Bool) (n : Int) : RdOk l (rAt l at_ bad n) := by
  refine ⟨?_, hR.bytes⟩
  have := hR.le
  unfold rAt
  split
  · rename_i h
    simp only [rOk, Bool.and_eq_true, Bool.not_eq_true', decide_eq_true_eq] at h
    omega
  · exact this
theorem Bytes.cut (h : Bytes l) (bad : Bool) (n : Int) : Bytes (rBytes l at_ bad n) := by
  unfold rBytes
  split
  · exact fun y hy => h y (List.mem_of_mem_drop (List.mem_of_mem_take hy))
  · intro y hy; cases hy
theorem rBytes_length (n : Int) : (rBytes l at_ bad n).length = if rOk l at_ bad n then n.toNat else 0 := by
  unfold rBytes
  split
  · rename_i h
    simp only [rOk, Bool.and_eq_true, Bool.not_eq_true', decide_eq_true_eq] at h
    simp; omega
  · rfl
theorem rNum_bound (h : Bytes l) (n : Nat) (hn : n ≤ 4) : 0 ≤ rNum l at_ bad n ∧ rNum l at_ bad n < 256 ^ n := by
  have h1 := be_bound _ (h.cut (at_ := at_) bad n) (rBytes l at_ bad n).length (Nat.le_refl _)
  rw [List.take_length] at h1
  unfold rNum
  refine ⟨h1.1, ?_⟩
  have h2 := h1.2
  rw [rBytes_length] at h2
  split at h2
  · simpa using h2
  · rcases (by omega : n = 0 ∨ n = 1 ∨ n = 2 ∨ n = 3 ∨ n = 4) with rfl | rfl | rfl | rfl | rfl <;> simp only [Int.reducePow] at h2 ⊢ <;> omega

theorem rd_U8 (hR : RdOk l at_) (M : Own W0 w (rdE b v l at_ bad ++ L)) : Calls Try.prog 56 #[.pointer (some ⟨b, 0, none⟩)] w (Ret fun r w' =>
    r = .int .u8 (rNum l at_ bad 1) ∧ Own W0 w' (rdE b v l (rAt l at_ bad 1) (!rOk l at_ bad 1) ++ L)) := by
  have NH := hid (number_any 1 (by omega) hR M)
  obtain ⟨h0, h1⟩ : 0 ≤ rNum l at_ bad 1 ∧ rNum l at_ bad 1 < 256 := by simpa using rNum_bound (bad := bad) (at_ := at_) hR.bytes 1 (by omega)
  clear M hR
  go_enter Try.func56, Try.ntmps56
  go_wp2_with (go_at_call 55; refine NH.out.mono ?_; rintro _ w1 ⟨_, rfl, rfl, M1⟩; (have M1H := hid M1); clear M1)
  go_ret
  exact .mk ⟨rfl, M1H.out⟩

theorem rd_U16 (hR : RdOk l at_) (M : Own W0 w (rdE b v l at_ bad ++ L)) : Calls Try.prog 44 #[.pointer (some ⟨b, 0, none⟩)] w (Ret fun r w' =>
    r = .int .u16 (rNum l at_ bad 2) ∧ Own W0 w' (rdE b v l (rAt l at_ bad 2) (!rOk l at_ bad 2) ++ L)) := by
  have NH := hid (number_any 2 (by omega) hR M)
  obtain ⟨h0, h1⟩ : 0 ≤ rNum l at_ bad 2 ∧ rNum l at_ bad 2 < 65536 := by simpa using rNum_bound (bad := bad) (at_ := at_) hR.bytes 2 (by omega)
  clear M hR
  go_enter Try.func44, Try.ntmps44
  go_wp2_with (go_at_call 55; refine NH.out.mono ?_; rintro _ w1 ⟨_, rfl, rfl, M1⟩; (have M1H := hid M1); clear M1)
  go_ret
  exact .mk ⟨rfl, M1H.out⟩

/-- A number of 16 bits, with its sign. -/
def sgn (x : Int) : Int := if x > 32767 then x - 65536 else x
theorem wrap_i16 (x : Int) (h0 : 0 ≤ x) (h1 : x < 65536) : IntKind.i16.wrap x = sgn x := by
  unfold sgn
  simp only [IntKind.wrap, IntKind.bits, IntKind.signed]
  simp
  split <;> split <;> omega
theorem rd_I16 (hR : RdOk l at_) (M : Own W0 w (rdE b v l at_ bad ++ L)) : Calls Try.prog 34 #[.pointer (some ⟨b, 0, none⟩)] w (Ret fun r w' =>
    r = .int .i16 (sgn (rNum l at_ bad 2)) ∧ Own W0 w' (rdE b v l (rAt l at_ bad 2) (!rOk l at_ bad 2) ++ L)) := by
  have NH := hid (rd_U16 hR M)
  obtain ⟨h0, h1⟩ : 0 ≤ rNum l at_ bad 2 ∧ rNum l at_ bad 2 < 65536 := by simpa using rNum_bound (bad := bad) (at_ := at_) hR.bytes 2 (by omega)
  have hw := hid (wrap_i16 _ h0 h1)
  clear M hR
  go_enter Try.func34, Try.ntmps34
  go_wp2_with (go_at_call 44; refine NH.out.mono ?_; rintro _ w1 ⟨_, rfl, rfl, M1⟩; (have M1H := hid M1); clear M1)
  go_ret
  exact .mk ⟨by rw [← hw.out]; rfl, M1H.out⟩

theorem rd_Take (n : Int) (hat : at_ ≤ l.length) (hl : l.length ≤ 140737488355328) (M : Own W0 w (rdE b v l at_ bad ++ L)) : Calls Try.prog 47 #[.pointer (some ⟨b, 0, none⟩), .int .i64 n] w (Ret fun r w' =>
    Own W0 w' (.row 5 1 r (rBytes l at_ bad n).length (ints .u8 (rBytes l at_ bad n)) :: (rdE b v l (rAt l at_ bad n) (!rOk l at_ bad n) ++ L))) := by
  have NH := hid (next_any n hat M)
  have hlen : (rBytes l at_ bad n).length ≤ 140737488355328 := by
    unfold rBytes
    split
    · simp; omega
    · simp
  clear M
  go_enter Try.func47, Try.ntmps47
  go_wp2_with (first
    | (go_at_call 58; refine NH.out.mono ?_; rintro _ w1 ⟨_, rfl, p, rfl, hp, M1⟩; (have M1H := hid M1); (have hpH := hid hp); clear M1 hp)
    | (go_at_call 36; refine (clone_calls w1 hpH.out (ints_one _ _) hlen).mono ?_; rintro _ w2 ⟨_, rfl, M2⟩; (have M2H := hid M2); clear M2))
  go_ret
  exact .mk (M1H.out.lift M2H.out)

theorem rd_At (M : Own W0 w (rdE b v l at_ bad ++ L)) : Calls Try.prog 48 #[.pointer (some ⟨b, 0, none⟩)] w (Ret fun r w' => r = .int .i64 at_ ∧ w = w') := by
  obtain ⟨c0, c1, c2, -⟩ := rd_cells M
  clear M
  go_enter Try.func48, Try.ntmps48
  go_wp2
  go_ret
  exact .mk ⟨rfl, rfl⟩
theorem rd_Bad (M : Own W0 w (rdE b v l at_ bad ++ L)) : Calls Try.prog 45 #[.pointer (some ⟨b, 0, none⟩)] w (Ret fun r w' => r = .bool bad ∧ w = w') := by
  obtain ⟨c0, c1, c2, -⟩ := rd_cells M
  clear M c0 c1
  go_enter Try.func45, Try.ntmps45
  go_wp2
  go_ret
  exact .mk ⟨rfl, rfl⟩
end
theorem new_calls (w : World) {v : Value} {l : List Int} (hp : SliceAt w w.heap.size 1 v l.length (ints .u8 l)) (hn : l.length ≤ 140737488355328) :
    Calls Try.prog 33 #[v] w (Ret fun r w' => ∃ b v', r = .pointer (some ⟨b, 0, none⟩) ∧ Own w w' (rdE b v' l 0 false)) := by
  have NH := hid (clone_calls w hp (ints_one _ _) hn)
  clear hp hn
  go_enter Try.func33, Try.ntmps33
  go_wp2_with (go_at_call 36; refine NH.out.mono ?_; rintro _ w1 ⟨_, rfl, M1⟩; obtain ⟨A, c, rfl⟩ := M1.form (.head _); (have M1H := hid M1); clear M1)
  go_ret
  exact .mk ⟨_, _, rfl, M1H.out.alloc _ _⟩
end Go.Proofs.Yteoicpbfjkjogaa
