/- Package word: what each function does to bytes that are read, and to bytes that grow. -/
import Derived.Test.YteoicpbfjkjogaaProg
import Derived.Test.YteoicpbfjkjogaaSep
import Derived.Deep.QuietTactic
import Derived.BigQuiet
import Derived.WalkSpells
import Derived.KernelRfl
namespace Go.Proofs.Yteoicpbfjkjogaa
open Go Go.RowKit
set_option linter.unusedVariables false
set_option linter.unusedSimpArgs false

theorem sized_u8 : Sized Try.prog 22 5 1 1 := Sized.mk' Try.underlying22 (.int .u8 0) (by kernel_rfl)
theorem nil_u8 (W : World) (a : Option Addr) (n c : Nat) : (binOp .eql 22 (.slice a n c) (.slice none 0 0)).run Try.prog W = .ok (.bool a.isNone) W := Lib.run_eql_slice_nil W 22 5 a n c 0 0 Try.underlying22
attribute [local go_sem] nil_u8

theorem clone_calls (w : World) {v : Value} {n : Nat} {xs : List Value} (hp : SliceAt w w.heap.size 1 v n xs) (h1 : ∀ u ∈ xs, u.oneCell' = true) (hn : n ≤ 140737488355328) :
    Calls Try.prog 36 #[v] w (Ret fun v' w' => Own w w' [.row 5 1 v' n xs]) := by
  have hp' := hp
  obtain ⟨A, c, rfl, hnc, hcm, hA, hr⟩ := hp'
  cases A with
  | none =>
    obtain rfl : c = 0 := hA rfl
    obtain rfl : n = 0 := by omega
    obtain rfl : xs = [] := List.eq_nil_of_length_eq_zero (by simpa using hr.1)
    clear hp hr hA h1
    go_enter Try.func36, Try.ntmps36
    go_wp2
    go_ret
    exact .mk ((Own.start w).nil_row _ _)
  | some ad =>
    have M0 := hid (((Own.start w).alloc 5 #[]).as_row (L1 := []) (L2 := []) 1 0 rfl (by unfold maxLen; omega))
    have hpH := hid hp
    have h1H := hid h1
    clear hp hr hA h1
    go_enter Try.func36, Try.ntmps36
    go_wp2_with (at_builtin; refine wpList_append_Own rfl (.tmp 5) (.tmp 6) _ rfl sized_u8 rfl rfl (L1 := []) (L2 := []) M0.out (hpH.out.below ((Below.refl _ _).alloc (Nat.le_refl _) _)) h1H.out (by unfold maxLen; omega) (by omega) ?_; intro v' w' M')
    go_ret
    exact .mk (by simpa using M')

/-! ## Reader -/
/-- A reader: the bytes that it holds (a row of its own), how many were gone through, were there too few? -/
def rdE (b : Nat) (v : Value) (l : List Int) (at_ : Nat) (bad : Bool) : List Ent :=
  [.blk b 101 #[v, .int .i64 at_, .bool bad], .row 5 1 v l.length (ints .u8 l)]

theorem next_nil (n : Int) (w : World) : Calls Try.prog 58 #[.pointer none, .int .i64 n] w (Ret fun r w' => r = .tuple #[.slice none 0 0, .bool false] ∧ w = w') := by
  go_enter Try.func58, Try.ntmps58
  go_wp2
  go_ret2
  exact .mk ⟨rfl, rfl⟩

section
variable {W0 w : World} {L : List Ent} {b at_ : Nat} {v : Value} {l : List Int} {bad : Bool}
theorem rd_cells (M : Own W0 w (rdE b v l at_ bad ++ L)) : w.cell? ⟨b, 0, none⟩ = some v ∧ w.cell? ⟨b, 1, none⟩ = some (.int .i64 at_) ∧ w.cell? ⟨b, 2, none⟩ = some (.bool bad) ∧
    w.frozen? ⟨b, 0, none⟩ = false ∧ w.frozen? ⟨b, 1, none⟩ = false ∧ w.frozen? ⟨b, 2, none⟩ = false := by
  have hm : Ent.blk b 101 #[v, .int .i64 at_, .bool bad] ∈ rdE b v l at_ bad ++ L := by simp [rdE]
  exact ⟨M.cell hm 0, M.cell hm 1, M.cell hm 2, M.free hm 0, M.free hm 1, M.free hm 2⟩

theorem next_bad (n : Int) (M : Own W0 w (rdE b v l at_ true ++ L)) : Calls Try.prog 58 #[.pointer (some ⟨b, 0, none⟩), .int .i64 n] w (Ret fun r w' => r = .tuple #[.slice none 0 0, .bool false] ∧ Own W0 w' (rdE b v l at_ true ++ L)) := by
  obtain ⟨c0, c1, c2, -⟩ := rd_cells M
  have MH := hid M
  clear M c0 c1
  go_enter Try.func58, Try.ntmps58
  go_wp2
  go_ret2
  exact .mk ⟨rfl, MH.out⟩

theorem next_few (n : Int) (hn : n < 0 ∨ (l.length : Int) - at_ < n) (hat : at_ ≤ l.length) (M : Own W0 w (rdE b v l at_ false ++ L)) : Calls Try.prog 58 #[.pointer (some ⟨b, 0, none⟩), .int .i64 n] w (Ret fun r w' => r = .tuple #[.slice none 0 0, .bool false] ∧ Own W0 w' (rdE b v l at_ true ++ L)) := by
  obtain ⟨c0, c1, c2, f0, f1, f2⟩ := rd_cells M
  have hs : SliceAt w w.heap.size 1 v l.length (ints .u8 l) := M.slice (e := 5) (by simp [rdE])
  obtain ⟨A, c, rfl, hnc, hcm, hA, hr⟩ := hs
  unfold maxLen at hcm
  have MH := hid M
  clear M hA hr
  by_cases h0 : n < 0
  · have e2 : decide (n < 0) = true := by simpa using h0
    go_enter Try.func58, Try.ntmps58
    go_wp2
    go_quiet (fail)
    go_wp2
    go_ret2
    exact .mk ⟨rfl, ((MH.out.drewN _).set (L1 := []) 2 (.bool true))⟩
  · have e2 : decide (n < 0) = false := by simpa using h0
    have h3 : (l.length : Int) - at_ < n := by omega
    go_enter Try.func58, Try.ntmps58
    go_wp2
    go_quiet (fail)
    go_wp2
    go_ret2
    exact .mk ⟨rfl, ((MH.out.drewN _).set (L1 := []) 2 (.bool true))⟩

theorem next_ok (n : Nat) (hn : at_ + n ≤ l.length) (M : Own W0 w (rdE b v l at_ false ++ L)) : Calls Try.prog 58 #[.pointer (some ⟨b, 0, none⟩), .int .i64 n] w (Ret fun r w' =>
    ∃ p, r = .tuple #[p, .bool true] ∧ SliceAt w' w'.heap.size 1 p n (ints .u8 ((l.drop at_).take n)) ∧ Own W0 w' (rdE b v l (at_ + n) false ++ L)) := by
  obtain ⟨c0, c1, c2, f0, f1, f2⟩ := rd_cells M
  have hs : SliceAt w w.heap.size 1 v l.length (ints .u8 l) := M.slice (e := 5) (by simp [rdE])
  obtain ⟨A, c, rfl, hnc, hcm, hA, hr⟩ := hs
  unfold maxLen at hcm
  have MH := hid M
  have hrH := hid hr
  have hAH := hid hA
  clear M hA hr
  have e1 : (n : Int) ≤ (l.length : Int) - at_ := by omega
  have e2 : decide ((n : Int) < 0) = false := by simp
  rcases Nat.eq_zero_or_pos n with rfl | h0
  · go_enter Try.func58, Try.ntmps58
    go_wp2
    go_quiet (fail)
    go_wp2
    go_quiet (fail)
    go_wp2
    go_ret2
    refine .mk ⟨_, rfl, ?_, ?_⟩
    · refine ⟨_, _, rfl, Nat.le_refl _, by unfold maxLen; omega, fun _ => rfl, by simp [ints], fun h => absurd h (by omega)⟩
    · exact (MH.out.drewN _).set (L1 := []) 1 (.int .i64 ((at_ + 0 : Nat) : Int))
  · have hne : ¬ at_ + n = at_ := by omega
    have hne2 : ¬ n = 0 := by omega
    have hsub : at_ + n - at_ = n := by omega
    go_enter Try.func58, Try.ntmps58
    go_wp2
    go_quiet (fail)
    go_wp2
    go_quiet (fail)
    go_wp2
    go_ret2
    simp only [hsub]
    refine .mk ⟨_, rfl, ?_, (MH.out.drewN _).set (L1 := []) 1 (.int .i64 ((at_ + n : Nat) : Int))⟩
    have hc := (hrH.out.cut (i := at_) (j := at_ + n) (cap := l.length + 1) (by omega) hn (by omega))
    rw [if_neg (by omega), Nat.mul_one, Nat.mul_one, show at_ + n - at_ = n by omega, ints_cut] at hc
    refine ⟨_, _, rfl, Nat.le_refl _, by unfold maxLen; omega, fun h => ?_, (hc.keep fun k hk ⟨ad, hk1, hk2⟩ => Below.heap_setCell _ _ _ _ fun hk3 => ?_).more (by simp [World.setCell])⟩
    · have := hAH.out (by simpa using h); omega
    · simp only [Option.map_eq_some_iff] at hk1
      obtain ⟨ad0, rfl, rfl⟩ := hk1
      refine MH.out.apart_of (y := .row 5 1 (.slice (some ad0) l.length c) l.length (ints .u8 l)) (by simp [rdE]) (.inl trivial) (k := b) rfl ?_
      rw [block_of_add] at hk2
      exact congrArg some (hk2.trans hk3)

end
end Go.Proofs.Yteoicpbfjkjogaa
