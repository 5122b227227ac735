/- Layer 1: WordSubs: some bytes of some, if they are all there; at any place, of any size. -/
import Derived.Test.YtlfjfdaeoclakaaLaw01A
namespace Go.Proofs.Ytlfjfdaeoclakaa
open Go Go.RowKit
set_option linter.unusedVariables false
set_option linter.unusedSimpArgs false
set_option maxRecDepth 100000
attribute [local go_sem] nil_u8

/-- A cut of a slice of bytes. -/
theorem BytesAt.cut {w : World} {A : Option Addr} {c : Nat} {l : List Int} (h : BytesAt w (.slice A l.length c) l) {i j : Nat} (hij : i ≤ j) (hj : j ≤ l.length) :
    BytesAt w (.slice (if c = i then A else A.map (·.add i)) (j - i) (c - i)) ((l.drop i).take (j - i)) := by
  obtain ⟨A', c', he, hnc, hcm, hA, hr⟩ := h
  injection he with he1 he2 he3
  subst he1; subst he3
  have hlen : ((l.drop i).take (j - i)).length = j - i := by simp; omega
  have hc := hr.cut (i := i) (j := j) (cap := c) hij hj hnc
  rw [Nat.mul_one, Nat.mul_one, ints_cut] at hc
  refine ⟨_, _, by rw [hlen], by omega, by omega, fun h => ?_, by rw [hlen]; exact hc⟩
  split at h
  · omega
  · have := hA (by simpa using h); omega

theorem sub_yes (w : World) {v : Value} {l : List Int} {a n : Int} (h1 : BytesAt w v l) (hl : l.length ≤ 60) (a0 : 0 ≤ a) (a1 : a < 4294967296) (n0 : 0 ≤ n) (n1 : n < 4294967296) (h : a + n ≤ l.length) :
    Calls Try.prog 15 #[v, .int .u32 a, .int .u32 n] w (Ret fun r w' => ∃ q, r = .tuple #[q, .bool true] ∧ Own w w' [.row 5 1 q ((l.drop a.toNat).take n.toNat).length (ints .u8 ((l.drop a.toNat).take n.toNat))]) := by
  obtain ⟨A, c, rfl, hnc, hcm, -⟩ := id h1
  obtain ⟨i, rfl⟩ := Int.eq_ofNat_of_zero_le a0
  obtain ⟨k, rfl⟩ := Int.eq_ofNat_of_zero_le n0
  simp only [Int.toNat_natCast]
  have hcut := hid (h1.cut (i := i) (j := i + k) (by omega) (by omega))
  have hlen : ((l.drop i).take k).length = k := by simp; omega
  have hcl := hid (fun p (hp : BytesAt w p ((l.drop i).take k)) => clone_calls w hp (ints_one _ _) (by omega))
  have hik : (i : Int) + k ≤ l.length := by omega
  have a2 : (i : Int) ≤ 60 := by omega
  have n2 : (k : Int) ≤ 60 := by omega
  have hsub : i + k - i = k := by omega
  rw [hsub] at hcut
  unfold maxLen at hcm
  clear h1 h a0 a1 n0 n1 hlen
  have hsubH := hid hsub
  clear hsub
  by_cases hci : c = i
  · obtain rfl : k = 0 := by omega
    rw [if_pos hci] at hcut
    subst hci
    rw [Nat.sub_self] at hcut
    go_enter Try.func15, Try.ntmps15
    go_wp2_with fail
    refine (hcl.out _ hcut.out).mono ?_; rintro _ w1 ⟨_, rfl, M⟩; have M1 := hid M; clear M
    go_wp2_with fail
    go_ret2
    exact .mk ⟨_, rfl, M1.out⟩
  · rw [if_neg hci] at hcut
    go_enter Try.func15, Try.ntmps15
    go_wp2_with fail
    simp only [hsubH.out]
    refine (hcl.out _ hcut.out).mono ?_; rintro _ w1 ⟨_, rfl, M⟩; have M1 := hid M; clear M
    go_wp2_with fail
    go_ret2
    exact .mk ⟨_, rfl, M1.out⟩

theorem sub_no (w : World) {v : Value} {l : List Int} {a n : Int} (h1 : BytesAt w v l) (hl : l.length ≤ 60) (a0 : 0 ≤ a) (a1 : a < 4294967296) (n0 : 0 ≤ n) (n1 : n < 4294967296) (h : (l.length : Int) < a + n) :
    Calls Try.prog 15 #[v, .int .u32 a, .int .u32 n] w (Ret fun r w' => r = .tuple #[.slice none 0 0, .bool false] ∧ w = w') := by
  obtain ⟨A, c, rfl, hnc, hcm, -⟩ := h1
  unfold maxLen at hcm
  have hw1 : IntKind.u64.wrap (a + n) = a + n := IntWalk.u64_in _ (by omega)
  have hw2 : IntKind.u64.wrap (l.length : Int) = (l.length : Int) := IntWalk.u64_in _ (by omega)
  have hw3 : IntKind.u64.wrap a = a := IntWalk.u64_in _ (by omega)
  have hw4 : IntKind.u64.wrap n = n := IntWalk.u64_in _ (by omega)
  clear a1 n1
  go_enter Try.func15, Try.ntmps15
  go_wp2_with fail
  go_ret2
  exact .mk ⟨rfl, rfl⟩

theorem part_drop (l : List Int) (i k : Nat) : (l.take (i + k)).drop i = (l.drop i).take k := by
  rw [List.drop_take, show i + k - i = k by omega]
theorem wordSubs_calls (w : World) {v : Value} {xs : List Int} {a n : Int} (h1 : BytesAt w v xs) (a0 : 0 ≤ a) (a1 : a < 4294967296) (n0 : 0 ≤ n) (n1 : n < 4294967296) :
    Calls Try.prog 4 #[v, .int .u32 a, .int .u32 n] w (Ret fun r w' => r = .bool true ∧ Below w.heap.size w w') := by
  have hC := hid (fun w1 (h : Below w.heap.size w w1) => cut_calls w1 60 (by omega) (h1.below h) (by omega))
  have hl : (xs.take 60).length ≤ 60 := by simp; omega
  generalize xs.take 60 = l at *
  have hy := hid (fun (w1 : World) (v1 : Value) (hp : BytesAt w1 v1 l) => sub_yes w1 hp hl a0 a1 n0 n1)
  have hn := hid (fun (w1 : World) (v1 : Value) (hp : BytesAt w1 v1 l) => sub_no w1 hp hl a0 a1 n0 n1)
  clear h1
  by_cases h : a + n ≤ l.length
  · have hyH := hid (fun w1 v1 hp => hy.out w1 v1 hp h)
    obtain ⟨i, rfl⟩ := Int.eq_ofNat_of_zero_le a0
    obtain ⟨k, rfl⟩ := Int.eq_ofNat_of_zero_le n0
    have a2 : (i : Int) ≤ 60 := by omega
    have n2 : (k : Int) ≤ 60 := by omega
    have t1 : ¬ (l.length : Int) < i := by omega
    have t2 : ¬ (l.length : Int) - i < k := by omega
    have hpt := hid (fun (w1 : World) (v1 : Value) (hp : BytesAt w1 v1 l) => part_calls w1 i (i + k) (by omega) (by omega) hp (by omega))
    rw [part_drop] at hpt
    simp only [Int.toNat_natCast] at hyH
    clear hy hn a1 n1 h
    go_enter Try.func4, Try.ntmps4
    go_wp2_with fail
    refine (awake_calls _).mono ?_; rintro _ w1 ⟨_, rfl, rfl, hb1⟩; have hb1H := hid hb1; clear hb1
    go_wp2_with fail
    refine (hC.out _ hb1H.out).mono ?_; rintro _ w2 ⟨_, rfl, M⟩; obtain ⟨A, C, rfl⟩ := M.form (.head _); have M2 := hid (((Own.start w).keep hb1H.out).lift M); clear M
    go_wp2_with fail
    refine (hyH.out _ _ (M2.out.slice (e := 5) (.head _))).mono ?_; rintro _ w3 ⟨_, rfl, q, rfl, M⟩; obtain ⟨A3, C3, rfl⟩ := M.form (.head _); have M3 := hid (M2.out.lift M); clear M
    go_wp2_with fail
    refine (hpt.out _ _ (M3.out.slice (e := 5) (by simp))).mono ?_; rintro _ w4 ⟨_, rfl, M⟩; have M4 := hid (M3.out.lift M); clear M
    go_wp2_with fail
    refine (same_calls _ (M4.out.slice (e := 5) (xs := ints .u8 ((l.drop i).take k)) (by simp)) (M4.out.slice (e := 5) (.head _))).mono ?_
    rw [decide_eq_true (rfl : (l.drop i).take k = (l.drop i).take k)]
    rintro _ w5 ⟨_, rfl, rfl, hb⟩; have M5 := hid (M4.out.keep hb); clear hb
    go_wp2_with fail
    go_ret
    exact .mk ⟨rfl, M5.out.below⟩
  · have hnH := hid (fun w1 v1 hp => hn.out w1 v1 hp (by omega))
    clear hy hn
    by_cases t1 : (l.length : Int) < a
    all_goals
      go_enter Try.func4, Try.ntmps4
      go_wp2_with fail
      refine (awake_calls _).mono ?_; rintro _ w1 ⟨_, rfl, rfl, hb1⟩; have hb1H := hid hb1; clear hb1
      go_wp2_with fail
      refine (hC.out _ hb1H.out).mono ?_; rintro _ w2 ⟨_, rfl, M⟩; obtain ⟨A, C, rfl⟩ := M.form (.head _); have M2 := hid (((Own.start w).keep hb1H.out).lift M); clear M
      go_wp2_with fail
      refine (hnH.out _ _ (M2.out.slice (e := 5) (.head _))).mono ?_; rintro _ w3 ⟨_, rfl, rfl, rfl⟩
      go_wp2_with fail
      go_ret
      exact .mk ⟨rfl, M2.out.below⟩
end Go.Proofs.Ytlfjfdaeoclakaa
