/- Layer 13: so many bytes from a place on, if they are there (take); what the document's reader meets, in plain words. -/
import Derived.Test.YteoicpbfjkjogaaCompM
import Derived.Test.YteoicpbfjkjogaaLaw13B
namespace Go.Proofs.Yteoicpbfjkjogaa
open Go Go.RowKit
set_option linter.unusedVariables false
set_option linter.unusedSimpArgs false
set_option maxRecDepth 100000

theorem cutB {w : World} {A : Option Addr} {c n : Nat} {l : List Int} (h : SliceAt w w.heap.size 1 (.slice A n c) n (ints .u8 l)) {i j : Nat} (hij : i ≤ j) (hj : j ≤ n) :
    SliceAt w w.heap.size 1 (.slice (if c = i then A else A.map (·.add i)) (j - i) (c - i)) (j - i) (ints .u8 ((l.drop i).take (j - i))) := by
  obtain ⟨A', c', he, hnc, hcm, hA, hr⟩ := h
  injection he with he1 he2 he3
  subst he1; subst he3
  have hc := hr.cut (i := i) (j := j) (cap := c) hij hj hnc
  rw [Nat.mul_one, Nat.mul_one, ints_cut] at hc
  refine ⟨_, _, rfl, by omega, by omega, fun h => ?_, hc⟩
  split at h
  · omega
  · have := hA (by simpa using h); omega
theorem take_no (w : World) {A : Option Addr} {c n : Nat} {at_ k : Nat} (hn : n ≤ 140737488355328) (ha : at_ ≤ 4611686018427387904) (hk : k ≤ 4611686018427387904) (h : n < at_ + k) :
    Calls Try.prog 49 #[.slice A n c, .int .i64 at_, .int .i64 k] w (Ret fun r w' => r = .tuple #[.slice none 0 0, .bool false] ∧ w = w') := by
  have h1 : (at_ : Int) > (n : Int) - (k : Int) := by omega
  have hw : IntKind.i64.wrap ((n : Int) - (k : Int)) = (n : Int) - (k : Int) := IntWalk.i64_in _ (by omega)
  clear h
  go_enter Try.func49, Try.ntmps49
  go_wp2
  go_ret2
  exact .mk ⟨rfl, rfl⟩
/-- The value of a cut. -/
def cutV (A : Option Addr) (c at_ : Nat) : Option Addr := if c = at_ then A else A.map (·.add at_)
theorem cutS {w : World} {A : Option Addr} {c n : Nat} {l : List Int} (h : SliceAt w w.heap.size 1 (.slice A n c) n (ints .u8 l)) {at_ k : Nat} (hk : at_ + k ≤ n) :
    SliceAt w w.heap.size 1 (.slice (cutV A c at_) k (c - at_)) k (ints .u8 ((l.drop at_).take k)) := by
  have hC := cutB h (i := at_) (j := at_ + k) (by omega) hk
  rw [show at_ + k - at_ = k by omega] at hC
  exact hC
theorem take_yes (w : World) {A : Option Addr} {c n : Nat} {at_ k : Nat} (hc : n ≤ c) (hcm : c ≤ maxLen) (hn : n ≤ 140737488355328) (h : at_ + k ≤ n) :
    Calls Try.prog 49 #[.slice A n c, .int .i64 at_, .int .i64 k] w (Ret fun r w' => r = .tuple #[.slice (cutV A c at_) k (c - at_), .bool true] ∧ w = w') := by
  unfold maxLen at hcm
  have h1 : ¬ (at_ : Int) > (n : Int) - (k : Int) := by omega
  have hw : IntKind.i64.wrap ((n : Int) - (k : Int)) = (n : Int) - (k : Int) := IntWalk.i64_in _ (by omega)
  have hw2 : IntKind.i64.wrap ((at_ : Int) + (k : Int)) = (at_ : Int) + (k : Int) := IntWalk.i64_in _ (by omega)
  have hak : (at_ : Int) + k ≤ n := by omega
  have hac : at_ + k ≤ c := by omega
  have hs : at_ + k - at_ = k := by omega
  unfold cutV
  by_cases hca : c = at_
  · rw [if_pos hca]
    clear h hc
    subst hca
    rw [Nat.sub_self]
    go_enter Try.func49, Try.ntmps49
    go_wp2
    go_ret2
    exact .mk ⟨rfl, rfl⟩
  · rw [if_neg hca]
    clear h hc
    go_enter Try.func49, Try.ntmps49
    go_wp2
    go_ret2
    exact .mk ⟨rfl, rfl⟩
/-! ## a part of bytes -/
theorem getD_cut {l : List Int} {s k i : Nat} (hi : i < k) (h : s + k ≤ l.length) : ((l.drop s).take k).getD i 0 = l.getD (s + i) 0 := by
  simp only [List.getD_eq_getElem?_getD]
  rw [List.getElem?_take, if_pos hi, List.getElem?_drop]
theorem n2_cut {l : List Int} {s k i : Nat} (hi : i + 2 ≤ k) (h : s + k ≤ l.length) : n2 ((l.drop s).take k) i = n2 l (s + i) := by
  unfold n2
  have hl : ((l.drop s).take k).length = k := by rw [List.length_take, List.length_drop]; omega
  rw [hl, if_pos hi, if_pos (by omega), getD_cut (by omega) h, getD_cut (by omega) h]
  congr 2
/-! ## what is none -/
theorem kd_or {f : Int} : kd f = -1 ∨ kd f = 0 ∨ kd f = 1 ∨ kd f = 2 ∨ kd f = 4 := by
  unfold kd
  split
  · split <;> simp
  · split
    · split <;> simp
    · split <;> simp
theorem kd_less {f : Int} (f0 : 0 ≤ f) : kd (f - 32 * b01 (hasB f 32)) = kd f := by
  have e : f - 32 * b01 (hasB f 32) = f - 32 * (f / 32 % 2) := by rw [b01_has]
  have e8 : hasB (f - 32 * b01 (hasB f 32)) 8 = hasB f 8 := by rw [e]; unfold hasB; rw [show (f - 32 * (f / 32 % 2)) / 8 % 2 = f / 8 % 2 by omega]
  have e64 : hasB (f - 32 * b01 (hasB f 32)) 64 = hasB f 64 := by rw [e]; unfold hasB; rw [show (f - 32 * (f / 32 % 2)) / 64 % 2 = f / 64 % 2 by omega]
  have e128 : hasB (f - 32 * b01 (hasB f 32)) 128 = hasB f 128 := by rw [e]; unfold hasB; rw [show (f - 32 * (f / 32 % 2)) / 128 % 2 = f / 128 % 2 by omega]
  unfold kd
  rw [e8, e64, e128]
theorem partsB_all {ps : List Pt} {n i : Nat} (h : partsB ps n = true) (hi : i < n) : partB (pAt ps i) = true := (of_decide_eq_true h i hi).2
theorem cpS_no {l : List Int} (h : ∀ ps a, ptsF 201 l 10 = some (ps, a) → cgR (boxS l ps []) = false ∧ ∀ pr, cgR (boxS l ps pr) = false) : cpS l = none := by
  unfold cpS
  split
  · cases hp : ptsF 201 l 10 with
    | none => rfl
    | some r =>
      obtain ⟨ps, a⟩ := r
      rw [Option.bind_some]
      cases ht : tailS l ps a with
      | none => rfl
      | some g =>
        rw [Option.bind_some]
        have : cgR g.1 = false := by
          unfold tailS at ht
          split at ht
          · split at ht
            · injection ht with ht; subst ht; exact (h ps a hp).2 _
            · cases ht
          · injection ht with ht; subst ht; exact (h ps a hp).1
        rw [this]; rfl
  · rfl
theorem cpS_pts {l : List Int} (h : ptsF 201 l 10 = none) : cpS l = none := cpS_no fun ps a hp => by rw [h] at hp; cases hp
theorem cgR_bad {l : List Int} {ps : List Pt} {pr : List Int} (h : (∃ i, i < ps.length ∧ partB (pAt ps i) = false) ∨ 200 < ps.length) : cgR (boxS l ps pr) = false := by
  rw [Bool.eq_false_iff]
  intro hc
  obtain ⟨h1, -, h3, -, -⟩ := cgR_parts hc
  have h1' : partsB ps ps.length = true := h1
  have h3' : ps.length ≤ 200 := h3
  rcases h with ⟨i, hi, hp⟩ | h
  · rw [partsB_all h1' hi] at hp; cases hp
  · omega
/-- There is no such glyph: too few bytes, a kind that is none, too many parts. -/
theorem cpS_stop {l : List Int} (hB : Bytes l) {j a : Nat} {done : List Pt} (hsp : SpecL l j a true done) (hdl : done.length = j) (ha : a ≤ l.length) (hj : j ≤ 200) (h : l.length < a + wid (n2 l a) ∨ kd (n2 l a) < 0 ∨ 200 ≤ j) : cpS l = none := by
  have h2 := hsp.2 ha
  rw [if_pos rfl, show 201 - j = (201 - (j + 1)) + 1 by omega, ptsF_succ (201 - (j + 1)) l a] at h2
  by_cases hw : a + wid (n2 l a) ≤ l.length
  · rw [if_pos hw] at h2
    have hbad : ∀ rest : List Pt, (∃ i, i < (done ++ ptAt l a :: rest).length ∧ partB (pAt (done ++ ptAt l a :: rest) i) = false) ∨ 200 < (done ++ ptAt l a :: rest).length := fun rest => by
      rcases h with h | h | h
      · omega
      · refine .inl ⟨j, by simp [hdl], ?_⟩
        have e : pAt (done ++ ptAt l a :: rest) j = ptAt l a := by
          unfold pAt
          simp [List.getD, List.getElem?_append_right, hdl]
        rw [e]
        have hk : kd (ptAt l a).f = -1 := by
          show kd (n2 l a - 32 * b01 (hasB (n2 l a) 32)) = -1
          rw [kd_less (n2_bound hB a).1]
          rcases kd_or (f := n2 l a) with e | e | e | e | e <;> omega
        unfold partB matB
        rw [hk]
        simp
      · right; simp [hdl]; omega
    refine cpS_no fun ps a2 hp => ?_
    rw [hp] at h2
    have : ∃ rest, ps = done ++ ptAt l a :: rest := by
      split at h2
      · cases hq : ptsF (201 - (j + 1)) l (a + wid (n2 l a)) with
        | none => rw [hq] at h2; cases h2
        | some r =>
          rw [hq] at h2
          simp only [Option.map_some, Option.some.injEq, Prod.mk.injEq] at h2
          exact ⟨r.1, h2.1⟩
      · simp only [Option.map_some, Option.some.injEq, Prod.mk.injEq] at h2
        exact ⟨[], h2.1⟩
    obtain ⟨rest, rfl⟩ := this
    exact ⟨cgR_bad (hbad rest), fun pr => cgR_bad (hbad rest)⟩
  · rw [if_neg hw] at h2
    exact cpS_pts h2
/-- The parts are read: what stands behind them. -/
theorem cpS_tail {l : List Int} {j a : Nat} {done : List Pt} (h0 : n2 l 0 = 65535) (hsp : SpecL l j a false done) (ha : a ≤ l.length) :
    cpS l = (tailS l done a).bind fun g => if cgR g.1 then some g else none := by
  have h2 := hsp.2 ha
  rw [if_neg (by simp)] at h2
  unfold cpS
  rw [if_pos h0, h2]; rfl
end Go.Proofs.Yteoicpbfjkjogaa
