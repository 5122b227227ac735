/- Layer 8, plain: of the table that is built the places are read again. -/
import Derived.Test.YtmboeoobkccpoaaLocaD
import Derived.Test.YtmboeoobkccpoaaNums
namespace Go.Proofs.Ytmboeoobkccpoaa
open Go Go.RowKit
set_option linter.unusedVariables false
set_option linter.unusedSimpArgs false

theorem flat4_get (xs : List Int) (hx : ∀ x ∈ xs, 0 ≤ x ∧ x < 4294967296) {k : Nat} (hk : k < xs.length) : n4 (xs.flatMap b4) (4 * k) = xs.getD k 0 := by
  have e : xs.flatMap b4 = (xs.take k).flatMap b4 ++ (b4 (xs.getD k 0) ++ (xs.drop (k + 1)).flatMap b4) := by
    conv => lhs; rw [← List.take_append_drop k xs, List.flatMap_append, List.drop_eq_getElem_cons hk, List.flatMap_cons]
    simp [List.getD, hk]
  have hl : ((xs.take k).flatMap b4).length = 4 * k := by
    have : ∀ ys : List Int, (ys.flatMap b4).length = 4 * ys.length := by
      intro ys
      induction ys with
      | nil => rfl
      | cons y ys ih => rw [List.flatMap_cons, List.length_append, ih, b4_length, List.length_cons]; omega
    rw [this, List.length_take]; omega
  have hm : xs.getD k 0 ∈ xs := by
    have : xs.getD k 0 = xs[k] := by simp [List.getD, hk]
    rw [this]; exact List.getElem_mem hk
  rw [e]
  exact n4_app hl (hx _ hm).1 (hx _ hm).2
theorem flat2_get (xs : List Int) (hx : ∀ x ∈ xs, 0 ≤ x ∧ x < 131072) {k : Nat} (hk : k < xs.length) : n2 (xs.flatMap fun n => b2 (n / 2)) (2 * k) = xs.getD k 0 / 2 := by
  have e : (xs.flatMap fun n => b2 (n / 2)) = ((xs.take k).flatMap fun n => b2 (n / 2)) ++ (b2 (xs.getD k 0 / 2) ++ (xs.drop (k + 1)).flatMap fun n => b2 (n / 2)) := by
    conv => lhs; rw [← List.take_append_drop k xs, List.flatMap_append, List.drop_eq_getElem_cons hk, List.flatMap_cons]
    simp [List.getD, hk]
  have hl : ((xs.take k).flatMap fun n => b2 (n / 2)).length = 2 * k := by
    have : ∀ ys : List Int, (ys.flatMap fun n => b2 (n / 2)).length = 2 * ys.length := by
      intro ys
      induction ys with
      | nil => rfl
      | cons y ys ih => rw [List.flatMap_cons, List.length_append, ih, b2_length, List.length_cons]; omega
    rw [this, List.length_take]; omega
  have hm : xs.getD k 0 ∈ xs := by
    have : xs.getD k 0 = xs[k] := by simp [List.getD, hk]
    rw [this]; exact List.getElem_mem hk
  have := hx _ hm
  rw [e]
  exact n2_app hl (by omega) (by omega)
theorem mem_getD {xs : List Int} {x : Int} (h : x ∈ xs) : ∃ k, k < xs.length ∧ xs.getD k 0 = x := by
  obtain ⟨k, hk, rfl⟩ := List.getElem_of_mem h
  exact ⟨k, hk, by simp [List.getD, hk]⟩
theorem pn_locB {l : List Int} (g : Good l) {k : Nat} (hk : k ≤ l.length) : pn (locL l) (locB l) k = psum l k := by
  have hk' : k < (plc l).length := by rw [plc_length]; omega
  have hg : (plc l).getD k 0 = psum l k := plcK_get l hk
  unfold pn locB
  cases h : locL l
  · have hf := fun j (hj : j < (plc l).length) => bL_false (xs := plc l) h hj
    have e : locE false = fun n => b2 (n / 2) := by funext n; rfl
    rw [e, if_neg (by decide), flat2_get _ (fun x hx => by
      obtain ⟨j, hj, rfl⟩ := mem_getD hx
      have := plc_bd g hj
      have := (hf j hj).2
      omega) hk']
    have := (hf k hk').1
    rw [hg] at this ⊢
    omega
  · have e : locE true = b4 := by funext n; rfl
    rw [e, if_pos rfl, flat4_get _ (fun x hx => by
      obtain ⟨j, hj, rfl⟩ := mem_getD hx
      have := plc_bd g hj
      omega) hk', hg]
theorem psum_mono {l : List Int} (g : Good l) {j : Nat} : ∀ k, k ≤ l.length → j ≤ k → psum l j ≤ psum l k := by
  intro k
  induction k with
  | zero => intro _ h; rw [show j = 0 by omega]; exact Int.le_refl _
  | succ k ih =>
    intro hk hj
    by_cases e : j = k + 1
    · rw [e]; exact Int.le_refl _
    · have h1 := ih (by omega) (by omega)
      have h2 := (g.all k (by omega)).1
      rw [psum_succ (by omega)]; omega
theorem locB_len (l : List Int) : (locB l).length = locS (locL l) * (l.length + 1) := by
  unfold locB
  rw [flatE_length, plc_length]
theorem fine_locB {l : List Int} (g : Good l) : Fine (locL l) (locB l) l.length (psum l l.length) := by
  refine ⟨locB_len l, fun j hj => ?_⟩
  rw [pn_locB g (by omega)]
  refine ⟨?_, psum_mono g _ (Nat.le_refl _) (by omega)⟩
  cases j with
  | zero => exact Int.le_refl _
  | succ j => show pn _ _ j ≤ _; rw [pn_locB g (by omega)]; exact psum_mono g _ (by omega) (by omega)
theorem pns_locB {l : List Int} (g : Good l) : pns (locL l) (locB l) (l.length + 1) = plc l := by
  unfold pns plc plcK
  apply List.map_congr_left
  intro k hk
  rw [List.mem_range] at hk
  exact pn_locB g (by omega)
theorem bytes_locE (lg : Bool) (n : Int) : Bytes (locE lg n) := by unfold locE; cases lg; exact bytes_b2 _; exact bytes_b4 _
theorem bytes_locB (l : List Int) : Bytes (locB l) := by
  intro x hx
  unfold locB at hx
  obtain ⟨n, -, h⟩ := List.mem_flatMap.1 hx
  exact bytes_locE _ _ x h
/-- Sizes that are small and few. -/
theorem good_small {l : List Int} {m : Int} (hl : l.length ≤ 30) (h : ∀ x ∈ l, 0 ≤ x ∧ x ≤ 2000000) : Good l := by
  have hg : ∀ k, k < l.length → 0 ≤ l.getD k 0 ∧ l.getD k 0 ≤ 2000000 := fun k hk => by
    have : l.getD k 0 = l[k] := by simp [List.getD, hk]
    rw [this]; exact h _ (List.getElem_mem hk)
  have hs : ∀ k, k ≤ l.length → 0 ≤ psum l k ∧ psum l k ≤ 2000000 * k := by
    intro k
    induction k with
    | zero => intro _; rw [psum_zero]; omega
    | succ k ih =>
      intro hk
      have := ih (by omega)
      have := hg k (by omega)
      rw [psum_succ (by omega)]; omega
  exact ⟨by omega, fun k hk => ⟨(hg k hk).1, by have := hg k hk; have := hs k (by omega); omega⟩⟩
end Go.Proofs.Ytmboeoobkccpoaa
