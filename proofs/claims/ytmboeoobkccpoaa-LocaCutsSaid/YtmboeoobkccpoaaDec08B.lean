/- Layer 8, plain: pieces one behind the other. -/
import Derived.Test.YtmboeoobkccpoaaDec08
import Derived.Test.YtmboeoobkccpoaaOpen
import Derived.Test.YtmboeoobkccpoaaRefB
namespace Go.Proofs.Ytmboeoobkccpoaa
open Go Go.RowKit
set_option linter.unusedVariables false
set_option linter.unusedSimpArgs false

theorem dec_bytes2 {w : World} {V : Value} (h : Dec w (.slice 1 (.slice 1 (.int .u8))) [V]) : ∃ (vs : List Value) (ls : List (List Int)), SliceAt w w.heap.size 1 V vs.length vs ∧ AllAt w vs ls ∧ ∀ l ∈ ls, Bytes l := by
  obtain ⟨v, n, xs, e, hs, hd⟩ := h
  simp only [List.cons.injEq, and_true] at e
  subst e
  obtain ⟨bs, h1, h2, h3⟩ := chunks (fun a : Value × List Int => [a.1]) (fun a => BytesAt w a.1 a.2 ∧ Bytes a.2) 1 n xs hs.len fun i hi => by
    obtain ⟨v, m, ys, e1, h1, h2⟩ := hd i hi
    obtain ⟨zs, h3, h4⟩ := arg_ints (k := .u8) (v := v) (w := w) ⟨v, m, ys, rfl, h1, h2⟩
    exact ⟨(v, zs), e1, h3, fun x hx => wf_u8 (h4 x hx)⟩
  have e2 : xs = bs.map (·.1) := by rw [h2]; clear h1 h2 h3; induction bs with
    | nil => rfl
    | cons b bs ih => rw [List.flatMap_cons, ih]; rfl
  subst e2
  refine ⟨bs.map (·.1), bs.map (·.2), by rw [List.length_map, h1]; exact hs, ⟨by simp, fun i u l hu hl => ?_⟩, fun l hl => ?_⟩
  · rw [List.getElem?_map] at hu hl
    cases hb : bs[i]? with
    | none => rw [hb] at hu; cases hu
    | some b =>
      rw [hb] at hu hl
      simp only [Option.map_some, Option.some.injEq] at hu hl
      subst hu hl
      exact (h3 b (List.mem_of_getElem? hb)).1
  · obtain ⟨b, hb, rfl⟩ := List.mem_map.1 hl
    exact (h3 b hb).2
def gK (ls : List (List Int)) (k : Nat) : List (List Int) := ((ls.take k).take 12).map (List.take 40)
def szs (gs : List (List Int)) : List Int := gs.map fun g => (g.length : Int)
theorem gK_succ {ls : List (List Int)} {k : Nat} (hk : k < ls.length) (h12 : k < 12) : gK ls (k + 1) = gK ls k ++ [(ls[k]).take 40] := by
  unfold gK
  rw [List.take_take, List.take_take, Nat.min_eq_right (by omega), Nat.min_eq_right (by omega), List.take_succ_eq_append_getElem hk, List.map_append]
  rfl
theorem gK_same {ls : List (List Int)} {k : Nat} (h12 : ¬ k < 12) : gK ls (k + 1) = gK ls k := by
  unfold gK
  rw [List.take_take, List.take_take, Nat.min_eq_left (by omega), Nat.min_eq_left (by omega)]
theorem gK_length (ls : List (List Int)) (k : Nat) : (gK ls k).length = min (min k 12) ls.length := by
  unfold gK
  rw [List.length_map, List.length_take, List.length_take]; omega
theorem gK_le (ls : List (List Int)) (k : Nat) : ∀ g ∈ gK ls k, g.length ≤ 40 := by
  intro g hg
  obtain ⟨l, -, rfl⟩ := List.mem_map.1 hg
  rw [List.length_take]; omega
theorem gK_bytes {ls : List (List Int)} (h : ∀ l ∈ ls, Bytes l) (k : Nat) : Bytes (gK ls k).flatten := by
  intro x hx
  obtain ⟨g, hg, hx⟩ := List.mem_flatten.1 hx
  obtain ⟨l, hl, rfl⟩ := List.mem_map.1 hg
  exact h l (List.mem_of_mem_take (List.mem_of_mem_take hl)) x (List.mem_of_mem_take hx)
theorem flat_sum (gs : List (List Int)) : ((gs.flatten.length : Nat) : Int) = (szs gs).sum := by
  induction gs with
  | nil => rfl
  | cons g gs ih => rw [List.flatten_cons, List.length_append]; unfold szs at *; rw [List.map_cons, List.sum_cons, ← ih]; omega
theorem flat_bd {gs : List (List Int)} (h : ∀ g ∈ gs, g.length ≤ 40) : gs.flatten.length ≤ 40 * gs.length := by
  induction gs with
  | nil => simp
  | cons g gs ih =>
    have h1 := h g (by simp)
    have h2 := ih fun x hx => h x (by simp [hx])
    rw [List.flatten_cons, List.length_append, List.length_cons]; omega
theorem szs_take (gs : List (List Int)) (k : Nat) : psum (szs gs) k = ((gs.take k).flatten.length : Nat) := by
  rw [flat_sum]
  unfold psum szs
  rw [List.map_take]
theorem piece {gs : List (List Int)} {k : Nat} (hk : k < gs.length) : (gs.flatten.drop (gs.take k).flatten.length).take (gs[k]).length = gs[k] := by
  have e : gs.flatten = (gs.take k).flatten ++ (gs[k] ++ (gs.drop (k + 1)).flatten) := by
    conv => lhs; rw [← List.take_append_drop k gs, List.flatten_append, List.drop_eq_getElem_cons hk, List.flatten_cons]
  rw [e, List.drop_left, List.take_left]
theorem flat_succ' {gs : List (List Int)} {k : Nat} (hk : k < gs.length) : (gs.take (k + 1)).flatten.length = (gs.take k).flatten.length + (gs[k]).length := by
  rw [List.take_succ_eq_append_getElem hk, List.flatten_append, List.length_append]; simp
end Go.Proofs.Ytmboeoobkccpoaa
