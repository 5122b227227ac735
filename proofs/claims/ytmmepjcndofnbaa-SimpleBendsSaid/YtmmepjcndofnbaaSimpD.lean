/- Layer 12: the document's example; a glyph of points that is cut into contours. -/
import Derived.Test.YtmmepjcndofnbaaSimpC
import Derived.Test.YtmmepjcndofnbaaJoin
namespace Go.Proofs.Ytmmepjcndofnbaa
open Go Go.RowKit
set_option linter.unusedVariables false
set_option linter.unusedSimpArgs false
set_option maxRecDepth 100000

theorem sized_u16 : Sized Try.prog 27 38 1 2 := .mk' Try.underlying27 (.int .u16 0) (by kernel_rfl)
theorem sized_spot : Sized Try.prog 22 37 3 6 := .mk' Try.underlying22 (.agg #[.int .i16 0, .int .i16 0, .bool false]) (by kernel_rfl)

abbrev gEx : Sg := ⟨0, 0, 0, 0, [0], [], [(1, -1, true)]⟩
theorem gEx_ok : gEx.Ok := ⟨by decide, by decide, by decide, by decide, by decide, bytes_nil, by decide⟩
theorem gEx_r : sgR gEx = true := by decide
theorem gEx_b : sgB gEx = [0, 1, 0, 0, 0, 0, 0, 0, 0, 0, 0, 0, 0, 0, 23, 1, 1] := by decide
theorem BytesAt.tail {w : World} {A : Option Addr} {n c i : Nat} {l : List Int} (h : SliceAt w w.heap.size 1 (.slice A n c) n (ints .u8 l)) (hi : i < n) : ∃ ad, A = some ad ∧ SliceAt w w.heap.size 1 (.slice (some (ad.add i)) (n - i) (c - i)) (n - i) (ints .u8 (l.drop i)) := by
  obtain ⟨A', c', he, hnc, hcm, hA, hr⟩ := h
  injection he with he1 he2 he3
  subst he1; subst he3
  obtain ⟨ad, rfl, hb, -⟩ := hr.2 (by omega)
  refine ⟨ad, rfl, some (ad.add i), c - i, rfl, by omega, by omega, (by intro h; cases h), ?_⟩
  have := hr.tail (i := i) (by omega) hnc
  rwa [if_neg (by omega)] at this

set_option maxHeartbeats 2000000 in
theorem awake_calls (w : World) : Calls Try.prog 9 #[] w (Ret fun r w' => r = .bool true ∧ Below w.heap.size w w') := by
  have M0 := ((Own.start w).alloc 38 #[.int .u16 0]).alloc 37 #[.int .i16 1, .int .i16 (-1), .bool true]
  have hB := hid (bytes_yes _ (g := gEx) (ve := .slice (some ⟨w.heap.size, 0, none⟩) 1 1) (vp := .slice none 0 0) (vs := .slice (some ⟨(w.alloc (.cells #[.int .u16 0] 38)).heap.size, 0, none⟩) 1 1) gEx_ok
    ⟨SliceAt.built M0 (.tail _ (.head _)) 1 1 rfl (by unfold maxLen; omega), SliceAt.nil _ _ _, SliceAt.built M0 (.head _) 3 1 rfl (by unfold maxLen; omega)⟩ gEx_r)
  rw [gEx_b, alloc_size] at hB
  replace M0 := hid M0
  go_enter Try.func9, Try.ntmps9
  go_wp2_with (go_at_call 16; (with_reducible refine (hB.out).mono ?_); rintro _ w2 ⟨_, rfl, M⟩; obtain ⟨A2, c2, rfl⟩ := M.form (.head _); ((obtain ⟨A9, c9, he, hc9, hm9, -, -⟩ := M.slice (e := 5) (sz := 1) (v := .slice A2 17 c2) (n := 17) (xs := ints .u8 [0, 1, 0, 0, 0, 0, 0, 0, 0, 0, 0, 0, 0, 0, 23, 1, 1]) List.mem_cons_self)); ((injection he with he1 he2 he3)); (subst he1 he3); (clear he2); (unfold maxLen at hm9); ((obtain ⟨ad, rfl, ht⟩ := BytesAt.tail (i := 14) (M.slice (e := 5) (sz := 1) (v := .slice A2 17 c2) (n := 17) (xs := ints .u8 [0, 1, 0, 0, 0, 0, 0, 0, 0, 0, 0, 0, 0, 0, 23, 1, 1]) List.mem_cons_self) (by omega))); ((have hc14 : ¬ c2 = 14 := by omega)); (replace ht := hid ht); (have M2 := hid (M0.out.lift M)); clear M)
  have M3 := M2.out.alloc 5 #[.int .u8 23, .int .u8 1, .int .u8 1]
  have hS := hid (same_true _ (xs := [23, 1, 1]) (ht.out.below ((Own.start w2).alloc 5 #[.int .u8 23, .int .u8 1, .int .u8 1]).below) (SliceAt.built M3 (.head _) 1 3 rfl (by unfold maxLen; omega)))
  replace M3 := hid M3
  go_wp2_with (go_at_call 23; refine (hS.out).mono ?_; rintro _ w4 ⟨_, rfl, rfl, hb⟩; (have M4 := hid (M3.out.keep hb)); clear hb)
  go_ret
  exact .mk ⟨rfl, M4.out.below⟩
end Go.Proofs.Ytmmepjcndofnbaa
