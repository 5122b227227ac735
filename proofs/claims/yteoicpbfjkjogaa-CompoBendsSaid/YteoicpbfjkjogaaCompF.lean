/- Package compo: Is; the document's example; how many parts (CompoCounts). -/
import Derived.Test.YteoicpbfjkjogaaCompE
import Derived.Test.YteoicpbfjkjogaaRs
import Derived.Test.YteoicpbfjkjogaaJoin
import Derived.Test.YteoicpbfjkjogaaUntil
namespace Go.Proofs.Yteoicpbfjkjogaa
open Go Go.RowKit
set_option linter.unusedVariables false
set_option linter.unusedSimpArgs false
set_option maxRecDepth 100000

theorem is_calls (w : World) {V : Value} {l : List Int} (h1 : BytesAt w V l) (hB : Bytes l) (hn : l.length ≤ 140737488355328) :
    Calls Try.prog 14 #[V] w (Ret fun r w' => r = .bool (decide (sgn (n2 l 0) < 0)) ∧ Below w.heap.size w w') := by
  have M0 := hid (Own.start w)
  have h1H := hid h1
  have hBH := hid hB
  obtain ⟨q, hq⟩ : ∃ b, decide (sgn (n2 l 0) < 0) = b := ⟨_, rfl⟩
  rw [hq]
  clear h1 hB
  go_enter Try.func14, Try.ntmps14
  go_wp2_with (first
    | (go_at_call 33; (with_reducible refine (new_calls _ h1H.out hn).mono ?_); rintro _ w2 ⟨_, rfl, b, v, rfl, M⟩; ((have M2 := hid (RS.start (W0 := w) (L := []) hBH.out (by simpa using M)))); (clear M))
    | (go_at_call 34; (with_reducible refine (RS.I16 M2.out).mono ?_); rintro _ w3 ⟨_, rfl, rfl, M⟩; (have M3 := hid M); clear M))
  go_ret
  exact .mk ⟨by rw [← hq]; rfl, M3.out.below⟩
/-- The document's example. -/
def gEx : Cg := ⟨0, 0, 0, 0, [⟨3, 3, 1, 2, 16384, 0, 0, 16384⟩], []⟩
theorem gEx_ok : gEx.Ok := ⟨by decide, by decide, by decide, by decide, fun p hp => by
  have : p = ⟨3, 3, 1, 2, 16384, 0, 0, 16384⟩ := by simpa [gEx] using hp
  subst this
  exact ⟨by decide, by decide, by decide, by decide, by decide, by decide, by decide, by decide⟩, bytes_nil⟩
theorem gEx_r : cgR gEx = true := by decide
theorem gEx_b : cgB gEx = [255, 255, 0, 0, 0, 0, 0, 0, 0, 0, 0, 3, 0, 3, 0, 1, 0, 2] := by decide
theorem Reads.tail {w : World} {B : Nat} {ad : Addr} {n c i : Nat} {q : List Int} (h : Reads w B 1 (some ad) n (ints .u8 q)) (hi : i ≤ n) (hc : n ≤ c) : Reads w B 1 (if c = i then some ad else some (ad.add i)) (n - i) (ints .u8 (q.drop i)) := by
  have hl := h.1
  rw [ints_length] at hl
  have := h.cut (i := i) (j := n) (cap := c) hi (Nat.le_refl _) hc
  simp only [Nat.mul_one, Option.map_some] at this
  rw [List.take_of_length_le (by rw [List.length_drop, ints_length]; omega)] at this
  rw [show ints IntKind.u8 (q.drop i) = (ints .u8 q).drop i by simp [ints, List.map_drop]]
  exact this
theorem BytesAt.tail {w : World} {A : Option Addr} {n c i : Nat} {l : List Int} (h : SliceAt w w.heap.size 1 (.slice A n c) n (ints .u8 l)) (hi : i < n) : ∃ ad, A = some ad ∧ SliceAt w w.heap.size 1 (.slice (some (ad.add i)) (n - i) (c - i)) (n - i) (ints .u8 (l.drop i)) := by
  obtain ⟨A', c', he, hnc, hcm, hA, hr⟩ := h
  injection he with he1 he2 he3
  subst he1; subst he3
  obtain ⟨ad, rfl, hb, -⟩ := hr.2 (by omega)
  refine ⟨ad, rfl, some (ad.add i), c - i, rfl, by omega, by omega, (by intro h; cases h), ?_⟩
  have := hr.tail (i := i) (by omega) hnc
  rwa [if_neg (by omega)] at this

theorem ex_bytes : Bytes [255, 255, 0, 0, 0, 0, 0, 0, 0, 0, 0, 3, 0, 3, 0, 1, 0, 2] := by
  intro x hx
  simp only [List.mem_cons, List.not_mem_nil, or_false] at hx
  omega
theorem awake_calls (w : World) : Calls Try.prog 9 #[] w (Ret fun r w' => r = .bool true ∧ Below w.heap.size w w') := by
  have M0 := hid (Own.start w)
  have hB := hid (fun w1 (M : Own w w1 []) => cBytes_yes (w1.alloc (.cells (ptA ⟨3, 3, 1, 2, 16384, 0, 0, 16384⟩) 35 (0, 0))) (g := gEx) (vp := .slice (some ⟨w1.heap.size, 0, none⟩) 1 1) (vg := .slice none 0 0) gEx_ok
    ⟨SliceAt.built (M.alloc 35 (ptA ⟨3, 3, 1, 2, 16384, 0, 0, 16384⟩)) (.head _) 8 1 rfl (by unfold maxLen; omega), SliceAt.nil _ _ _⟩ gEx_r)
  rw [gEx_b] at hB
  go_enter Try.func9, Try.ntmps9
  go_upto_region 2 with (first
    | (go_at_call 11; (with_reducible refine (unit_calls _).mono ?_); rintro _ w1 ⟨_, rfl, rfl, hb⟩; (have M1 := hid (M0.out.keep hb)); clear hb)
    | (go_at_call 13; (have hC := hB.out w1 M1.out); (refine hC.mono ?_); clear hC; rintro _ w2 ⟨_, rfl, M⟩; obtain ⟨A2, c2, rfl⟩ := M.form (.head _); obtain ⟨A9, c9, he, hc9, hm9, -, -⟩ := M.slice (e := 5) (sz := 1) (v := .slice A2 18 c2) (n := 18) (xs := ints .u8 [255, 255, 0, 0, 0, 0, 0, 0, 0, 0, 0, 3, 0, 3, 0, 1, 0, 2]) List.mem_cons_self; (injection he with he1 he2 he3); subst he1 he3; clear he2; unfold maxLen at hm9; obtain ⟨ad, rfl, ht⟩ := BytesAt.tail (i := 10) (M.slice (e := 5) (sz := 1) (v := .slice A2 18 c2) (n := 18) (xs := ints .u8 [255, 255, 0, 0, 0, 0, 0, 0, 0, 0, 0, 3, 0, 3, 0, 1, 0, 2]) List.mem_cons_self) (by omega); (have hc14 : ¬ c2 = 10 := by omega); replace ht := hid ht; (have M2 := hid ((M1.out.alloc 35 (ptA ⟨3, 3, 1, 2, 16384, 0, 0, 16384⟩)).lift M)); clear M))
  have M3 := M2.out.alloc 5 #[.int .u8 0, .int .u8 3, .int .u8 0, .int .u8 3, .int .u8 0, .int .u8 1, .int .u8 0, .int .u8 2]
  have hS := hid (same_true _ (xs := [0, 3, 0, 3, 0, 1, 0, 2]) (ht.out.below ((Own.start w2).alloc 5 #[.int .u8 0, .int .u8 3, .int .u8 0, .int .u8 3, .int .u8 0, .int .u8 1, .int .u8 0, .int .u8 2]).below) (SliceAt.built M3 (.head _) 1 8 rfl (by unfold maxLen; omega)))
  replace M3 := hid M3
  go_wp2_with (first
    | (go_at_call 18; refine (hS.out).mono ?_; rintro _ w4 ⟨_, rfl, rfl, hb⟩; (have M4 := hid (M3.out.keep hb)); clear hb)
    | (go_at_call 14; (have hC := is_calls w4 (V := .slice (some ad) 18 c2) (l := [255, 255, 0, 0, 0, 0, 0, 0, 0, 0, 0, 3, 0, 3, 0, 1, 0, 2]) (M4.out.bytes (e := 5) (n := 18) (by simp) rfl) ex_bytes (by decide)); (rw [show decide (sgn (n2 [255, 255, 0, 0, 0, 0, 0, 0, 0, 0, 0, 3, 0, 3, 0, 1, 0, 2] 0) < 0) = true by decide] at hC); ((with_reducible refine hC.mono ?_); clear hC); rintro _ w5 ⟨_, rfl, rfl, hb⟩; (have M5 := hid (M4.out.keep hb)); clear hb))
  go_ret
  exact .mk ⟨rfl, M5.out.below⟩
end Go.Proofs.Yteoicpbfjkjogaa
