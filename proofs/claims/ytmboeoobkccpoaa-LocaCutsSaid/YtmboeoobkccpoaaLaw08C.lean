/- Layer 8: LocaParses. -/
import Derived.Test.YtmboeoobkccpoaaLocaE
import Derived.Test.YtmboeoobkccpoaaLocaF
import Derived.Test.YtmboeoobkccpoaaLaw08A
namespace Go.Proofs.Ytmboeoobkccpoaa
open Go Go.RowKit
set_option linter.unusedVariables false
set_option linter.unusedSimpArgs false
set_option maxRecDepth 100000

theorem parse_yes (w : World) {V : Value} (lg : Bool) {l : List Int} (h1 : BytesAt w V l) (hB : Bytes l) (hn : l.length ≤ 140737488355328) {G : Nat} (hG : G < 65536) {size : Int} (z0 : -9223372036854775808 ≤ size) (z1 : size < 9223372036854775808) (f : Fine lg l G size) :
    Calls Try.prog 12 #[V, .bool lg, .int .u16 G, .int .i64 size] w (Ret fun r w' => ∃ v, r = .tuple #[v, .int .i64 0] ∧ Own w w' [.row 3 1 v (G + 1) (ints .i64 (pns lg l (G + 1)))]) := by
  cases lg
  · refine (locParse_false w h1 hB hn hG z0 z1).mono ?_
    rintro _ w' ⟨r, rfl, ⟨_, h⟩ | ⟨h, _⟩⟩
    · exact .mk h
    · exact absurd f h
  · refine (locParse_true w h1 hB hn hG z0 z1).mono ?_
    rintro _ w' ⟨r, rfl, ⟨_, h⟩ | ⟨h, _⟩⟩
    · exact .mk h
    · exact absurd f h
theorem parse_no (w : World) {V : Value} (lg : Bool) {l : List Int} (h1 : BytesAt w V l) (hB : Bytes l) (hn : l.length ≤ 140737488355328) {G : Nat} (hG : G < 65536) {size : Int} (z0 : -9223372036854775808 ≤ size) (z1 : size < 9223372036854775808) (f : ¬ Fine lg l G size) :
    Calls Try.prog 12 #[V, .bool lg, .int .u16 G, .int .i64 size] w (Ret fun r w' => r = .tuple #[.slice none 0 0, .int .i64 2] ∧ Below w.heap.size w w') := by
  cases lg
  · refine (locParse_false w h1 hB hn hG z0 z1).mono ?_
    rintro _ w' ⟨r, rfl, ⟨h, _⟩ | ⟨_, h⟩⟩
    · exact absurd h f
    · exact .mk h
  · refine (locParse_true w h1 hB hn hG z0 z1).mono ?_
    rintro _ w' ⟨r, rfl, ⟨h, _⟩ | ⟨_, h⟩⟩
    · exact absurd h f
    · exact .mk h
theorem ref_yes (w : World) {V : Value} (lg : Bool) {l : List Int} (h1 : BytesAt w V l) (hB : Bytes l) {G : Nat} (hG : G < 65536) {size : Int} (z0 : -9223372036854775808 ≤ size) (z1 : size < 9223372036854775808) (f : Fine lg l G size) :
    Calls Try.prog 16 #[V, .bool lg, .int .i64 G, .int .i64 size] w (Ret fun r w' => ∃ v, r = .tuple #[v, .bool true] ∧ Own w w' [.row 3 1 v (G + 1) (ints .i64 (pns lg l (G + 1)))]) := by
  cases lg
  · refine (places_false w h1 hB hG z0 z1).mono ?_
    rintro _ w' ⟨r, rfl, ⟨_, h⟩ | ⟨h, _⟩⟩
    · exact .mk h
    · exact absurd f h
  · refine (places_true w h1 hB hG z0 z1).mono ?_
    rintro _ w' ⟨r, rfl, ⟨_, h⟩ | ⟨h, _⟩⟩
    · exact .mk h
    · exact absurd f h
theorem ref_no (w : World) {V : Value} (lg : Bool) {l : List Int} (h1 : BytesAt w V l) (hB : Bytes l) {G : Nat} (hG : G < 65536) {size : Int} (z0 : -9223372036854775808 ≤ size) (z1 : size < 9223372036854775808) (f : ¬ Fine lg l G size) :
    Calls Try.prog 16 #[V, .bool lg, .int .i64 G, .int .i64 size] w (Ret fun r w' => r = .tuple #[.slice none 0 0, .bool false] ∧ Below w.heap.size w w') := by
  cases lg
  · refine (places_false w h1 hB hG z0 z1).mono ?_
    rintro _ w' ⟨r, rfl, ⟨h, _⟩ | ⟨_, h⟩⟩
    · exact absurd h f
    · exact .mk h
  · refine (places_true w h1 hB hG z0 z1).mono ?_
    rintro _ w' ⟨r, rfl, ⟨h, _⟩ | ⟨_, h⟩⟩
    · exact absurd h f
    · exact .mk h

set_option maxHeartbeats 4000000 in
theorem locaParses_calls (w : World) {V : Value} {l0 : List Int} (h0 : BytesAt w V l0) (hB0 : Bytes l0) (lg : Bool) {G' : Int} (g0 : 0 ≤ G') (g1 : G' < 65536) {size : Int} (z0 : -9223372036854775808 ≤ size) (z1 : size < 9223372036854775808) :
    Calls Try.prog 7 #[V, .bool lg, .int .u16 G', .int .i64 size] w (Ret fun r w' => r = .bool true ∧ Below w.heap.size w w') := by
  obtain ⟨G, rfl⟩ : ∃ G : Nat, G' = (G : Int) := ⟨G'.toNat, by omega⟩
  have hG : G < 65536 := by omega
  have M0 := hid (Own.start w)
  have hB := hB0.take 100
  have hln : (l0.take 100).length ≤ 140737488355328 := by rw [List.length_take]; omega
  have hCut := hid (fun w1 (hb : Below w.heap.size w w1) => cut_calls w1 100 (by omega) (h0.below hb) (by omega))
  obtain ⟨A0, c0', rfl, hc0, hm0, -⟩ := h0
  unfold maxLen at hm0
  clear hB0
  generalize l0.take 100 = l at *
  by_cases f : Fine lg l G size
  · have hP := hid (fun w V (h : BytesAt w V l) => parse_yes w lg h hB hln hG z0 z1 f)
    have hQ := hid (fun w V (h : BytesAt w V l) => ref_yes w lg h hB hG z0 z1 f)
    have hpl := hid (pns_length lg l (G + 1))
    clear f hB hln
    generalize pns lg l (G + 1) = ps at *
    go_enter Try.func7, Try.ntmps7
    go_wp2_with (first
      | (go_at_call 8; refine (awake_calls _).mono ?_; rintro _ w2 ⟨_, rfl, rfl, hb⟩; (have M2 := hid (M0.out.keep hb)); clear hb)
      | (go_at_call 13; refine (hCut.out _ M2.out.below).mono ?_; rintro _ w3 ⟨_, rfl, M⟩; obtain ⟨A, c, rfl⟩ := M.form (.head _); (have M3 := hid (M2.out.lift M)); clear M)
      | (go_at_call 12; refine (hP.out _ _ (M3.out.slice (e := 5) (.head _))).mono ?_; rintro _ w4 ⟨_, rfl, v4, rfl, M⟩; obtain ⟨A4, c4, rfl⟩ := M.form (.head _); (have M4 := hid (M3.out.lift M)); clear M)
      | (go_at_call 16; refine (hQ.out _ _ (M4.out.slice (e := 5) (v := .slice A l.length c) (xs := ints .u8 l) (n := l.length) (by simp))).mono ?_; rintro _ w5 ⟨_, rfl, v5, rfl, M⟩; obtain ⟨A5, c5, rfl⟩ := M.form (.head _); (have M5 := hid (M4.out.lift M)); clear M)
      | (go_at_call 17; refine (eqInts_calls _ hpl.out (M5.out.slice (e := 3) (v := .slice A4 (G + 1) c4) (xs := ints .i64 ps) (n := G + 1) (by simp)) (M5.out.slice (e := 3) (v := .slice A5 (G + 1) c5) (xs := ints .i64 ps) (n := G + 1) (.head _))).mono ?_; rintro _ w6 ⟨_, rfl, rfl, hb⟩; (have M6 := hid (M5.out.keep hb)); clear hb))
    go_ret
    exact .mk ⟨rfl, M6.out.below⟩
  · have hP := hid (fun w V (h : BytesAt w V l) => parse_no w lg h hB hln hG z0 z1 f)
    have hQ := hid (fun w V (h : BytesAt w V l) => ref_no w lg h hB hG z0 z1 f)
    clear f hB hln
    go_enter Try.func7, Try.ntmps7
    go_wp2_with (first
      | (go_at_call 8; refine (awake_calls _).mono ?_; rintro _ w2 ⟨_, rfl, rfl, hb⟩; (have M2 := hid (M0.out.keep hb)); clear hb)
      | (go_at_call 13; refine (hCut.out _ M2.out.below).mono ?_; rintro _ w3 ⟨_, rfl, M⟩; obtain ⟨A, c, rfl⟩ := M.form (.head _); (have M3 := hid (M2.out.lift M)); clear M)
      | (go_at_call 12; refine (hP.out _ _ (M3.out.slice (e := 5) (.head _))).mono ?_; rintro _ w4 ⟨_, rfl, rfl, hb⟩; (have M4 := hid (M3.out.keep hb)); clear hb)
      | (go_at_call 16; refine (hQ.out _ _ (M4.out.slice (e := 5) (v := .slice A l.length c) (xs := ints .u8 l) (n := l.length) (by simp))).mono ?_; rintro _ w5 ⟨_, rfl, rfl, hb⟩; (have M5 := hid (M4.out.keep hb)); clear hb))
    go_ret
    exact .mk ⟨rfl, M5.out.below⟩
end Go.Proofs.Ytmboeoobkccpoaa
