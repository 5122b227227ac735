/- The document's table maxp: its bytes, and which are right. -/
import Derived.Test.YtfdjgangahlepaaMaxpC
namespace Go.Proofs.Ytfdjgangahlepaa
open Go Go.RowKit
set_option linter.unusedVariables false
set_option linter.unusedSimpArgs false
set_option maxRecDepth 100000

theorem Own.and1 {W0 w : World} {x : Ent} {L : List Ent} (M : Own W0 w (x :: L)) (y : Ent) (h : y ∈ L) : Own W0 w [x, y] := M.sub (List.cons_sublist_cons.2 (List.singleton_sublist.2 h))
set_option maxHeartbeats 2000000 in
theorem mxRight_calls (w : World) {v : Value} {l : List Int} (hB : Bytes l) (h1 : BytesAt w v l) :
    Calls Try.prog 14 #[v] w (Ret fun r w' => r = .bool (mxOk l) ∧ Below w.heap.size w w') := by
  have hN1 := hid (N4_calls w 0 (by omega) hB h1)
  have hN2 := hid (fun w1 (h : Below w.heap.size w w1) => N2_calls w1 4 (by omega) hB (h1.below h))
  obtain ⟨A1, c1, rfl, hc1, hm1, hA1, hr1⟩ := h1
  unfold maxLen at hm1
  have hb := (n2_bound hB 4).1
  clear hr1 hA1 hB
  have hq : (decide (0 + 4 ≤ l.length) = false ∧ mxOk l = false) ∨ (decide (0 + 4 ≤ l.length) = true ∧ (((l.length : Int) == 32) = false ∧ mxOk l = false ∨ ((l.length : Int) == 32) = true ∧ ((n4 l 0 == 65536) = false ∧ mxOk l = false ∨ (n4 l 0 == 65536) = true ∧ (decide (n2 l 4 > 0) = false ∧ mxOk l = false ∨ decide (n2 l 4 > 0) = true ∧ mxOk l = true)))) := by
    unfold mxOk
    by_cases h0 : l.length = 32
    · right
      simp only [h0]
      by_cases h1 : n4 l 0 = 65536
      · by_cases h2 : n2 l 4 = 0
        · simp [h1, h2]
        · have : n2 l 4 > 0 := by omega
          simp [h1, h2, this]
      · simp [h1]
    · have h32 : ((l.length : Int) == 32) = false := by rw [beq_eq_false_iff_ne]; omega
      by_cases h2 : 0 + 4 ≤ l.length
      · right; exact ⟨decide_eq_true h2, .inl ⟨h32, by simp [h0]⟩⟩
      · left; exact ⟨decide_eq_false h2, by simp [h0]⟩
  generalize n2 l 4 = g at *
  generalize n4 l 0 = u at *
  generalize decide (0 + 4 ≤ l.length) = d at *
  generalize decide (4 + 2 ≤ l.length) = d' at *
  generalize mxOk l = ok at *
  rcases hq with ⟨q1, q⟩ | ⟨q1, ⟨q2, q⟩ | ⟨q2, ⟨q3, q⟩ | ⟨q3, ⟨q4, q⟩ | ⟨q4, q⟩⟩⟩⟩
  all_goals
    subst q1 q
    go_enter Try.func14, Try.ntmps14
    go_wp2_with (first
      | (go_at_call 24; refine hN1.out.mono ?_; rintro _ w1 ⟨_, rfl, rfl, hw1⟩; (have hw1H := hid hw1); clear hw1)
      | (go_at_call 25; refine (hN2.out w1 hw1H.out).mono ?_; rintro _ w2 ⟨_, rfl, rfl, hw2⟩; (have hw2H := hid (hw1H.out.trans (hw2.mono hw1H.out.size))); clear hw2))
    go_ret
    exact .mk ⟨rfl, hw2H.out⟩

set_option maxHeartbeats 2000000 in
theorem mxBytes_calls (w : World) {g : Int} {rest : List Int} (g0 : 0 ≤ g) (g1 : g < 65536) (hr : rest.length = 13) (hR : U16s rest) :
    Calls Try.prog 12 #[.int .u16 g, .agg (ints .u16 rest).toArray] w
      (Ret fun r w' => Own w w' [.row 5 1 r (mxB g rest).length (ints .u8 (mxB g rest))]) := by
  have M0 := hid (Own.start w)
  have hB4 := hid (fun w => B4_calls w (n := 65536) (by omega) (by omega))
  have hB2 := hid (fun w => B2_calls w (n := g) g0 (by omega))
  go_enter Try.func12, Try.ntmps12
  go_wp2_with (first
    | ((with_reducible refine gate (N := 3) rfl ?_); refine wpList_box_Own rfl (cs := (ints .u16 rest).toArray) (t := 23) (by first | (go_simp; done) | (go_simp; rfl)) M0.out ?_; intro m w1 M; (have M1 := hid M); clear M)
    | (go_at_call 22; refine (hB4.out _).mono ?_; rintro _ w2 ⟨_, rfl, M⟩; obtain ⟨A1, c1, rfl⟩ := M.form (.head _); (have M2 := hid (M1.out.lift M)); clear M)
    | (go_at_call 23; refine (hB2.out _).mono ?_; rintro _ w3 ⟨_, rfl, M⟩; obtain ⟨A2, c2, rfl⟩ := M.form (.head _); (have M3 := hid ((M2.out.lift M).alloc 29 #[.slice A1 4 c1, .slice A2 2 c2])); clear M)
    | (go_at_call 21; (refine (join_calls _ (vs := [.slice A1 4 c1, .slice A2 2 c2]) (ls := [b4 65536, b2 g]) (SliceAt.built M3.out (.head _) 1 2 rfl (by unfold maxLen; omega)) (.cons (M3.out.slice (e := 5) (by simp [b4_length])) (.cons (M3.out.slice (e := 5) (by simp [b2_length])) (.nil _))) (by simp [b2_length, b4_length])).mono ?_; rintro _ w4 ⟨_, rfl, M⟩; obtain ⟨A4, c4, rfl⟩ := M.form (.head _); (have M4 := hid ((M3.out.lift M).and1 (.blk m 23 (ints .u16 rest).toArray) (by simp))); clear M))
    | ((with_reducible refine gate (N := 14) rfl ?_); refine wpList_run rfl (exec_load_agg agg_rest rfl rfl M4.out (g := m) (t := 23) (cs := (ints .u16 rest).toArray) (vs := ints .u16 rest) (by simp) (by simp [← hr, ← ints_length .u16 rest]) (by rw [ints_length, hr])) ?_))
  clear M0 M1 M2 M3 hB4 hB2
  have hlen : ([b4 65536, b2 g].flatten).length = 6 := by simp [b4_length, b2_length]
  have hfl : [b4 65536, b2 g].flatten = b4 65536 ++ b2 g := by simp
  rw [hfl] at M4 hlen
  rw [hlen] at M4
  simp only [b4_length, b2_length, Nat.reduceAdd]
  clear hfl hlen
  go_loopw [15, 5] (fun i p wr => ∃ (k : Nat) (A : Option Addr) (c : Nat), k ≤ 13 ∧ i = .int .i64 k ∧ p = .slice A (6 + 2 * k) c ∧ Hid (Own w wr [.row 5 1 (.slice A (6 + 2 * k) c) (6 + 2 * k) (ints .u8 (b4 65536 ++ b2 g ++ (rest.take k).flatMap b2))])) (fun i _ _ => 13 - (intOf i).toNat)
  case atStart => exact ⟨0, A4, c4, by omega, rfl, rfl, hid (by simpa using M4.out.head1)⟩
  case round =>
    obtain ⟨k, A, c, hk, rfl, rfl, MH⟩ := hrel
    by_cases hlt : k < 13
    · have hix := run_index_ints (P := Try.prog) Try.underlying23 Try.underlying22 u16_info rest k hr hlt
      obtain ⟨x0, x1⟩ := hR.get k (by omega)
      have hfs := hid (flat2_snoc rest k (by omega))
      have hl := hid (show (b4 65536 ++ b2 g ++ (rest.take k).flatMap b2).length = 6 + 2 * k by simp only [List.length_append, flat2_length, b2_length, b4_length, List.length_take]; omega)
      generalize rest.getD k 0 = x at *
      have hq := hid (show b4 65536 ++ b2 g ++ (rest.take (k + 1)).flatMap b2 = (b4 65536 ++ b2 g ++ (rest.take k).flatMap b2) ++ b2 x by rw [hfs.out]; simp only [List.append_assoc])
      clear hfs
      generalize b4 65536 ++ b2 g ++ (rest.take k).flatMap b2 = q at *
      have hB2 := hid (fun w => B2_calls w (n := x) x0 (by omega))
      go_wp2_with (first
        | (go_at_call 23; refine (hB2.out _).mono ?_; rintro _ w5 ⟨_, rfl, M⟩; obtain ⟨A2, c2, rfl⟩ := M.form (.head _); (have M5 := hid ((MH.out.lift M).alloc 29 #[.slice A (6 + 2 * k) c, .slice A2 2 c2])); clear M)
        | (go_at_call 21; (refine (join_calls _ (vs := [.slice A (6 + 2 * k) c, .slice A2 2 c2]) (ls := [q, b2 x]) (SliceAt.built M5.out (.head _) 1 2 rfl (by unfold maxLen; omega)) (.cons (M5.out.slice (e := 5) (by simp [hl.out])) (.cons (M5.out.slice (e := 5) (by simp [b2_length])) (.nil _))) (by simp only [List.flatten_cons, List.flatten_nil, List.length_append, hl.out, b2_length, List.length_nil]; omega)).mono ?_; rintro _ w6 ⟨_, rfl, M⟩; obtain ⟨A4, c4, rfl⟩ := M.form (.head _); (have M7 := hid ((M5.out.lift M).head1)); clear M)))
      have e1 : ([q, b2 x].flatten).length = 6 + 2 * (k + 1) := by simp only [List.flatten_cons, List.flatten_nil, List.length_append, hl.out, b2_length, List.length_nil]; omega
      have e2 : [q, b2 x].flatten = q ++ b2 x := by simp
      rw [e1, e2, ← hq.out] at M7
      simp only [hl.out, b2_length]
      clear e1 e2
      go_roundw
      case rel => exact ⟨k + 1, A4, c4, by omega, by go_num, by rw [show 6 + 2 * (k + 1) = 6 + 2 * k + 2 by omega], M7⟩
      case measure => simp [intOf]; omega
    · obtain rfl : k = 13 := by omega
      have ht : rest.take 13 = rest := List.take_of_length_le (by omega)
      have hml := mxB_length g rest
      have hmx : mxB g rest = b4 65536 ++ b2 g ++ rest.flatMap b2 := by simp [mxB]
      rw [ht, ← hmx] at MH
      rw [hr] at hml
      clear ht hmx
      have hmlH := hid hml
      clear hml
      go_wp2_with fail
      go_ret
      exact .mk (by rw [hmlH.out]; exact MH.out)
end Go.Proofs.Ytfdjgangahlepaa
