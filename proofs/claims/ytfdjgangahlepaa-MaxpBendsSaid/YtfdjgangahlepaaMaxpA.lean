/- Package maxp, and the document's own: its bytes. -/
import Derived.Test.YtfdjgangahlepaaRead
import Derived.Test.YtfdjgangahlepaaAgg
import Derived.Deep.RegionHeld3
namespace Go.Proofs.Ytfdjgangahlepaa
open Go Go.RowKit
set_option linter.unusedVariables false
set_option linter.unusedSimpArgs false
set_option maxRecDepth 100000

theorem agg_maxp : AggOf Try.prog 25 14 := .mk' Try.underlying25 rfl (by kernel_rfl)
theorem agg_rest : AggOf Try.prog 23 13 := .mk' Try.underlying23 rfl (by kernel_rfl)
theorem u16_info : (Try.prog.info? 22).map (·.size) = some 1 := by kernel_rfl

/-- Numbers of 16 bits. -/
def U16s (l : List Int) : Prop := ∀ x ∈ l, 0 ≤ x ∧ x < 65536
theorem U16s.get {l : List Int} (h : U16s l) (k : Nat) (hk : k < l.length) : 0 ≤ l.getD k 0 ∧ l.getD k 0 < 65536 := h _ (by simp [List.getD, hk])
/-- What a table of so many glyphs, and of so much else, has for bytes. -/
def mxB (g : Int) (rest : List Int) : List Int := b4 65536 ++ (b2 g ++ rest.flatMap b2)
theorem flat2_length (l : List Int) : (l.flatMap b2).length = 2 * l.length := by
  induction l with
  | nil => rfl
  | cons x l ih => rw [List.flatMap_cons, List.length_append, ih, b2_length, List.length_cons]; omega
theorem flat2_snoc (l : List Int) (k : Nat) (hk : k < l.length) : (l.take (k + 1)).flatMap b2 = (l.take k).flatMap b2 ++ b2 (l.getD k 0) := by
  rw [take_succ_getD hk, List.flatMap_append]; simp
theorem mxB_length (g : Int) (rest : List Int) : (mxB g rest).length = 6 + 2 * rest.length := by
  unfold mxB
  rw [List.length_append, List.length_append, flat2_length, b2_length, b4_length]; omega
theorem bytes_flat2 (l : List Int) : Bytes (l.flatMap b2) := by
  intro x hx
  obtain ⟨y, _, hy⟩ := List.mem_flatMap.1 hx
  exact bytes_b2 y x hy
theorem mxB_bytes (g : Int) (rest : List Int) : Bytes (mxB g rest) := (bytes_b4 _).append ((bytes_b2 _).append (bytes_flat2 _))

theorem maxpBytes_zero (w : World) {rest : List Int} (hr : rest.length = 13) : Calls Try.prog 9 #[.agg (.int .u16 0 :: ints .u16 rest).toArray] w
    (Ret fun r w' => Own w w' [.row 5 1 r 0 []]) := by
  have M0 := hid (Own.start w)
  go_enter Try.func9, Try.ntmps9
  go_wp2_with ((with_reducible refine gate (N := 1) rfl ?_); refine wpList_box_Own rfl (cs := (.int .u16 0 :: ints .u16 rest).toArray) (t := 25) (by first | (go_simp; done) | (go_simp; rfl)) M0.out ?_; intro m w1 M; (have M1 := hid M); (have c0 := M.cell (.head _) 0); clear M; simp only [List.getElem?_toArray, List.getElem?_cons_zero] at c0)
  go_ret
  exact .mk (M1.out.tail.nil_row _ _)

theorem maxpBytes_calls (w : World) {g : Int} {rest : List Int} (g0 : 0 < g) (g1 : g < 65536) (hr : rest.length = 13) (hR : U16s rest) :
    Calls Try.prog 9 #[.agg (.int .u16 g :: ints .u16 rest).toArray] w
      (Ret fun r w' => Own w w' [.row 5 1 r (mxB g rest).length (ints .u8 (mxB g rest))]) := by
  have M0 := hid (Own.start w)
  have g2 : (g == 0) = false := by simp; omega
  go_enter Try.func9, Try.ntmps9
  have G := hid (fun l (h : l ≤ 38) => (show l + 4 ≤ 140737488355328 by omega))
  go_wp2_with (first
    | ((with_reducible refine gate (N := 1) rfl ?_); refine wpList_box_Own rfl (cs := (.int .u16 g :: ints .u16 rest).toArray) (t := 25) (by first | (go_simp; done) | (go_simp; rfl)) M0.out ?_; intro m w1 M; (have M1 := hid M); (have c0 := M.cell (.head _) 0); clear M; simp only [List.getElem?_toArray, List.getElem?_cons_zero] at c0)
    | ((with_reducible refine gate (N := 3) rfl ?_); refine wpList_box_Own rfl (cs := #[.slice none 0 0]) (t := 41) (by first | (go_simp; done) | (go_simp; rfl)) M1.out ?_; intro b w2 M; (have M2 := hid M.mk_writer); (have c1 := M.cell (.tail _ (.head _)) 0); clear M; simp only [List.getElem?_toArray, List.getElem?_cons_zero] at c1))
  simp only [Act.put, List.setIfInBounds_toArray, List.set_cons_zero, List.set_cons_succ]
  clear c0 M1
  go_region_held3 (fun w' => w'.cell? ⟨m, 0, none⟩ = some (.int .u16 g)) (go_keep)
    (first
      | (go_at_call 15; refine (wr_U32 (n := 65536) (by omega) (by omega) (by simp) M2.out.drew).mono ?_; rintro _ w3 ⟨_, rfl, rfl, v3, M⟩; have M3 := hid M; have c2 := M.cell (g := m) (t := 25) (cs := (.int .u16 g :: ints .u16 rest).toArray) (by simp [wrE]) 0; clear M; simp only [List.getElem?_toArray, List.getElem?_cons_zero] at c2)
      | (go_at_call 16; refine (wr_U16 (n := g) (by omega) (by omega) (by simp [b4_length]) M3.out).mono ?_; rintro _ w4 ⟨_, rfl, rfl, v4, M⟩; have M4 := hid M; have c3 := M.cell (g := m) (t := 25) (cs := (.int .u16 g :: ints .u16 rest).toArray) (by simp [wrE]) 0; clear M; simp only [List.getElem?_toArray, List.getElem?_cons_zero] at c3))
  go_wp2_with ((with_reducible refine gate (N := 14) rfl ?_); refine wpList_run rfl (exec_load_agg agg_rest rfl rfl M4.out (g := m) (t := 25) (cs := (.int .u16 g :: ints .u16 rest).toArray) (vs := ints .u16 rest) (by simp [wrE]) (by simp [← hr, ← ints_length .u16 rest]) (by rw [ints_length, hr])) ?_)
  go_loopw [15] (fun i wr => ∃ (k : Nat) (v : Value), k ≤ 13 ∧ i = .int .i64 k ∧ Hid (Own w wr ([] ++ (wrE b v ([] ++ b4 65536 ++ b2 g ++ (rest.take k).flatMap b2) ++ [.blk m 25 (.int .u16 g :: ints .u16 rest).toArray])))) (fun i _ => 13 - (intOf i).toNat)
  case atStart => exact ⟨0, v4, by omega, rfl, hid (by simpa using M4.out)⟩
  case round =>
    obtain ⟨k, v, hk, rfl, MH⟩ := hrel
    by_cases hlt : k < 13
    · have hix := run_index_ints (P := Try.prog) Try.underlying23 Try.underlying22 u16_info rest k hr hlt
      obtain ⟨x0, x1⟩ := hR.get k (by omega)
      have hfs := hid (flat2_snoc rest k (by omega))
      generalize rest.getD k 0 = x at *
      have hl := hid (show ([] ++ b4 65536 ++ b2 g ++ (rest.take k).flatMap b2).length + 2 ≤ 140737488355328 by simp only [List.length_append, flat2_length, b2_length, b4_length, List.length_nil, List.length_take]; omega)
      go_wp2_with fail
      refine (wr_U16 x0 x1 hl.out MH.out).mono ?_; rintro _ w5 ⟨_, rfl, rfl, v5, M⟩; have M5 := hid M; clear M
      go_wp2_with fail
      go_roundw
      case rel => exact ⟨k + 1, v5, by omega, by go_num, by rw [hfs.out, ← List.append_assoc]; exact M5⟩
      case measure => simp [intOf]; omega
    · obtain rfl : k = 13 := by omega
      have ht : rest.take 13 = rest := List.take_of_length_le (by omega)
      rw [ht] at MH
      have hmx := hid (show [] ++ b4 65536 ++ b2 g ++ rest.flatMap b2 = mxB g rest by simp [mxB])
      rw [hmx.out] at MH
      clear ht hmx
      have hlen := mxB_length g rest
      have hlenH := hid (show (mxB g rest).length ≤ 140737488355328 by omega)
      clear hlen
      go_wp2_with fail
      refine (wr_Done hlenH.out MH.out).mono ?_; rintro _ w6 ⟨_, rfl, M⟩; have M6 := hid M.head1; clear M
      go_wp2_with fail
      go_ret
      exact .mk M6.out
end Go.Proofs.Ytfdjgangahlepaa
