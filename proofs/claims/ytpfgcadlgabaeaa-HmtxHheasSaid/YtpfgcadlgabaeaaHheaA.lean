/- Package hmtx: the table hhea: which may be; its bytes. -/
import Derived.Test.YtpfgcadlgabaeaaRead
import Derived.Test.YtpfgcadlgabaeaaAgg
import Derived.Test.YtpfgcadlgabaeaaEq
import Derived.Test.YtpfgcadlgabaeaaNums
import Derived.Test.YtpfgcadlgabaeaaJoin
import Derived.Deep.RegionHeld3
namespace Go.Proofs.Ytpfgcadlgabaeaa
open Go Go.RowKit
set_option linter.unusedVariables false
set_option linter.unusedSimpArgs false
set_option maxRecDepth 100000

theorem agg_hhea : AggOf Try.prog 35 17 := .mk' Try.underlying35 rfl (by kernel_rfl)
theorem agg_front : AggOf Try.prog 33 16 := .mk' Try.underlying33 rfl (by kernel_rfl)
theorem u16_info : (Try.prog.info? 27).map (·.size) = some 1 := by kernel_rfl

/-- Numbers of 16 bits. -/
def U16s (l : List Int) : Prop := ∀ x ∈ l, 0 ≤ x ∧ x < 65536
theorem U16s.get {l : List Int} (h : U16s l) (k : Nat) : 0 ≤ l.getD k 0 ∧ l.getD k 0 < 65536 := by
  by_cases hk : k < l.length
  · exact h _ (by simp [List.getD, hk])
  · simp [List.getD, List.getElem?_eq_none (Nat.le_of_not_lt hk)]
theorem flat2_length (l : List Int) : (l.flatMap b2).length = 2 * l.length := by
  induction l with
  | nil => rfl
  | cons x l ih => rw [List.flatMap_cons, List.length_append, ih, b2_length, List.length_cons]; omega
theorem flat2_snoc (l : List Int) (k : Nat) (hk : k < l.length) : (l.take (k + 1)).flatMap b2 = (l.take k).flatMap b2 ++ b2 (l.getD k 0) := by
  rw [take_succ_getD hk, List.flatMap_append]; simp
theorem bytes_flat2 (l : List Int) : Bytes (l.flatMap b2) := by
  intro x hx
  obtain ⟨y, _, hy⟩ := List.mem_flatMap.1 hx
  exact bytes_b2 y x hy
/-- The bytes; may it be? -/
def hhB (hs : List Int) : List Int := b2 1 ++ hs.flatMap b2
def hhR (hs : List Int) : Bool := decide (hs.getD 16 0 > 0) && ((hs.getD 0 0 == 0) && (hs.getD 15 0 == 0))
theorem hhB_length {hs : List Int} (h : hs.length = 17) : (hhB hs).length = 36 := by unfold hhB; rw [List.length_append, flat2_length, b2_length, h]
theorem hhB_bytes (hs : List Int) : Bytes (hhB hs) := (bytes_b2 _).append (bytes_flat2 _)

/-- The cells that are looked at. -/
theorem hh_cells {W0 w : World} {L : List Ent} {m : Nat} {hs : List Int} (hl : hs.length = 17) (M : Own W0 w L) (h : .blk m 35 (ints .u16 hs).toArray ∈ L) :
    w.cell? ⟨m, 16, none⟩ = some (.int .u16 (hs.getD 16 0)) ∧ w.cell? ⟨m, 0, none⟩ = some (.int .u16 (hs.getD 0 0)) ∧ w.cell? ⟨m, 15, none⟩ = some (.int .u16 (hs.getD 15 0)) := by
  have g := fun k (hk : k < 17) => ints_get .u16 hs k (by omega)
  refine ⟨?_, ?_, ?_⟩ <;> (rw [M.cell h]; simp only [List.getElem?_toArray]; exact g _ (by omega))

theorem tri (a b c : Bool) : (a = false ∧ (a && (b && c)) = false) ∨ (a = true ∧ (b = false ∧ (a && (b && c)) = false ∨ b = true ∧ (c = false ∧ (a && (b && c)) = false ∨ c = true ∧ (a && (b && c)) = true))) := by
  cases a <;> cases b <;> cases c <;> simp
theorem right_calls (w : World) {hs : List Int} (hl : hs.length = 17) (hU : U16s hs) : Calls Try.prog 24 #[.agg (ints .u16 hs).toArray] w
    (Ret fun r w' => r = .bool (hhR hs) ∧ Below w.heap.size w w') := by
  have M0 := hid (Own.start w)
  have hq : (decide (hs.getD 16 0 > 0) = false ∧ hhR hs = false) ∨ (decide (hs.getD 16 0 > 0) = true ∧ ((hs.getD 0 0 == 0) = false ∧ hhR hs = false ∨ (hs.getD 0 0 == 0) = true ∧ ((hs.getD 15 0 == 0) = false ∧ hhR hs = false ∨ (hs.getD 15 0 == 0) = true ∧ hhR hs = true))) := tri _ _ _
  have hc := hid (fun w' L m (M : Own w w' L) h => hh_cells (m := m) hl M h)
  have b16 := hU.get 16
  generalize hs.getD 16 0 = x at *
  generalize hs.getD 0 0 = y at *
  generalize hs.getD 15 0 = z at *
  generalize hhR hs = ok at *
  rcases hq with ⟨q1, q⟩ | ⟨q1, ⟨q2, q⟩ | ⟨q2, ⟨q3, q⟩ | ⟨q3, q⟩⟩⟩
  all_goals
    subst q
    go_enter Try.func24, Try.ntmps24
    go_wp2_with ((with_reducible refine gate (N := 1) rfl ?_); refine wpList_box_Own rfl (cs := (ints .u16 hs).toArray) (t := 35) (by first | (go_simp; done) | (go_simp; rfl)) M0.out ?_; intro m w1 M; obtain ⟨c16, c0, c15⟩ := hc.out _ _ _ M (.head _); (have M1 := hid M); clear M)
    go_ret
    exact .mk ⟨rfl, M1.out.below⟩

theorem hhBytes_no (w : World) {hs : List Int} (hl : hs.length = 17) (hU : U16s hs) (hr : hhR hs = false) : Calls Try.prog 12 #[.agg (ints .u16 hs).toArray] w
    (Ret fun r w' => Own w w' [.row 5 1 r 0 []]) := by
  have M0 := hid (Own.start w)
  have hR := hid (fun w => right_calls w hl hU)
  replace hr := hid hr
  go_enter Try.func12, Try.ntmps12
  go_wp2_with (first
    | ((with_reducible refine gate (N := 1) rfl ?_); refine wpList_box_Own rfl (cs := (ints .u16 hs).toArray) (t := 35) (by first | (go_simp; done) | (go_simp; rfl)) M0.out ?_; intro m w1 M; (have M1 := hid M); clear M)
    | ((with_reducible refine gate (N := 6) rfl ?_); refine wpList_run rfl (exec_load_agg agg_hhea rfl rfl M1.out (g := m) (t := 35) (cs := (ints .u16 hs).toArray) (vs := ints .u16 hs) (.head _) (by simp [← hl, ← ints_length .u16 hs]) (by rw [ints_length, hl])) ?_)
    | (go_at_call 24; refine (hR.out _).mono ?_; rintro _ w2 ⟨_, rfl, rfl, hb⟩; (rw [hr.out]); (have M2 := hid (M1.out.keep hb)); clear hb))
  go_ret
  exact .mk (M2.out.tail.nil_row _ _)

set_option maxHeartbeats 2000000 in
theorem hhBytes_calls (w : World) {hs : List Int} (hl : hs.length = 17) (hU : U16s hs) (hr : hhR hs = true) : Calls Try.prog 12 #[.agg (ints .u16 hs).toArray] w
    (Ret fun r w' => Own w w' [.row 5 1 r 36 (ints .u8 (hhB hs))]) := by
  have M0 := hid (Own.start w)
  have hR := hid (fun w => right_calls w hl hU)
  rw [hr] at hR
  clear hr
  go_enter Try.func12, Try.ntmps12
  go_wp2_with (first
    | ((with_reducible refine gate (N := 1) rfl ?_); refine wpList_box_Own rfl (cs := (ints .u16 hs).toArray) (t := 35) (by first | (go_simp; done) | (go_simp; rfl)) M0.out ?_; intro m w1 M; (have M1 := hid M); clear M)
    | ((with_reducible refine gate (N := 6) rfl ?_); refine wpList_run rfl (exec_load_agg agg_hhea rfl rfl M1.out (g := m) (t := 35) (cs := (ints .u16 hs).toArray) (vs := ints .u16 hs) (.head _) (by simp [← hl, ← ints_length .u16 hs]) (by rw [ints_length, hl])) ?_)
    | (go_at_call 24; refine (hR.out _).mono ?_; rintro _ w2 ⟨_, rfl, rfl, hb⟩; (have M2 := hid (M1.out.keep hb)); clear hb)
    | ((with_reducible refine gate (N := 3) rfl ?_); refine wpList_box_Own rfl (cs := #[.slice none 0 0]) (t := 63) (by first | (go_simp; done) | (go_simp; rfl)) M2.out ?_; intro b w3 M; (have M3 := hid M.mk_writer); (have M3' := hid M); clear M)
    | (go_at_call 25; (with_reducible refine (wr_U16 (n := 1) (by omega) (by omega) (by simp) M3.out).mono ?_); rintro _ w4 ⟨_, rfl, rfl, v4, M⟩; (have M4 := hid M); clear M M3)
    | ((with_reducible refine gate (N := 11) rfl ?_); refine wpList_run rfl (exec_load_agg agg_front rfl rfl M4.out (g := m) (t := 35) (cs := (ints .u16 hs).toArray) (vs := ints .u16 (hs.take 16)) (by simp [wrE]) (by simp [ints, List.map_take]) (by rw [ints_length, List.length_take, hl]; rfl)) ?_))
  have b16 := hU.get 16
  go_loopw [12] (fun i wr => ∃ (k : Nat) (v : Value), k ≤ 16 ∧ i = .int .i64 k ∧ Hid (Own w wr ([] ++ (wrE b v (b2 1 ++ (hs.take k).flatMap b2) ++ [.blk m 35 (ints .u16 hs).toArray])))) (fun i _ => 16 - (intOf i).toNat)
  case atStart => exact ⟨0, v4, by omega, rfl, hid (by simpa using M4.out)⟩
  case round =>
    clear M4
    obtain ⟨k, v, hk, rfl, MH⟩ := hrel
    by_cases hlt : k < 16
    · have hix := run_index_ints (P := Try.prog) Try.underlying33 Try.underlying27 u16_info (hs.take 16) k (by simp [hl]) hlt
      rw [show (hs.take 16).getD k 0 = hs.getD k 0 by simp [List.getD, List.getElem?_take, hlt]] at hix
      obtain ⟨x0, x1⟩ := hU.get k
      have hfs := hid (flat2_snoc hs k (by omega))
      generalize hs.getD k 0 = x at *
      have hl := hid (show (b2 1 ++ (hs.take k).flatMap b2).length + 2 ≤ 140737488355328 by simp only [List.length_append, flat2_length, b2_length, List.length_take]; omega)
      go_wp2_with (go_at_call 25; (with_reducible refine (wr_U16 x0 x1 hl.out MH.out).mono ?_); rintro _ w5 ⟨_, rfl, rfl, v5, M⟩; (have M5 := hid M); clear M MH)
      go_roundw
      case rel => exact ⟨k + 1, v5, by omega, by go_num, by rw [hfs.out, ← List.append_assoc]; exact M5⟩
      case measure => simp [intOf]; omega
    · obtain rfl : k = 16 := by omega
      obtain ⟨c16, -, -⟩ := hh_cells (m := m) hl MH.out (by simp [wrE])
      have hfs := hid (flat2_snoc hs 16 (by omega))
      rw [show hs.take (16 + 1) = hs from List.take_of_length_le (by omega)] at hfs
      have hll := hid (show (b2 1 ++ (hs.take 16).flatMap b2).length + 2 ≤ 140737488355328 by simp only [List.length_append, flat2_length, b2_length, List.length_take]; omega)
      generalize hs.getD 16 0 = x at *
      have hq : Hid (b2 1 ++ (hs.take 16).flatMap b2 ++ b2 x = hhB hs) := hid (by unfold hhB; rw [hfs.out, List.append_assoc])
      have h36 := hid (hhB_length hl)
      obtain ⟨x0, x1⟩ := b16
      go_wp2_with (first
        | (go_at_call 25; (with_reducible refine (wr_U16 x0 x1 hll.out MH.out).mono ?_); rintro _ w5 ⟨_, rfl, rfl, v5, M⟩; (rw [hq.out] at M); (have M5 := hid M); clear M MH)
        | (go_at_call 26; (with_reducible refine (wr_Done (by rw [h36.out]; omega) M5.out).mono ?_); rintro _ w6 ⟨_, rfl, M⟩; (rw [h36.out] at M); (have M6 := hid M.head1); (clear M)))
      go_ret
      exact .mk M6.out
end Go.Proofs.Ytpfgcadlgabaeaa
