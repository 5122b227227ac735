/- Layer 1: the document's example, and WordBytes: bytes are read one by one, as they are. -/
import Derived.Test.YtlfjfdaeoclakaaRefC
namespace Go.Proofs.Ytlfjfdaeoclakaa
open Go Go.RowKit
set_option linter.unusedVariables false
set_option linter.unusedSimpArgs false
set_option maxRecDepth 100000

theorem awake_calls (w : World) : Calls Try.prog 9 #[] w (Ret fun r w' => r = .bool true ∧ Below w.heap.size w w') := by
  have hR : ∀ k, k ≤ 4 → RdOk [1, 44, 255, 254] k := fun k hk => ⟨hk, by unfold Bytes; decide⟩
  have hN := hid (new_calls (w.alloc (.cells #[.int .u8 1, .int .u8 44, .int .u8 255, .int .u8 254] 5)) (v := .slice (some ⟨w.heap.size, 0, none⟩) 4 4) (l := [1, 44, 255, 254]) (SliceAt.built ((Own.start w).alloc 5 #[.int .u8 1, .int .u8 44, .int .u8 255, .int .u8 254]) (.head _) 1 4 rfl (by unfold maxLen; omega)) (by simp))
  have hRH := hid hR
  clear hR
  go_enter Try.func9, Try.ntmps9
  go_wp2_with (first
    | (go_at_call 11; refine hN.out.mono ?_; rintro _ w1 ⟨_, rfl, b, v, rfl, M1⟩; (have M1H := hid (((Own.start w).alloc 5 #[.int .u8 1, .int .u8 44, .int .u8 255, .int .u8 254]).lift M1 (by simp [rdE, Ent.mine]))); clear M1)
    | (go_at_call 19; refine (rd_U16 (hRH.out 0 (by omega)) M1H.out).mono ?_; rw [show rNum [1, 44, 255, 254] 0 false 2 = 300 from rfl, show rAt [1, 44, 255, 254] 0 false 2 = 2 from rfl, show (!rOk [1, 44, 255, 254] 0 false 2) = false from rfl]; rintro _ w2 ⟨_, rfl, rfl, M2⟩; (have M2H := hid M2); clear M2)
    | (go_at_call 20; refine (rd_I16 (hRH.out 2 (by omega)) M2H.out).mono ?_; rw [show sgn (rNum [1, 44, 255, 254] 2 false 2) = -2 from rfl, show rAt [1, 44, 255, 254] 2 false 2 = 4 from rfl, show (!rOk [1, 44, 255, 254] 2 false 2) = false from rfl]; rintro _ w3 ⟨_, rfl, rfl, M3⟩; (have M3H := hid M3); clear M3)
    | (go_at_call 14; refine (rd_Bad M3H.out).mono ?_; rintro _ w4 ⟨_, rfl, rfl, rfl⟩)
    | (go_at_call 13; refine (rd_Left (by simp) M3H.out).mono ?_; rintro _ w4 ⟨_, rfl, rfl, M4⟩; (have M4H := hid M4); clear M4))
  go_ret
  exact .mk ⟨rfl, M4H.out.below⟩

theorem rOk_one {l : List Int} {k : Nat} (h : k < l.length) : rOk l k false 1 = true := by simp only [rOk, Bool.not_false, Bool.true_and, decide_eq_true_eq]; omega
theorem rNum_one {l : List Int} {k : Nat} (h : k < l.length) : rNum l k false 1 = l.getD k 0 := by
  unfold rNum rBytes
  rw [rOk_one h, if_pos rfl, show (1 : Int).toNat = 1 from rfl, List.drop_eq_getElem_cons h, List.take_succ_cons, List.take_zero]
  simp only [be, List.foldl_cons, List.foldl_nil, List.getD, List.getElem?_eq_getElem h, Option.getD_some]
  omega
theorem rAt_one {l : List Int} {k : Nat} (h : k < l.length) : rAt l k false 1 = k + 1 := by unfold rAt; rw [rOk_one h]; rfl
theorem rOk_end {l : List Int} {n : Int} (h : 0 < n) : rOk l l.length false n = false := by simp only [rOk, Bool.not_false, Bool.true_and, decide_eq_false_iff_not]; omega
theorem rNum_no {l : List Int} {k : Nat} {bad : Bool} {n : Int} (h : rOk l k bad n = false) : rNum l k bad n = 0 := by unfold rNum rBytes; rw [h]; rfl
theorem rAt_no {l : List Int} {k : Nat} {bad : Bool} {n : Int} (h : rOk l k bad n = false) : rAt l k bad n = k := by unfold rAt; rw [h]; rfl

theorem wordBytes_calls (w : World) {v : Value} {xs : List Int} (h1 : BytesAt w v xs) (hB : Bytes xs) : Calls Try.prog 3 #[v] w (Ret fun r w' => r = .bool true ∧ Below w.heap.size w w') := by
  have hC := hid (fun w1 (h : Below w.heap.size w w1) => cut_calls w1 60 (by omega) (h1.below h) (by omega))
  have hl : (xs.take 60).length ≤ 60 := by simp; omega
  have hBl : Bytes (xs.take 60) := fun y hy => hB y (List.mem_of_mem_take hy)
  generalize xs.take 60 = l at *
  have hR := hid (fun k (hk : k ≤ l.length) => (⟨hk, hBl⟩ : RdOk l k))
  clear hB hBl h1
  go_enter Try.func3, Try.ntmps3
  go_wp2_with (first
    | (go_at_call 9; refine (awake_calls _).mono ?_; rintro _ w1 ⟨_, rfl, rfl, hb1⟩; (have hb1H := hid hb1); clear hb1)
    | (go_at_call 10; refine (hC.out _ hb1H.out).mono ?_; rintro _ w2 ⟨_, rfl, M2⟩; (have M2H := hid (((Own.start w).keep hb1H.out).lift M2)); obtain ⟨A, c, rfl⟩ := M2.form (.head _); clear M2)
    | (go_at_call 11; refine (new_calls _ (M2H.out.slice (e := 5) (.head _)) (by omega)).mono ?_; rintro _ w3 ⟨_, rfl, b, v', rfl, M3⟩; (have M3H := hid (M2H.out.lift M3 (by simp [rdE, Ent.mine]))); clear M3))
  go_loopw [14] (fun i wr => ∃ k : Nat, k ≤ l.length ∧ i = .int .i64 k ∧ Hid (Own w wr (rdE b v' l k false ++ [.row 5 1 (.slice A l.length c) l.length (ints .u8 l)]))) (fun i _ => l.length - (intOf i).toNat)
  case atStart => exact ⟨0, Nat.zero_le _, rfl, hid (by simpa using M3H.out)⟩
  case round =>
    obtain ⟨k, hk, rfl, MH⟩ := hrel
    by_cases hlt : k < l.length
    · obtain ⟨A', c', he, -, -, -, hr⟩ := MH.out.slice (e := 5) (sz := 1) (v := .slice A l.length c) (n := l.length) (xs := ints .u8 l) (by simp)
      injection he with he1 he2 he3
      subst he1; subst he3
      obtain ⟨a1, rfl, hcell1⟩ := hr.cell (ints_get .u8 l k hlt)
      have hU := hid (rd_U8 (hR.out k hk) MH.out)
      rw [rNum_one hlt, rAt_one hlt, rOk_one hlt] at hU
      generalize l.getD k 0 = x at *
      clear hr
      go_wp2_with (go_at_call 12; refine hU.out.mono ?_; rintro _ w4 ⟨_, rfl, rfl, M4⟩; (have M4H := hid M4); clear M4)
      go_roundw
      case rel => exact ⟨k + 1, by omega, by go_num, M4H⟩
      case measure => simp [intOf]; omega
    · obtain rfl : k = l.length := by omega
      have hU := hid (fun bad (wr : World) (M : Own w wr (rdE b v' l l.length bad ++ [.row 5 1 (.slice A l.length c) l.length (ints .u8 l)])) => rd_U8 (hR.out _ (Nat.le_refl _)) M)
      go_wp2_with (first
        | (go_at_call 13; refine (rd_Left (Nat.le_refl _) MH.out).mono ?_; rintro _ w4 ⟨_, rfl, rfl, M4⟩; (have M4H := hid M4); clear M4)
        | (go_at_call 14; ((with_reducible refine (rd_Bad M4H.out).mono ?_); rintro _ w5 ⟨_, rfl, rfl, rfl⟩))
        | (go_at_call 12; refine (rd_U8 (hR.out _ (Nat.le_refl _)) M4H.out).mono ?_; rw [rNum_no (rOk_end (by omega)), rAt_no (rOk_end (by omega)), rOk_end (by omega)]; rintro _ w5 ⟨_, rfl, rfl, M5⟩; (have M5H := hid M5); clear M5)
        | (go_at_call 14; refine (rd_Bad M5H.out).mono ?_; rintro _ w5 ⟨_, rfl, rfl, rfl⟩))
      go_ret
      exact .mk ⟨rfl, M5H.out.below⟩
end Go.Proofs.Ytlfjfdaeoclakaa
