/- Layer 1: WordReads: of any bytes, asked for any numbers and parts, just the document's are told. -/
import Derived.Test.YtlfjfdaeoclakaaLaw01A
import Derived.Test.YtlfjfdaeoclakaaJoin
import Derived.Test.YtlfjfdaeoclakaaRead
import Derived.Deep.RegionWith
import Derived.Deep.DeepCutAuto
namespace Go.Proofs.Ytlfjfdaeoclakaa
open Go Go.RowKit
set_option linter.unusedVariables false
set_option linter.unusedSimpArgs false
set_option maxRecDepth 100000

theorem be_n2 {q : List Int} (h : q.length = 2 ∨ q.length = 0) : be q = n2 q 0 := by
  match q, h with
  | [], _ => rfl
  | [x, y], _ => simp [be, n2]; omega
theorem be_n4 {q : List Int} (h : q.length = 4 ∨ q.length = 0) : be q = n4 q 0 := by
  match q, h with
  | [], _ => rfl
  | [x, y, z, t], _ => simp [be, n4, n2]; omega
theorem rB_len (l : List Int) (a : Nat) (bad : Bool) (n : Nat) : (rBytes l a bad n).length = n ∨ (rBytes l a bad n).length = 0 := by
  rw [rBytes_length]
  split
  · exact .inl (by simp)
  · exact .inr rfl
theorem rB_part {l : List Int} {a n : Nat} (h : rOk l a false n = true) : (l.take (a + n)).drop a = rBytes l a false n := by
  unfold rBytes
  rw [h, if_pos rfl, Int.toNat_natCast, List.drop_take]
  congr 1; omega
theorem rB_no {l : List Int} {a : Nat} {bad : Bool} {n : Int} (h : rOk l a bad n = false) : rBytes l a bad n = [] := by unfold rBytes; rw [h]; rfl

theorem rowq {W0 w : World} {L : List Ent} {Aq : Option Addr} {cq : Nat} {x : Int} (M : Own W0 w L) (h : .row 5 1 (.slice Aq 1 cq) 1 (ints .u8 [x]) ∈ L) : ∃ g, Aq = some ⟨g, 0, none⟩ ∧ w.cell? ⟨g, 0, none⟩ = some (.int .u8 x) := by
  obtain ⟨g, rfl⟩ := M.row_at h (by omega)
  obtain ⟨A9, c9, he, -, -, -, hr⟩ := M.slice h
  injection he with he1 he2 he3
  subst he1
  obtain ⟨ad, he, h0⟩ := hr.cell (j := 0) (u := .int .u8 x) rfl
  injection he with he
  subst he
  exact ⟨g, rfl, by simpa [Addr.add] using h0⟩


set_option maxHeartbeats 16000000 in
theorem wordReads_calls (w : World) {V1 V2 : Value} {xs zs : List Int} (h1 : BytesAt w V1 xs) (hB : Bytes xs) (h2 : BytesAt w V2 zs) (hZ : Bytes zs) :
    Calls Try.prog 6 #[V1, V2] w (Ret fun r w' => r = .bool true ∧ Below w.heap.size w w') := by
  have M0 := hid (Own.start w)
  have hC := hid (fun w1 (h : Below w.heap.size w w1) => cut_calls w1 60 (by omega) (h1.below h) (by omega))
  have hl : (xs.take 60).length ≤ 60 := by simp; omega
  have hBl : Bytes (xs.take 60) := hB.take 60
  obtain ⟨A1, c1, rfl, -⟩ := h1
  obtain ⟨A2, c2, rfl, hc2, hm2, -, hr2⟩ := h2
  unfold maxLen at hm2
  generalize xs.take 60 = l at *
  obtain ⟨n, hn⟩ : ∃ n, l.length = n := ⟨_, rfl⟩
  obtain ⟨m, hm⟩ : ∃ m, zs.length = m := ⟨_, rfl⟩
  rw [hn] at hl hC
  rw [hm] at hc2 hr2
  rw [hm]
  replace hn := hid hn
  replace hm := hid hm
  have hrH := hid hr2
  have hZH := hid (fun k => hZ.get k)
  replace hBl := hid hBl
  clear hB hZ hr2
  go_enter Try.func6, Try.ntmps6
  go_wp2_with (first
    | (go_at_call 9; refine (awake_calls _).mono ?_; rintro _ w2 ⟨_, rfl, rfl, hb⟩; (have M2 := hid (M0.out.keep hb)); clear hb)
    | (go_at_call 10; refine (hC.out _ M2.out.below).mono ?_; rintro _ w3 ⟨_, rfl, M⟩; obtain ⟨A, c, rfl⟩ := M.form (.head _); (have M3 := hid (M2.out.lift M)); clear M)
    | (go_at_call 11; refine (new_calls _ (M3.out.bytes (e := 5) (v := .slice A n c) (n := n) (l := l) (by simp) hn.out) (by rw [hn.out]; omega)).mono ?_; rintro _ w4 ⟨_, rfl, b, v, rfl, M⟩; (have M4 := hid (M3.out.lift M (by simp [rdE, Ent.mine]))); (clear M)))
  go_loopw [6, 7, 27] (fun av bv i wr => ∃ (k a : Nat) (bad : Bool), k ≤ m ∧ i = .int .i64 k ∧ av = .int .i64 a ∧ bv = .bool bad ∧ a ≤ n ∧ Hid (Own w wr (rdE b v l a bad ++ [.row 5 1 (.slice A n c) n (ints .u8 l)]))) (fun _ _ i _ => m - (intOf i).toNat)
  case atStart => exact ⟨0, 0, false, Nat.zero_le _, rfl, rfl, rfl, by omega, hid (by simpa using M4.out)⟩
  case round =>
    clear M4
    obtain ⟨k, a, bad, hk, rfl, rfl, rfl, ha, MH⟩ := hrel
    by_cases hlt : k < m
    · by_cases h20 : k < 20
      · obtain ⟨a1, rfl, hcell1⟩ := (hrH.out.keep (w' := wr) fun k hk _ => MH.out.below.block k hk).cell (ints_get .u8 zs k (by rw [hm.out]; exact hlt))
        obtain ⟨z0, z1⟩ := hZH.out k
        generalize zs.getD k 0 = z at *
        have hk20 : ¬ ((k : Int) ≥ 20) := by omega
        have hk20' : (k : Int) < 20 := by omega
        obtain ⟨sn, hsn⟩ : ∃ sn : Nat, z / 5 % 12 = (sn : Int) := ⟨(z / 5 % 12).toNat, by omega⟩
        have hSN := hid hsn
        clear hsn
        have hR := hid (⟨by rw [hn.out]; exact ha, hBl.out⟩ : RdOk l a)
        rcases (by omega : z % 5 = 0 ∨ z % 5 = 1 ∨ z % 5 = 2 ∨ z % 5 = 3 ∨ z % 5 = 4) with e5 | e5 | e5 | e5 | e5
        · cases bad
          · by_cases hgt : (1 : Int) > (n : Int) - a
            · have hro : rOk l a false 1 = false := by
                simp only [rOk, Bool.not_false, Bool.true_and, decide_eq_false_iff_not]
                rw [hn.out]; omega
              have hRD := hid (fun w' L (M : Own w w' (rdE b v l a false ++ L)) => show Calls Try.prog 12 #[.pointer (some ⟨b, 0, none⟩)] w' (Ret fun r w'' => r = .int .u8 0 ∧ Own w w'' (rdE b v l a true ++ L)) from by
                have := rd_U8 hR.out M
                simp only [rNum_no hro, rAt_no hro, hro, Bool.not_false] at this
                exact this)
              clear hro
              have hN2 := hid (fun w' V (h : BytesAt w' V []) => show Calls Try.prog 22 #[V, .int .i64 0] w' (Ret fun r w'' => r = .tuple #[.int .i64 0, .bool false] ∧ Below w'.heap.size w' w'') from N2_calls w' 0 (by omega) bytes_nil h)
              have hN4 := hid (fun w' V (h : BytesAt w' V []) => show Calls Try.prog 23 #[V, .int .i64 0] w' (Ret fun r w'' => r = .tuple #[.int .u32 0, .bool false] ∧ Below w'.heap.size w' w'') from N4_calls w' 0 (by omega) bytes_nil h)
              go_upto_region 16 with fail
              have M5 := hid ((MH.out.alloc 3 #[.int .i64 1, .int .i64 2, .int .i64 2, .int .i64 4, .int .i64 (z / 5 % 12)]).tail)
              go_wp2_with (first
                | (go_at_call 22; (with_reducible refine (hN2.out _ _ (SliceAt.nil _ _ _)).mono ?_); rintro _ w6 ⟨_, rfl, rfl, hb⟩; (have M6 := hid (M5.out.keep hb)); clear hb)
                | (go_at_call 23; (with_reducible refine (hN4.out _ _ (SliceAt.nil _ _ _)).mono ?_); rintro _ w7 ⟨_, rfl, rfl, hb⟩; (have M7 := hid (M6.out.keep hb)); clear hb)
                | (go_at_call 12; (with_reducible refine (hRD.out _ _ M7.out).mono ?_); rintro _ w8 ⟨_, rfl, rfl, M⟩; (have M8 := hid M); clear M)
                | (go_at_call 14; refine (rd_Bad M8.out).mono ?_; rintro _ _ ⟨_, rfl, rfl, rfl⟩)
                | (go_at_call 13; refine (rd_Left hR.out.le M8.out).mono ?_; rintro _ w10 ⟨_, rfl, rfl, M⟩; (have M9 := hid M); clear M)
                | (go_at_call 21; refine (rd_At M9.out).mono ?_; rintro _ _ ⟨_, rfl, rfl, rfl⟩))
              go_roundw
              case rel => exact ⟨k + 1, a, true, by omega, by go_num, rfl, rfl, ha, hid (M9.out.sub (by simp [rdE]))⟩
              case measure => simp [intOf] <;> omega
            · have hro : rOk l a false 1 = true := by
                simp only [rOk, Bool.not_false, Bool.true_and, decide_eq_true_eq]
                rw [hn.out]; omega
              have hat : rAt l a false 1 = a + 1 := by unfold rAt; rw [hro, if_pos rfl]; rfl
              have hle : a + 1 ≤ n := by omega
              have hat2 := hid (show a + 1 ≤ l.length by rw [hn.out]; omega)
              have hLf := hid (fun w' L (M : Own w w' (rdE b v l (a + 1) false ++ L)) => show Calls Try.prog 13 #[.pointer (some ⟨b, 0, none⟩)] w' (Ret fun r w'' => r = .int .i64 ((n : Int) - ((a : Int) + 1)) ∧ Own w w'' (rdE b v l (a + 1) false ++ L)) from by
                have := rd_Left hat2.out M
                rw [hn.out, show ((a + 1 : Nat) : Int) = (a : Int) + 1 by omega] at this
                exact this)
              have hAt := hid (fun w' L (M : Own w w' (rdE b v l (a + 1) false ++ L)) => show Calls Try.prog 21 #[.pointer (some ⟨b, 0, none⟩)] w' (Ret fun r w'' => r = .int .i64 ((a : Int) + 1) ∧ w' = w'') from by
                have := rd_At M
                rw [show ((a + 1 : Nat) : Int) = (a : Int) + 1 by omega] at this
                exact this)
              obtain ⟨q, hq⟩ : ∃ q, rBytes l a false 1 = q := ⟨_, rfl⟩
              have hql : q.length = 1 := by rw [← hq, rBytes_length, hro, if_pos rfl]; rfl
              have hqB : Bytes q := by rw [← hq]; exact hBl.out.cut false _
              have hnum : rNum l a false 1 = be q := by unfold rNum; rw [hq]
              have hPt := hid (fun w' V (h : BytesAt w' V l) => show Calls Try.prog 17 #[V, .int .i64 a, .int .i64 ((a : Int) + 1)] w' (Ret fun r w'' => Own w' w'' [.row 5 1 r 1 (ints .u8 q)]) from by
                have := part_calls w' a (a + 1) (by omega) (by omega) h (by rw [hn.out]; omega)
                rwa [rB_part (n := 1) (by exact hro), show rBytes l a false ((1 : Nat) : Int) = q by exact hq, hql, show ((a + 1 : Nat) : Int) = (a : Int) + 1 by omega] at this)
              obtain ⟨x, rfl⟩ : ∃ x, q = [x] := by
                match q, hql with
                | [x], _ => exact ⟨x, rfl⟩
              rw [be_one] at hnum
              have hxx := hqB x (by simp)
              have hRD := hid (fun w' L (M : Own w w' (rdE b v l a false ++ L)) => show Calls Try.prog 12 #[.pointer (some ⟨b, 0, none⟩)] w' (Ret fun r w'' => r = .int .u8 x ∧ Own w w'' (rdE b v l (a + 1) false ++ L)) from by
                have := rd_U8 hR.out M
                simp only [hnum, hat, hro, Bool.not_true] at this
                exact this)
              obtain ⟨d2, hd2⟩ : ∃ d, decide (0 + 2 ≤ [x].length) = d := ⟨_, rfl⟩
              obtain ⟨d4, hd4⟩ : ∃ d, decide (0 + 4 ≤ [x].length) = d := ⟨_, rfl⟩
              have hN2 := hid (fun w' V (h : BytesAt w' V [x]) => show Calls Try.prog 22 #[V, .int .i64 0] w' (Ret fun r w'' => r = .tuple #[.int .i64 (n2 [x] 0), .bool d2] ∧ Below w'.heap.size w' w'') from by
                have := N2_calls w' 0 (by omega) hqB h
                rwa [hd2] at this)
              have hN4 := hid (fun w' V (h : BytesAt w' V [x]) => show Calls Try.prog 23 #[V, .int .i64 0] w' (Ret fun r w'' => r = .tuple #[.int .u32 (n4 [x] 0), .bool d4] ∧ Below w'.heap.size w' w'') from by
                have := N4_calls w' 0 (by omega) hqB h
                rwa [hd4] at this)
              obtain ⟨g0, g1⟩ := n2_bound hqB 0
              obtain ⟨e0, e1⟩ := n4_bound hqB 0
              generalize n2 [x] 0 = y2 at *
              generalize n4 [x] 0 = y4 at *
              clear hro hnum hq hqB hd2 hd4
              replace hql := hid hql
              replace hat := hid hat
              go_upto_region 16 with (go_at_call 17; have M4 := hid ((MH.out.alloc 3 #[.int .i64 1, .int .i64 2, .int .i64 2, .int .i64 4, .int .i64 (z / 5 % 12)]).tail); (refine (hPt.out _ _ (M4.out.bytes (e := 5) (v := .slice A n c) (n := n) (l := l) (by simp [rdE]) hn.out)).mono ?_); rintro _ w5 ⟨_, rfl, M⟩; obtain ⟨Aq, cq, rfl⟩ := M.form (.head _); have M5 := hid (Own.front (L1 := [_]) (X := rdE _ _ _ _ _) (M4.out.lift M)); clear M M4)
              go_wp2_with (first
                | (go_at_call 22; (with_reducible refine (hN2.out _ _ (M5.out.bytes (e := 5) (v := .slice Aq 1 cq) (n := 1) (l := [x]) (by simp [rdE]) hql.out)).mono ?_); rintro _ w6 ⟨_, rfl, rfl, hb⟩; (have M6 := hid (M5.out.keep hb)); clear hb)
                | (go_at_call 23; (with_reducible refine (hN4.out _ _ (M6.out.bytes (e := 5) (v := .slice Aq 1 cq) (n := 1) (l := [x]) (by simp [rdE]) hql.out)).mono ?_); rintro _ w7 ⟨_, rfl, rfl, hb⟩; (have M7 := hid (M6.out.keep hb)); clear hb)
                | (go_at_call 12; (with_reducible refine (hRD.out _ _ M7.out).mono ?_); rintro _ w8 ⟨_, rfl, rfl, M⟩; obtain ⟨gq, rfl, cq0⟩ := rowq M (Aq := Aq) (cq := cq) (x := x) (by simp [rdE]); (have M8 := hid M); clear M)
                | (go_at_call 14; refine (rd_Bad M8.out).mono ?_; rintro _ _ ⟨_, rfl, rfl, rfl⟩)
                | (go_at_call 13; (with_reducible refine (hLf.out _ _ M8.out).mono ?_); rintro _ w10 ⟨_, rfl, rfl, M⟩; (have M9 := hid M); clear M)
                | (go_at_call 21; (with_reducible refine (hAt.out _ _ M9.out).mono ?_); rintro _ _ ⟨_, rfl, rfl, rfl⟩))
              go_roundw
              case rel => exact ⟨k + 1, a + 1, false, by omega, by go_num, by first | rfl | go_num | (rw [hSN.out]; go_num), rfl, hle, hid (M9.out.sub (by simp [rdE]))⟩
              case measure => simp [intOf] <;> omega
          · have hro : rOk l a true 1 = false := by simp [rOk]
            have hRD := hid (fun w' L (M : Own w w' (rdE b v l a true ++ L)) => show Calls Try.prog 12 #[.pointer (some ⟨b, 0, none⟩)] w' (Ret fun r w'' => r = .int .u8 0 ∧ Own w w'' (rdE b v l a true ++ L)) from by
              have := rd_U8 hR.out M
              simp only [rNum_no hro, rAt_no hro, hro, Bool.not_false] at this
              exact this)
            clear hro
            have hN2 := hid (fun w' V (h : BytesAt w' V []) => show Calls Try.prog 22 #[V, .int .i64 0] w' (Ret fun r w'' => r = .tuple #[.int .i64 0, .bool false] ∧ Below w'.heap.size w' w'') from N2_calls w' 0 (by omega) bytes_nil h)
            have hN4 := hid (fun w' V (h : BytesAt w' V []) => show Calls Try.prog 23 #[V, .int .i64 0] w' (Ret fun r w'' => r = .tuple #[.int .u32 0, .bool false] ∧ Below w'.heap.size w' w'') from N4_calls w' 0 (by omega) bytes_nil h)
            go_upto_region 16 with fail
            have M5 := hid ((MH.out.alloc 3 #[.int .i64 1, .int .i64 2, .int .i64 2, .int .i64 4, .int .i64 (z / 5 % 12)]).tail)
            go_wp2_with (first
              | (go_at_call 22; (with_reducible refine (hN2.out _ _ (SliceAt.nil _ _ _)).mono ?_); rintro _ w6 ⟨_, rfl, rfl, hb⟩; (have M6 := hid (M5.out.keep hb)); clear hb)
              | (go_at_call 23; (with_reducible refine (hN4.out _ _ (SliceAt.nil _ _ _)).mono ?_); rintro _ w7 ⟨_, rfl, rfl, hb⟩; (have M7 := hid (M6.out.keep hb)); clear hb)
              | (go_at_call 12; (with_reducible refine (hRD.out _ _ M7.out).mono ?_); rintro _ w8 ⟨_, rfl, rfl, M⟩; (have M8 := hid M); clear M)
              | (go_at_call 14; refine (rd_Bad M8.out).mono ?_; rintro _ _ ⟨_, rfl, rfl, rfl⟩)
              | (go_at_call 13; refine (rd_Left hR.out.le M8.out).mono ?_; rintro _ w10 ⟨_, rfl, rfl, M⟩; (have M9 := hid M); clear M)
              | (go_at_call 21; refine (rd_At M9.out).mono ?_; rintro _ _ ⟨_, rfl, rfl, rfl⟩))
            go_roundw
            case rel => exact ⟨k + 1, a, true, by omega, by go_num, rfl, rfl, ha, hid (M9.out.sub (by simp [rdE]))⟩
            case measure => simp [intOf] <;> omega
        · cases bad
          · by_cases hgt : (2 : Int) > (n : Int) - a
            · have hro : rOk l a false 2 = false := by
                simp only [rOk, Bool.not_false, Bool.true_and, decide_eq_false_iff_not]
                rw [hn.out]; omega
              have hRD := hid (fun w' L (M : Own w w' (rdE b v l a false ++ L)) => show Calls Try.prog 19 #[.pointer (some ⟨b, 0, none⟩)] w' (Ret fun r w'' => r = .int .u16 0 ∧ Own w w'' (rdE b v l a true ++ L)) from by
                have := rd_U16 hR.out M
                simp only [rNum_no hro, rAt_no hro, hro, Bool.not_false] at this
                exact this)
              clear hro
              have hN2 := hid (fun w' V (h : BytesAt w' V []) => show Calls Try.prog 22 #[V, .int .i64 0] w' (Ret fun r w'' => r = .tuple #[.int .i64 0, .bool false] ∧ Below w'.heap.size w' w'') from N2_calls w' 0 (by omega) bytes_nil h)
              have hN4 := hid (fun w' V (h : BytesAt w' V []) => show Calls Try.prog 23 #[V, .int .i64 0] w' (Ret fun r w'' => r = .tuple #[.int .u32 0, .bool false] ∧ Below w'.heap.size w' w'') from N4_calls w' 0 (by omega) bytes_nil h)
              go_upto_region 16 with fail
              have M5 := hid ((MH.out.alloc 3 #[.int .i64 1, .int .i64 2, .int .i64 2, .int .i64 4, .int .i64 (z / 5 % 12)]).tail)
              go_wp2_with (first
                | (go_at_call 22; (with_reducible refine (hN2.out _ _ (SliceAt.nil _ _ _)).mono ?_); rintro _ w6 ⟨_, rfl, rfl, hb⟩; (have M6 := hid (M5.out.keep hb)); clear hb)
                | (go_at_call 23; (with_reducible refine (hN4.out _ _ (SliceAt.nil _ _ _)).mono ?_); rintro _ w7 ⟨_, rfl, rfl, hb⟩; (have M7 := hid (M6.out.keep hb)); clear hb)
                | (go_at_call 19; (with_reducible refine (hRD.out _ _ M7.out).mono ?_); rintro _ w8 ⟨_, rfl, rfl, M⟩; (have M8 := hid M); clear M)
                | (go_at_call 14; refine (rd_Bad M8.out).mono ?_; rintro _ _ ⟨_, rfl, rfl, rfl⟩)
                | (go_at_call 13; refine (rd_Left hR.out.le M8.out).mono ?_; rintro _ w10 ⟨_, rfl, rfl, M⟩; (have M9 := hid M); clear M)
                | (go_at_call 21; refine (rd_At M9.out).mono ?_; rintro _ _ ⟨_, rfl, rfl, rfl⟩))
              go_roundw
              case rel => exact ⟨k + 1, a, true, by omega, by go_num, rfl, rfl, ha, hid (M9.out.sub (by simp [rdE]))⟩
              case measure => simp [intOf] <;> omega
            · have hro : rOk l a false 2 = true := by
                simp only [rOk, Bool.not_false, Bool.true_and, decide_eq_true_eq]
                rw [hn.out]; omega
              have hat : rAt l a false 2 = a + 2 := by unfold rAt; rw [hro, if_pos rfl]; rfl
              have hle : a + 2 ≤ n := by omega
              have hat2 := hid (show a + 2 ≤ l.length by rw [hn.out]; omega)
              have hLf := hid (fun w' L (M : Own w w' (rdE b v l (a + 2) false ++ L)) => show Calls Try.prog 13 #[.pointer (some ⟨b, 0, none⟩)] w' (Ret fun r w'' => r = .int .i64 ((n : Int) - ((a : Int) + 2)) ∧ Own w w'' (rdE b v l (a + 2) false ++ L)) from by
                have := rd_Left hat2.out M
                rw [hn.out, show ((a + 2 : Nat) : Int) = (a : Int) + 2 by omega] at this
                exact this)
              have hAt := hid (fun w' L (M : Own w w' (rdE b v l (a + 2) false ++ L)) => show Calls Try.prog 21 #[.pointer (some ⟨b, 0, none⟩)] w' (Ret fun r w'' => r = .int .i64 ((a : Int) + 2) ∧ w' = w'') from by
                have := rd_At M
                rw [show ((a + 2 : Nat) : Int) = (a : Int) + 2 by omega] at this
                exact this)
              obtain ⟨q, hq⟩ : ∃ q, rBytes l a false 2 = q := ⟨_, rfl⟩
              have hql : q.length = 2 := by rw [← hq, rBytes_length, hro, if_pos rfl]; rfl
              have hqB : Bytes q := by rw [← hq]; exact hBl.out.cut false _
              have hnum : rNum l a false 2 = be q := by unfold rNum; rw [hq]
              have hPt := hid (fun w' V (h : BytesAt w' V l) => show Calls Try.prog 17 #[V, .int .i64 a, .int .i64 ((a : Int) + 2)] w' (Ret fun r w'' => Own w' w'' [.row 5 1 r 2 (ints .u8 q)]) from by
                have := part_calls w' a (a + 2) (by omega) (by omega) h (by rw [hn.out]; omega)
                rwa [rB_part (n := 2) (by exact hro), show rBytes l a false ((2 : Nat) : Int) = q by exact hq, hql, show ((a + 2 : Nat) : Int) = (a : Int) + 2 by omega] at this)
              rw [be_n2 (.inl hql)] at hnum
              have hRD := hid (fun w' L (M : Own w w' (rdE b v l a false ++ L)) => show Calls Try.prog 19 #[.pointer (some ⟨b, 0, none⟩)] w' (Ret fun r w'' => r = .int .u16 (n2 q 0) ∧ Own w w'' (rdE b v l (a + 2) false ++ L)) from by
                have := rd_U16 hR.out M
                simp only [hnum, hat, hro, Bool.not_true] at this
                exact this)
              obtain ⟨d2, hd2⟩ : ∃ d, decide (0 + 2 ≤ q.length) = d := ⟨_, rfl⟩
              obtain ⟨d4, hd4⟩ : ∃ d, decide (0 + 4 ≤ q.length) = d := ⟨_, rfl⟩
              have hN2 := hid (fun w' V (h : BytesAt w' V q) => show Calls Try.prog 22 #[V, .int .i64 0] w' (Ret fun r w'' => r = .tuple #[.int .i64 (n2 q 0), .bool d2] ∧ Below w'.heap.size w' w'') from by
                have := N2_calls w' 0 (by omega) hqB h
                rwa [hd2] at this)
              have hN4 := hid (fun w' V (h : BytesAt w' V q) => show Calls Try.prog 23 #[V, .int .i64 0] w' (Ret fun r w'' => r = .tuple #[.int .u32 (n4 q 0), .bool d4] ∧ Below w'.heap.size w' w'') from by
                have := N4_calls w' 0 (by omega) hqB h
                rwa [hd4] at this)
              obtain ⟨g0, g1⟩ := n2_bound hqB 0
              obtain ⟨e0, e1⟩ := n4_bound hqB 0
              generalize n2 q 0 = y2 at *
              generalize n4 q 0 = y4 at *
              clear hro hnum hq hqB hd2 hd4
              replace hql := hid hql
              replace hat := hid hat
              go_upto_region 16 with (go_at_call 17; have M4 := hid ((MH.out.alloc 3 #[.int .i64 1, .int .i64 2, .int .i64 2, .int .i64 4, .int .i64 (z / 5 % 12)]).tail); (refine (hPt.out _ _ (M4.out.bytes (e := 5) (v := .slice A n c) (n := n) (l := l) (by simp [rdE]) hn.out)).mono ?_); rintro _ w5 ⟨_, rfl, M⟩; obtain ⟨Aq, cq, rfl⟩ := M.form (.head _); have M5 := hid (Own.front (L1 := [_]) (X := rdE _ _ _ _ _) (M4.out.lift M)); clear M M4)
              go_wp2_with (first
                | (go_at_call 22; (with_reducible refine (hN2.out _ _ (M5.out.bytes (e := 5) (v := .slice Aq 2 cq) (n := 2) (l := q) (by simp [rdE]) hql.out)).mono ?_); rintro _ w6 ⟨_, rfl, rfl, hb⟩; (have M6 := hid (M5.out.keep hb)); clear hb)
                | (go_at_call 23; (with_reducible refine (hN4.out _ _ (M6.out.bytes (e := 5) (v := .slice Aq 2 cq) (n := 2) (l := q) (by simp [rdE]) hql.out)).mono ?_); rintro _ w7 ⟨_, rfl, rfl, hb⟩; (have M7 := hid (M6.out.keep hb)); clear hb)
                | (go_at_call 19; (with_reducible refine (hRD.out _ _ M7.out).mono ?_); rintro _ w8 ⟨_, rfl, rfl, M⟩; (have M8 := hid M); clear M)
                | (go_at_call 14; refine (rd_Bad M8.out).mono ?_; rintro _ _ ⟨_, rfl, rfl, rfl⟩)
                | (go_at_call 13; (with_reducible refine (hLf.out _ _ M8.out).mono ?_); rintro _ w10 ⟨_, rfl, rfl, M⟩; (have M9 := hid M); clear M)
                | (go_at_call 21; (with_reducible refine (hAt.out _ _ M9.out).mono ?_); rintro _ _ ⟨_, rfl, rfl, rfl⟩))
              go_roundw
              case rel => exact ⟨k + 1, a + 2, false, by omega, by go_num, by first | rfl | go_num | (rw [hSN.out]; go_num), rfl, hle, hid (M9.out.sub (by simp [rdE]))⟩
              case measure => simp [intOf] <;> omega
          · have hro : rOk l a true 2 = false := by simp [rOk]
            have hRD := hid (fun w' L (M : Own w w' (rdE b v l a true ++ L)) => show Calls Try.prog 19 #[.pointer (some ⟨b, 0, none⟩)] w' (Ret fun r w'' => r = .int .u16 0 ∧ Own w w'' (rdE b v l a true ++ L)) from by
              have := rd_U16 hR.out M
              simp only [rNum_no hro, rAt_no hro, hro, Bool.not_false] at this
              exact this)
            clear hro
            have hN2 := hid (fun w' V (h : BytesAt w' V []) => show Calls Try.prog 22 #[V, .int .i64 0] w' (Ret fun r w'' => r = .tuple #[.int .i64 0, .bool false] ∧ Below w'.heap.size w' w'') from N2_calls w' 0 (by omega) bytes_nil h)
            have hN4 := hid (fun w' V (h : BytesAt w' V []) => show Calls Try.prog 23 #[V, .int .i64 0] w' (Ret fun r w'' => r = .tuple #[.int .u32 0, .bool false] ∧ Below w'.heap.size w' w'') from N4_calls w' 0 (by omega) bytes_nil h)
            go_upto_region 16 with fail
            have M5 := hid ((MH.out.alloc 3 #[.int .i64 1, .int .i64 2, .int .i64 2, .int .i64 4, .int .i64 (z / 5 % 12)]).tail)
            go_wp2_with (first
              | (go_at_call 22; (with_reducible refine (hN2.out _ _ (SliceAt.nil _ _ _)).mono ?_); rintro _ w6 ⟨_, rfl, rfl, hb⟩; (have M6 := hid (M5.out.keep hb)); clear hb)
              | (go_at_call 23; (with_reducible refine (hN4.out _ _ (SliceAt.nil _ _ _)).mono ?_); rintro _ w7 ⟨_, rfl, rfl, hb⟩; (have M7 := hid (M6.out.keep hb)); clear hb)
              | (go_at_call 19; (with_reducible refine (hRD.out _ _ M7.out).mono ?_); rintro _ w8 ⟨_, rfl, rfl, M⟩; (have M8 := hid M); clear M)
              | (go_at_call 14; refine (rd_Bad M8.out).mono ?_; rintro _ _ ⟨_, rfl, rfl, rfl⟩)
              | (go_at_call 13; refine (rd_Left hR.out.le M8.out).mono ?_; rintro _ w10 ⟨_, rfl, rfl, M⟩; (have M9 := hid M); clear M)
              | (go_at_call 21; refine (rd_At M9.out).mono ?_; rintro _ _ ⟨_, rfl, rfl, rfl⟩))
            go_roundw
            case rel => exact ⟨k + 1, a, true, by omega, by go_num, rfl, rfl, ha, hid (M9.out.sub (by simp [rdE]))⟩
            case measure => simp [intOf] <;> omega
        · cases bad
          · by_cases hgt : (2 : Int) > (n : Int) - a
            · have hro : rOk l a false 2 = false := by
                simp only [rOk, Bool.not_false, Bool.true_and, decide_eq_false_iff_not]
                rw [hn.out]; omega
              have hRD := hid (fun w' L (M : Own w w' (rdE b v l a false ++ L)) => show Calls Try.prog 20 #[.pointer (some ⟨b, 0, none⟩)] w' (Ret fun r w'' => r = .int .i16 0 ∧ Own w w'' (rdE b v l a true ++ L)) from by
                have := rd_I16 hR.out M
                simp only [rNum_no hro, rAt_no hro, hro, Bool.not_false] at this
                exact this)
              clear hro
              have hN2 := hid (fun w' V (h : BytesAt w' V []) => show Calls Try.prog 22 #[V, .int .i64 0] w' (Ret fun r w'' => r = .tuple #[.int .i64 0, .bool false] ∧ Below w'.heap.size w' w'') from N2_calls w' 0 (by omega) bytes_nil h)
              have hN4 := hid (fun w' V (h : BytesAt w' V []) => show Calls Try.prog 23 #[V, .int .i64 0] w' (Ret fun r w'' => r = .tuple #[.int .u32 0, .bool false] ∧ Below w'.heap.size w' w'') from N4_calls w' 0 (by omega) bytes_nil h)
              have hSg := hid (fun w' => show Calls Try.prog 24 #[.int .i64 0] w' (Ret fun r w'' => r = .int .i64 0 ∧ w' = w'') from Sign_calls w' (n := 0) (by omega) (by omega))
              go_upto_region 16 with fail
              have M5 := hid ((MH.out.alloc 3 #[.int .i64 1, .int .i64 2, .int .i64 2, .int .i64 4, .int .i64 (z / 5 % 12)]).tail)
              go_wp2_with (first
                | (go_at_call 22; (with_reducible refine (hN2.out _ _ (SliceAt.nil _ _ _)).mono ?_); rintro _ w6 ⟨_, rfl, rfl, hb⟩; (have M6 := hid (M5.out.keep hb)); clear hb)
                | (go_at_call 23; (with_reducible refine (hN4.out _ _ (SliceAt.nil _ _ _)).mono ?_); rintro _ w7 ⟨_, rfl, rfl, hb⟩; (have M7 := hid (M6.out.keep hb)); clear hb)
                | (go_at_call 20; (with_reducible refine (hRD.out _ _ M7.out).mono ?_); rintro _ w8 ⟨_, rfl, rfl, M⟩; (have M8 := hid M); clear M)
                | (go_at_call 24; (with_reducible refine (hSg.out _).mono ?_); rintro _ _ ⟨_, rfl, rfl, rfl⟩)
                | (go_at_call 14; refine (rd_Bad M8.out).mono ?_; rintro _ _ ⟨_, rfl, rfl, rfl⟩)
                | (go_at_call 13; refine (rd_Left hR.out.le M8.out).mono ?_; rintro _ w10 ⟨_, rfl, rfl, M⟩; (have M9 := hid M); clear M)
                | (go_at_call 21; refine (rd_At M9.out).mono ?_; rintro _ _ ⟨_, rfl, rfl, rfl⟩))
              go_roundw
              case rel => exact ⟨k + 1, a, true, by omega, by go_num, rfl, rfl, ha, hid (M9.out.sub (by simp [rdE]))⟩
              case measure => simp [intOf] <;> omega
            · have hro : rOk l a false 2 = true := by
                simp only [rOk, Bool.not_false, Bool.true_and, decide_eq_true_eq]
                rw [hn.out]; omega
              have hat : rAt l a false 2 = a + 2 := by unfold rAt; rw [hro, if_pos rfl]; rfl
              have hle : a + 2 ≤ n := by omega
              have hat2 := hid (show a + 2 ≤ l.length by rw [hn.out]; omega)
              have hLf := hid (fun w' L (M : Own w w' (rdE b v l (a + 2) false ++ L)) => show Calls Try.prog 13 #[.pointer (some ⟨b, 0, none⟩)] w' (Ret fun r w'' => r = .int .i64 ((n : Int) - ((a : Int) + 2)) ∧ Own w w'' (rdE b v l (a + 2) false ++ L)) from by
                have := rd_Left hat2.out M
                rw [hn.out, show ((a + 2 : Nat) : Int) = (a : Int) + 2 by omega] at this
                exact this)
              have hAt := hid (fun w' L (M : Own w w' (rdE b v l (a + 2) false ++ L)) => show Calls Try.prog 21 #[.pointer (some ⟨b, 0, none⟩)] w' (Ret fun r w'' => r = .int .i64 ((a : Int) + 2) ∧ w' = w'') from by
                have := rd_At M
                rw [show ((a + 2 : Nat) : Int) = (a : Int) + 2 by omega] at this
                exact this)
              obtain ⟨q, hq⟩ : ∃ q, rBytes l a false 2 = q := ⟨_, rfl⟩
              have hql : q.length = 2 := by rw [← hq, rBytes_length, hro, if_pos rfl]; rfl
              have hqB : Bytes q := by rw [← hq]; exact hBl.out.cut false _
              have hnum : rNum l a false 2 = be q := by unfold rNum; rw [hq]
              have hPt := hid (fun w' V (h : BytesAt w' V l) => show Calls Try.prog 17 #[V, .int .i64 a, .int .i64 ((a : Int) + 2)] w' (Ret fun r w'' => Own w' w'' [.row 5 1 r 2 (ints .u8 q)]) from by
                have := part_calls w' a (a + 2) (by omega) (by omega) h (by rw [hn.out]; omega)
                rwa [rB_part (n := 2) (by exact hro), show rBytes l a false ((2 : Nat) : Int) = q by exact hq, hql, show ((a + 2 : Nat) : Int) = (a : Int) + 2 by omega] at this)
              rw [be_n2 (.inl hql)] at hnum
              have hRD := hid (fun w' L (M : Own w w' (rdE b v l a false ++ L)) => show Calls Try.prog 20 #[.pointer (some ⟨b, 0, none⟩)] w' (Ret fun r w'' => r = .int .i16 (sgn (n2 q 0)) ∧ Own w w'' (rdE b v l (a + 2) false ++ L)) from by
                have := rd_I16 hR.out M
                simp only [hnum, hat, hro, Bool.not_true] at this
                exact this)
              obtain ⟨d2, hd2⟩ : ∃ d, decide (0 + 2 ≤ q.length) = d := ⟨_, rfl⟩
              obtain ⟨d4, hd4⟩ : ∃ d, decide (0 + 4 ≤ q.length) = d := ⟨_, rfl⟩
              have hN2 := hid (fun w' V (h : BytesAt w' V q) => show Calls Try.prog 22 #[V, .int .i64 0] w' (Ret fun r w'' => r = .tuple #[.int .i64 (n2 q 0), .bool d2] ∧ Below w'.heap.size w' w'') from by
                have := N2_calls w' 0 (by omega) hqB h
                rwa [hd2] at this)
              have hN4 := hid (fun w' V (h : BytesAt w' V q) => show Calls Try.prog 23 #[V, .int .i64 0] w' (Ret fun r w'' => r = .tuple #[.int .u32 (n4 q 0), .bool d4] ∧ Below w'.heap.size w' w'') from by
                have := N4_calls w' 0 (by omega) hqB h
                rwa [hd4] at this)
              obtain ⟨g0, g1⟩ := n2_bound hqB 0
              obtain ⟨e0, e1⟩ := n4_bound hqB 0
              generalize n2 q 0 = y2 at *
              have hSg := hid (fun w' => Sign_calls w' g0 g1)
              have hs2 : -32768 ≤ sgn y2 ∧ sgn y2 < 32768 := by unfold sgn; split <;> omega
              obtain ⟨s0, s1⟩ := hs2
              generalize sgn y2 = s2 at *
              generalize n4 q 0 = y4 at *
              clear hro hnum hq hqB hd2 hd4
              replace hql := hid hql
              replace hat := hid hat
              go_upto_region 16 with (go_at_call 17; have M4 := hid ((MH.out.alloc 3 #[.int .i64 1, .int .i64 2, .int .i64 2, .int .i64 4, .int .i64 (z / 5 % 12)]).tail); (refine (hPt.out _ _ (M4.out.bytes (e := 5) (v := .slice A n c) (n := n) (l := l) (by simp [rdE]) hn.out)).mono ?_); rintro _ w5 ⟨_, rfl, M⟩; obtain ⟨Aq, cq, rfl⟩ := M.form (.head _); have M5 := hid (Own.front (L1 := [_]) (X := rdE _ _ _ _ _) (M4.out.lift M)); clear M M4)
              go_wp2_with (first
                | (go_at_call 22; (with_reducible refine (hN2.out _ _ (M5.out.bytes (e := 5) (v := .slice Aq 2 cq) (n := 2) (l := q) (by simp [rdE]) hql.out)).mono ?_); rintro _ w6 ⟨_, rfl, rfl, hb⟩; (have M6 := hid (M5.out.keep hb)); clear hb)
                | (go_at_call 23; (with_reducible refine (hN4.out _ _ (M6.out.bytes (e := 5) (v := .slice Aq 2 cq) (n := 2) (l := q) (by simp [rdE]) hql.out)).mono ?_); rintro _ w7 ⟨_, rfl, rfl, hb⟩; (have M7 := hid (M6.out.keep hb)); clear hb)
                | (go_at_call 20; (with_reducible refine (hRD.out _ _ M7.out).mono ?_); rintro _ w8 ⟨_, rfl, rfl, M⟩; (have M8 := hid M); clear M)
                | (go_at_call 24; (with_reducible refine (hSg.out _).mono ?_); rintro _ _ ⟨_, rfl, rfl, rfl⟩)
                | (go_at_call 14; refine (rd_Bad M8.out).mono ?_; rintro _ _ ⟨_, rfl, rfl, rfl⟩)
                | (go_at_call 13; (with_reducible refine (hLf.out _ _ M8.out).mono ?_); rintro _ w10 ⟨_, rfl, rfl, M⟩; (have M9 := hid M); clear M)
                | (go_at_call 21; (with_reducible refine (hAt.out _ _ M9.out).mono ?_); rintro _ _ ⟨_, rfl, rfl, rfl⟩))
              go_roundw
              case rel => exact ⟨k + 1, a + 2, false, by omega, by go_num, by first | rfl | go_num | (rw [hSN.out]; go_num), rfl, hle, hid (M9.out.sub (by simp [rdE]))⟩
              case measure => simp [intOf] <;> omega
          · have hro : rOk l a true 2 = false := by simp [rOk]
            have hRD := hid (fun w' L (M : Own w w' (rdE b v l a true ++ L)) => show Calls Try.prog 20 #[.pointer (some ⟨b, 0, none⟩)] w' (Ret fun r w'' => r = .int .i16 0 ∧ Own w w'' (rdE b v l a true ++ L)) from by
              have := rd_I16 hR.out M
              simp only [rNum_no hro, rAt_no hro, hro, Bool.not_false] at this
              exact this)
            clear hro
            have hN2 := hid (fun w' V (h : BytesAt w' V []) => show Calls Try.prog 22 #[V, .int .i64 0] w' (Ret fun r w'' => r = .tuple #[.int .i64 0, .bool false] ∧ Below w'.heap.size w' w'') from N2_calls w' 0 (by omega) bytes_nil h)
            have hN4 := hid (fun w' V (h : BytesAt w' V []) => show Calls Try.prog 23 #[V, .int .i64 0] w' (Ret fun r w'' => r = .tuple #[.int .u32 0, .bool false] ∧ Below w'.heap.size w' w'') from N4_calls w' 0 (by omega) bytes_nil h)
            have hSg := hid (fun w' => show Calls Try.prog 24 #[.int .i64 0] w' (Ret fun r w'' => r = .int .i64 0 ∧ w' = w'') from Sign_calls w' (n := 0) (by omega) (by omega))
            go_upto_region 16 with fail
            have M5 := hid ((MH.out.alloc 3 #[.int .i64 1, .int .i64 2, .int .i64 2, .int .i64 4, .int .i64 (z / 5 % 12)]).tail)
            go_wp2_with (first
              | (go_at_call 22; (with_reducible refine (hN2.out _ _ (SliceAt.nil _ _ _)).mono ?_); rintro _ w6 ⟨_, rfl, rfl, hb⟩; (have M6 := hid (M5.out.keep hb)); clear hb)
              | (go_at_call 23; (with_reducible refine (hN4.out _ _ (SliceAt.nil _ _ _)).mono ?_); rintro _ w7 ⟨_, rfl, rfl, hb⟩; (have M7 := hid (M6.out.keep hb)); clear hb)
              | (go_at_call 20; (with_reducible refine (hRD.out _ _ M7.out).mono ?_); rintro _ w8 ⟨_, rfl, rfl, M⟩; (have M8 := hid M); clear M)
              | (go_at_call 24; (with_reducible refine (hSg.out _).mono ?_); rintro _ _ ⟨_, rfl, rfl, rfl⟩)
              | (go_at_call 14; refine (rd_Bad M8.out).mono ?_; rintro _ _ ⟨_, rfl, rfl, rfl⟩)
              | (go_at_call 13; refine (rd_Left hR.out.le M8.out).mono ?_; rintro _ w10 ⟨_, rfl, rfl, M⟩; (have M9 := hid M); clear M)
              | (go_at_call 21; refine (rd_At M9.out).mono ?_; rintro _ _ ⟨_, rfl, rfl, rfl⟩))
            go_roundw
            case rel => exact ⟨k + 1, a, true, by omega, by go_num, rfl, rfl, ha, hid (M9.out.sub (by simp [rdE]))⟩
            case measure => simp [intOf] <;> omega
        · cases bad
          · by_cases hgt : (4 : Int) > (n : Int) - a
            · have hro : rOk l a false 4 = false := by
                simp only [rOk, Bool.not_false, Bool.true_and, decide_eq_false_iff_not]
                rw [hn.out]; omega
              have hRD := hid (fun w' L (M : Own w w' (rdE b v l a false ++ L)) => show Calls Try.prog 25 #[.pointer (some ⟨b, 0, none⟩)] w' (Ret fun r w'' => r = .int .u32 0 ∧ Own w w'' (rdE b v l a true ++ L)) from by
                have := rd_U32 hR.out M
                simp only [rNum_no hro, rAt_no hro, hro, Bool.not_false] at this
                exact this)
              clear hro
              have hN2 := hid (fun w' V (h : BytesAt w' V []) => show Calls Try.prog 22 #[V, .int .i64 0] w' (Ret fun r w'' => r = .tuple #[.int .i64 0, .bool false] ∧ Below w'.heap.size w' w'') from N2_calls w' 0 (by omega) bytes_nil h)
              have hN4 := hid (fun w' V (h : BytesAt w' V []) => show Calls Try.prog 23 #[V, .int .i64 0] w' (Ret fun r w'' => r = .tuple #[.int .u32 0, .bool false] ∧ Below w'.heap.size w' w'') from N4_calls w' 0 (by omega) bytes_nil h)
              go_upto_region 16 with fail
              have M5 := hid ((MH.out.alloc 3 #[.int .i64 1, .int .i64 2, .int .i64 2, .int .i64 4, .int .i64 (z / 5 % 12)]).tail)
              go_wp2_with (first
                | (go_at_call 22; (with_reducible refine (hN2.out _ _ (SliceAt.nil _ _ _)).mono ?_); rintro _ w6 ⟨_, rfl, rfl, hb⟩; (have M6 := hid (M5.out.keep hb)); clear hb)
                | (go_at_call 23; (with_reducible refine (hN4.out _ _ (SliceAt.nil _ _ _)).mono ?_); rintro _ w7 ⟨_, rfl, rfl, hb⟩; (have M7 := hid (M6.out.keep hb)); clear hb)
                | (go_at_call 25; (with_reducible refine (hRD.out _ _ M7.out).mono ?_); rintro _ w8 ⟨_, rfl, rfl, M⟩; (have M8 := hid M); clear M)
                | (go_at_call 14; refine (rd_Bad M8.out).mono ?_; rintro _ _ ⟨_, rfl, rfl, rfl⟩)
                | (go_at_call 13; refine (rd_Left hR.out.le M8.out).mono ?_; rintro _ w10 ⟨_, rfl, rfl, M⟩; (have M9 := hid M); clear M)
                | (go_at_call 21; refine (rd_At M9.out).mono ?_; rintro _ _ ⟨_, rfl, rfl, rfl⟩))
              go_roundw
              case rel => exact ⟨k + 1, a, true, by omega, by go_num, rfl, rfl, ha, hid (M9.out.sub (by simp [rdE]))⟩
              case measure => simp [intOf] <;> omega
            · have hro : rOk l a false 4 = true := by
                simp only [rOk, Bool.not_false, Bool.true_and, decide_eq_true_eq]
                rw [hn.out]; omega
              have hat : rAt l a false 4 = a + 4 := by unfold rAt; rw [hro, if_pos rfl]; rfl
              have hle : a + 4 ≤ n := by omega
              have hat2 := hid (show a + 4 ≤ l.length by rw [hn.out]; omega)
              have hLf := hid (fun w' L (M : Own w w' (rdE b v l (a + 4) false ++ L)) => show Calls Try.prog 13 #[.pointer (some ⟨b, 0, none⟩)] w' (Ret fun r w'' => r = .int .i64 ((n : Int) - ((a : Int) + 4)) ∧ Own w w'' (rdE b v l (a + 4) false ++ L)) from by
                have := rd_Left hat2.out M
                rw [hn.out, show ((a + 4 : Nat) : Int) = (a : Int) + 4 by omega] at this
                exact this)
              have hAt := hid (fun w' L (M : Own w w' (rdE b v l (a + 4) false ++ L)) => show Calls Try.prog 21 #[.pointer (some ⟨b, 0, none⟩)] w' (Ret fun r w'' => r = .int .i64 ((a : Int) + 4) ∧ w' = w'') from by
                have := rd_At M
                rw [show ((a + 4 : Nat) : Int) = (a : Int) + 4 by omega] at this
                exact this)
              obtain ⟨q, hq⟩ : ∃ q, rBytes l a false 4 = q := ⟨_, rfl⟩
              have hql : q.length = 4 := by rw [← hq, rBytes_length, hro, if_pos rfl]; rfl
              have hqB : Bytes q := by rw [← hq]; exact hBl.out.cut false _
              have hnum : rNum l a false 4 = be q := by unfold rNum; rw [hq]
              have hPt := hid (fun w' V (h : BytesAt w' V l) => show Calls Try.prog 17 #[V, .int .i64 a, .int .i64 ((a : Int) + 4)] w' (Ret fun r w'' => Own w' w'' [.row 5 1 r 4 (ints .u8 q)]) from by
                have := part_calls w' a (a + 4) (by omega) (by omega) h (by rw [hn.out]; omega)
                rwa [rB_part (n := 4) (by exact hro), show rBytes l a false ((4 : Nat) : Int) = q by exact hq, hql, show ((a + 4 : Nat) : Int) = (a : Int) + 4 by omega] at this)
              rw [be_n4 (.inl hql)] at hnum
              have hRD := hid (fun w' L (M : Own w w' (rdE b v l a false ++ L)) => show Calls Try.prog 25 #[.pointer (some ⟨b, 0, none⟩)] w' (Ret fun r w'' => r = .int .u32 (n4 q 0) ∧ Own w w'' (rdE b v l (a + 4) false ++ L)) from by
                have := rd_U32 hR.out M
                simp only [hnum, hat, hro, Bool.not_true] at this
                exact this)
              obtain ⟨d2, hd2⟩ : ∃ d, decide (0 + 2 ≤ q.length) = d := ⟨_, rfl⟩
              obtain ⟨d4, hd4⟩ : ∃ d, decide (0 + 4 ≤ q.length) = d := ⟨_, rfl⟩
              have hN2 := hid (fun w' V (h : BytesAt w' V q) => show Calls Try.prog 22 #[V, .int .i64 0] w' (Ret fun r w'' => r = .tuple #[.int .i64 (n2 q 0), .bool d2] ∧ Below w'.heap.size w' w'') from by
                have := N2_calls w' 0 (by omega) hqB h
                rwa [hd2] at this)
              have hN4 := hid (fun w' V (h : BytesAt w' V q) => show Calls Try.prog 23 #[V, .int .i64 0] w' (Ret fun r w'' => r = .tuple #[.int .u32 (n4 q 0), .bool d4] ∧ Below w'.heap.size w' w'') from by
                have := N4_calls w' 0 (by omega) hqB h
                rwa [hd4] at this)
              obtain ⟨g0, g1⟩ := n2_bound hqB 0
              obtain ⟨e0, e1⟩ := n4_bound hqB 0
              generalize n2 q 0 = y2 at *
              generalize n4 q 0 = y4 at *
              clear hro hnum hq hqB hd2 hd4
              replace hql := hid hql
              replace hat := hid hat
              go_upto_region 16 with (go_at_call 17; have M4 := hid ((MH.out.alloc 3 #[.int .i64 1, .int .i64 2, .int .i64 2, .int .i64 4, .int .i64 (z / 5 % 12)]).tail); (refine (hPt.out _ _ (M4.out.bytes (e := 5) (v := .slice A n c) (n := n) (l := l) (by simp [rdE]) hn.out)).mono ?_); rintro _ w5 ⟨_, rfl, M⟩; obtain ⟨Aq, cq, rfl⟩ := M.form (.head _); have M5 := hid (Own.front (L1 := [_]) (X := rdE _ _ _ _ _) (M4.out.lift M)); clear M M4)
              go_wp2_with (first
                | (go_at_call 22; (with_reducible refine (hN2.out _ _ (M5.out.bytes (e := 5) (v := .slice Aq 4 cq) (n := 4) (l := q) (by simp [rdE]) hql.out)).mono ?_); rintro _ w6 ⟨_, rfl, rfl, hb⟩; (have M6 := hid (M5.out.keep hb)); clear hb)
                | (go_at_call 23; (with_reducible refine (hN4.out _ _ (M6.out.bytes (e := 5) (v := .slice Aq 4 cq) (n := 4) (l := q) (by simp [rdE]) hql.out)).mono ?_); rintro _ w7 ⟨_, rfl, rfl, hb⟩; (have M7 := hid (M6.out.keep hb)); clear hb)
                | (go_at_call 25; (with_reducible refine (hRD.out _ _ M7.out).mono ?_); rintro _ w8 ⟨_, rfl, rfl, M⟩; (have M8 := hid M); clear M)
                | (go_at_call 14; refine (rd_Bad M8.out).mono ?_; rintro _ _ ⟨_, rfl, rfl, rfl⟩)
                | (go_at_call 13; (with_reducible refine (hLf.out _ _ M8.out).mono ?_); rintro _ w10 ⟨_, rfl, rfl, M⟩; (have M9 := hid M); clear M)
                | (go_at_call 21; (with_reducible refine (hAt.out _ _ M9.out).mono ?_); rintro _ _ ⟨_, rfl, rfl, rfl⟩))
              go_roundw
              case rel => exact ⟨k + 1, a + 4, false, by omega, by go_num, by first | rfl | go_num | (rw [hSN.out]; go_num), rfl, hle, hid (M9.out.sub (by simp [rdE]))⟩
              case measure => simp [intOf] <;> omega
          · have hro : rOk l a true 4 = false := by simp [rOk]
            have hRD := hid (fun w' L (M : Own w w' (rdE b v l a true ++ L)) => show Calls Try.prog 25 #[.pointer (some ⟨b, 0, none⟩)] w' (Ret fun r w'' => r = .int .u32 0 ∧ Own w w'' (rdE b v l a true ++ L)) from by
              have := rd_U32 hR.out M
              simp only [rNum_no hro, rAt_no hro, hro, Bool.not_false] at this
              exact this)
            clear hro
            have hN2 := hid (fun w' V (h : BytesAt w' V []) => show Calls Try.prog 22 #[V, .int .i64 0] w' (Ret fun r w'' => r = .tuple #[.int .i64 0, .bool false] ∧ Below w'.heap.size w' w'') from N2_calls w' 0 (by omega) bytes_nil h)
            have hN4 := hid (fun w' V (h : BytesAt w' V []) => show Calls Try.prog 23 #[V, .int .i64 0] w' (Ret fun r w'' => r = .tuple #[.int .u32 0, .bool false] ∧ Below w'.heap.size w' w'') from N4_calls w' 0 (by omega) bytes_nil h)
            go_upto_region 16 with fail
            have M5 := hid ((MH.out.alloc 3 #[.int .i64 1, .int .i64 2, .int .i64 2, .int .i64 4, .int .i64 (z / 5 % 12)]).tail)
            go_wp2_with (first
              | (go_at_call 22; (with_reducible refine (hN2.out _ _ (SliceAt.nil _ _ _)).mono ?_); rintro _ w6 ⟨_, rfl, rfl, hb⟩; (have M6 := hid (M5.out.keep hb)); clear hb)
              | (go_at_call 23; (with_reducible refine (hN4.out _ _ (SliceAt.nil _ _ _)).mono ?_); rintro _ w7 ⟨_, rfl, rfl, hb⟩; (have M7 := hid (M6.out.keep hb)); clear hb)
              | (go_at_call 25; (with_reducible refine (hRD.out _ _ M7.out).mono ?_); rintro _ w8 ⟨_, rfl, rfl, M⟩; (have M8 := hid M); clear M)
              | (go_at_call 14; refine (rd_Bad M8.out).mono ?_; rintro _ _ ⟨_, rfl, rfl, rfl⟩)
              | (go_at_call 13; refine (rd_Left hR.out.le M8.out).mono ?_; rintro _ w10 ⟨_, rfl, rfl, M⟩; (have M9 := hid M); clear M)
              | (go_at_call 21; refine (rd_At M9.out).mono ?_; rintro _ _ ⟨_, rfl, rfl, rfl⟩))
            go_roundw
            case rel => exact ⟨k + 1, a, true, by omega, by go_num, rfl, rfl, ha, hid (M9.out.sub (by simp [rdE]))⟩
            case measure => simp [intOf] <;> omega
        · cases bad
          · by_cases hgt : ((z / 5 % 12) : Int) > (n : Int) - a
            · have hro : rOk l a false (z / 5 % 12) = false := by
                simp only [rOk, Bool.not_false, Bool.true_and, decide_eq_false_iff_not]
                rw [hn.out]; omega
              have hRD := hid (fun w' L (M : Own w w' (rdE b v l a false ++ L)) => show Calls Try.prog 26 #[.pointer (some ⟨b, 0, none⟩), .int .i64 (z / 5 % 12)] w' (Ret fun r w'' => Own w w'' (.row 5 1 r 0 (ints .u8 []) :: (rdE b v l a true ++ L))) from by
                have := rd_Take (z / 5 % 12) hR.out.le (by rw [hn.out]; omega) M
                simp only [rB_no hro, rAt_no hro, hro, Bool.not_false] at this
                exact this)
              clear hro
              have hN2 := hid (fun w' V (h : BytesAt w' V []) => show Calls Try.prog 22 #[V, .int .i64 0] w' (Ret fun r w'' => r = .tuple #[.int .i64 0, .bool false] ∧ Below w'.heap.size w' w'') from N2_calls w' 0 (by omega) bytes_nil h)
              have hN4 := hid (fun w' V (h : BytesAt w' V []) => show Calls Try.prog 23 #[V, .int .i64 0] w' (Ret fun r w'' => r = .tuple #[.int .u32 0, .bool false] ∧ Below w'.heap.size w' w'') from N4_calls w' 0 (by omega) bytes_nil h)
              go_upto_region 16 with fail
              have M5 := hid ((MH.out.alloc 3 #[.int .i64 1, .int .i64 2, .int .i64 2, .int .i64 4, .int .i64 (z / 5 % 12)]).tail)
              go_wp2_with (first
                | (go_at_call 22; (with_reducible refine (hN2.out _ _ (SliceAt.nil _ _ _)).mono ?_); rintro _ w6 ⟨_, rfl, rfl, hb⟩; (have M6 := hid (M5.out.keep hb)); clear hb)
                | (go_at_call 23; (with_reducible refine (hN4.out _ _ (SliceAt.nil _ _ _)).mono ?_); rintro _ w7 ⟨_, rfl, rfl, hb⟩; (have M7 := hid (M6.out.keep hb)); clear hb)
                | (go_at_call 26; (with_reducible refine (hRD.out _ _ M7.out).mono ?_); rintro _ w8 ⟨_, rfl, M⟩; obtain ⟨A8, c8, rfl⟩ := M.form (.head _); (have M8 := hid (Own.front (L1 := [_]) (X := rdE _ _ _ _ _) M)); (clear M))
                | (go_at_call 16; (with_reducible refine (same_true _ (xs := []) (M8.out.bytes (e := 5) (v := .slice A8 0 c8) (n := 0) (l := []) (by simp [rdE]) rfl) (SliceAt.nil _ _ _)).mono ?_); rintro _ w9 ⟨_, rfl, rfl, hb⟩; (have M8a := hid (M8.out.keep hb)); clear hb)
                | (go_at_call 14; refine (rd_Bad M8a.out).mono ?_; rintro _ _ ⟨_, rfl, rfl, rfl⟩)
                | (go_at_call 13; refine (rd_Left hR.out.le M8a.out).mono ?_; rintro _ w10 ⟨_, rfl, rfl, M⟩; (have M9 := hid M); clear M)
                | (go_at_call 21; refine (rd_At M9.out).mono ?_; rintro _ _ ⟨_, rfl, rfl, rfl⟩))
              go_roundw
              case rel => exact ⟨k + 1, a, true, by omega, by go_num, rfl, rfl, ha, hid (M9.out.sub (by simp [rdE]))⟩
              case measure => simp [intOf] <;> omega
            · have hro : rOk l a false (z / 5 % 12) = true := by
                simp only [rOk, Bool.not_false, Bool.true_and, decide_eq_true_eq]
                rw [hn.out]; omega
              have hat : rAt l a false (z / 5 % 12) = a + sn := by unfold rAt; rw [hro, if_pos rfl]; rw [hSN.out, Int.toNat_natCast]
              have hle : a + sn ≤ n := by have := hSN.out; omega
              have hat2 := hid (show a + sn ≤ l.length by rw [hn.out]; omega)
              have hLf := hid (fun w' L (M : Own w w' (rdE b v l (a + sn) false ++ L)) => show Calls Try.prog 13 #[.pointer (some ⟨b, 0, none⟩)] w' (Ret fun r w'' => r = .int .i64 ((n : Int) - ((a : Int) + (z / 5 % 12))) ∧ Own w w'' (rdE b v l (a + sn) false ++ L)) from by
                have := rd_Left hat2.out M
                rw [hn.out, show ((a + sn : Nat) : Int) = (a : Int) + (z / 5 % 12) by rw [hSN.out]; omega] at this
                exact this)
              have hAt := hid (fun w' L (M : Own w w' (rdE b v l (a + sn) false ++ L)) => show Calls Try.prog 21 #[.pointer (some ⟨b, 0, none⟩)] w' (Ret fun r w'' => r = .int .i64 ((a : Int) + (z / 5 % 12)) ∧ w' = w'') from by
                have := rd_At M
                rw [show ((a + sn : Nat) : Int) = (a : Int) + (z / 5 % 12) by rw [hSN.out]; omega] at this
                exact this)
              obtain ⟨q, hq⟩ : ∃ q, rBytes l a false (z / 5 % 12) = q := ⟨_, rfl⟩
              have hql : q.length = sn := by rw [← hq, rBytes_length, hro, if_pos rfl]; rw [hSN.out, Int.toNat_natCast]
              have hqB : Bytes q := by rw [← hq]; exact hBl.out.cut false _
              have hnum : rNum l a false (z / 5 % 12) = be q := by unfold rNum; rw [hq]
              have hPt := hid (fun w' V (h : BytesAt w' V l) => show Calls Try.prog 17 #[V, .int .i64 a, .int .i64 ((a : Int) + (z / 5 % 12))] w' (Ret fun r w'' => Own w' w'' [.row 5 1 r sn (ints .u8 q)]) from by
                have := part_calls w' a (a + sn) (by omega) (by omega) h (by rw [hn.out]; omega)
                rwa [rB_part (n := sn) (by rw [← hSN.out]; exact hro), show rBytes l a false ((sn : Nat) : Int) = q by rw [← hSN.out]; exact hq, hql, show ((a + sn : Nat) : Int) = (a : Int) + (z / 5 % 12) by rw [hSN.out]; omega] at this)
              have hRD := hid (fun w' L (M : Own w w' (rdE b v l a false ++ L)) => show Calls Try.prog 26 #[.pointer (some ⟨b, 0, none⟩), .int .i64 (z / 5 % 12)] w' (Ret fun r w'' => Own w w'' (.row 5 1 r sn (ints .u8 q) :: (rdE b v l (a + sn) false ++ L))) from by
                have := rd_Take (z / 5 % 12) hR.out.le (by rw [hn.out]; omega) M
                simp only [hq, hql, hat, hro, Bool.not_true] at this
                exact this)
              obtain ⟨d2, hd2⟩ : ∃ d, decide (0 + 2 ≤ q.length) = d := ⟨_, rfl⟩
              obtain ⟨d4, hd4⟩ : ∃ d, decide (0 + 4 ≤ q.length) = d := ⟨_, rfl⟩
              have hN2 := hid (fun w' V (h : BytesAt w' V q) => show Calls Try.prog 22 #[V, .int .i64 0] w' (Ret fun r w'' => r = .tuple #[.int .i64 (n2 q 0), .bool d2] ∧ Below w'.heap.size w' w'') from by
                have := N2_calls w' 0 (by omega) hqB h
                rwa [hd2] at this)
              have hN4 := hid (fun w' V (h : BytesAt w' V q) => show Calls Try.prog 23 #[V, .int .i64 0] w' (Ret fun r w'' => r = .tuple #[.int .u32 (n4 q 0), .bool d4] ∧ Below w'.heap.size w' w'') from by
                have := N4_calls w' 0 (by omega) hqB h
                rwa [hd4] at this)
              obtain ⟨g0, g1⟩ := n2_bound hqB 0
              obtain ⟨e0, e1⟩ := n4_bound hqB 0
              generalize n2 q 0 = y2 at *
              generalize n4 q 0 = y4 at *
              clear hro hnum hq hqB hd2 hd4
              replace hql := hid hql
              replace hat := hid hat
              go_upto_region 16 with (go_at_call 17; have M4 := hid ((MH.out.alloc 3 #[.int .i64 1, .int .i64 2, .int .i64 2, .int .i64 4, .int .i64 (z / 5 % 12)]).tail); (refine (hPt.out _ _ (M4.out.bytes (e := 5) (v := .slice A n c) (n := n) (l := l) (by simp [rdE]) hn.out)).mono ?_); rintro _ w5 ⟨_, rfl, M⟩; obtain ⟨Aq, cq, rfl⟩ := M.form (.head _); have M5 := hid (Own.front (L1 := [_]) (X := rdE _ _ _ _ _) (M4.out.lift M)); clear M M4)
              go_wp2_with (first
                | (go_at_call 22; (with_reducible refine (hN2.out _ _ (M5.out.bytes (e := 5) (v := .slice Aq sn cq) (n := sn) (l := q) (by simp [rdE]) hql.out)).mono ?_); rintro _ w6 ⟨_, rfl, rfl, hb⟩; (have M6 := hid (M5.out.keep hb)); clear hb)
                | (go_at_call 23; (with_reducible refine (hN4.out _ _ (M6.out.bytes (e := 5) (v := .slice Aq sn cq) (n := sn) (l := q) (by simp [rdE]) hql.out)).mono ?_); rintro _ w7 ⟨_, rfl, rfl, hb⟩; (have M7 := hid (M6.out.keep hb)); clear hb)
                | (go_at_call 26; (with_reducible refine (hRD.out _ _ M7.out).mono ?_); rintro _ w8 ⟨_, rfl, M⟩; obtain ⟨A8, c8, rfl⟩ := M.form (.head _); (have M8 := hid (Own.front (L1 := [_]) (X := rdE _ _ _ _ _) M)); (clear M))
                | (go_at_call 16; (with_reducible refine (same_true _ (xs := q) (M8.out.bytes (e := 5) (v := .slice A8 sn c8) (n := sn) (l := q) (by simp [rdE]) hql.out) (M8.out.bytes (e := 5) (v := .slice Aq sn cq) (n := sn) (l := q) (by simp [rdE]) hql.out)).mono ?_); rintro _ w9 ⟨_, rfl, rfl, hb⟩; (have M8a := hid (M8.out.keep hb)); clear hb)
                | (go_at_call 14; refine (rd_Bad M8a.out).mono ?_; rintro _ _ ⟨_, rfl, rfl, rfl⟩)
                | (go_at_call 13; (with_reducible refine (hLf.out _ _ M8a.out).mono ?_); rintro _ w10 ⟨_, rfl, rfl, M⟩; (have M9 := hid M); clear M)
                | (go_at_call 21; (with_reducible refine (hAt.out _ _ M9.out).mono ?_); rintro _ _ ⟨_, rfl, rfl, rfl⟩))
              go_roundw
              case rel => exact ⟨k + 1, a + sn, false, by omega, by go_num, by first | rfl | go_num | (rw [hSN.out]; go_num), rfl, hle, hid (M9.out.sub (by simp [rdE]))⟩
              case measure => simp [intOf] <;> omega
          · have hro : rOk l a true (z / 5 % 12) = false := by simp [rOk]
            have hRD := hid (fun w' L (M : Own w w' (rdE b v l a true ++ L)) => show Calls Try.prog 26 #[.pointer (some ⟨b, 0, none⟩), .int .i64 (z / 5 % 12)] w' (Ret fun r w'' => Own w w'' (.row 5 1 r 0 (ints .u8 []) :: (rdE b v l a true ++ L))) from by
              have := rd_Take (z / 5 % 12) hR.out.le (by rw [hn.out]; omega) M
              simp only [rB_no hro, rAt_no hro, hro, Bool.not_false] at this
              exact this)
            clear hro
            have hN2 := hid (fun w' V (h : BytesAt w' V []) => show Calls Try.prog 22 #[V, .int .i64 0] w' (Ret fun r w'' => r = .tuple #[.int .i64 0, .bool false] ∧ Below w'.heap.size w' w'') from N2_calls w' 0 (by omega) bytes_nil h)
            have hN4 := hid (fun w' V (h : BytesAt w' V []) => show Calls Try.prog 23 #[V, .int .i64 0] w' (Ret fun r w'' => r = .tuple #[.int .u32 0, .bool false] ∧ Below w'.heap.size w' w'') from N4_calls w' 0 (by omega) bytes_nil h)
            go_upto_region 16 with fail
            have M5 := hid ((MH.out.alloc 3 #[.int .i64 1, .int .i64 2, .int .i64 2, .int .i64 4, .int .i64 (z / 5 % 12)]).tail)
            go_wp2_with (first
              | (go_at_call 22; (with_reducible refine (hN2.out _ _ (SliceAt.nil _ _ _)).mono ?_); rintro _ w6 ⟨_, rfl, rfl, hb⟩; (have M6 := hid (M5.out.keep hb)); clear hb)
              | (go_at_call 23; (with_reducible refine (hN4.out _ _ (SliceAt.nil _ _ _)).mono ?_); rintro _ w7 ⟨_, rfl, rfl, hb⟩; (have M7 := hid (M6.out.keep hb)); clear hb)
              | (go_at_call 26; (with_reducible refine (hRD.out _ _ M7.out).mono ?_); rintro _ w8 ⟨_, rfl, M⟩; obtain ⟨A8, c8, rfl⟩ := M.form (.head _); (have M8 := hid (Own.front (L1 := [_]) (X := rdE _ _ _ _ _) M)); (clear M))
              | (go_at_call 16; (with_reducible refine (same_true _ (xs := []) (M8.out.bytes (e := 5) (v := .slice A8 0 c8) (n := 0) (l := []) (by simp [rdE]) rfl) (SliceAt.nil _ _ _)).mono ?_); rintro _ w9 ⟨_, rfl, rfl, hb⟩; (have M8a := hid (M8.out.keep hb)); clear hb)
              | (go_at_call 14; refine (rd_Bad M8a.out).mono ?_; rintro _ _ ⟨_, rfl, rfl, rfl⟩)
              | (go_at_call 13; refine (rd_Left hR.out.le M8a.out).mono ?_; rintro _ w10 ⟨_, rfl, rfl, M⟩; (have M9 := hid M); clear M)
              | (go_at_call 21; refine (rd_At M9.out).mono ?_; rintro _ _ ⟨_, rfl, rfl, rfl⟩))
            go_roundw
            case rel => exact ⟨k + 1, a, true, by omega, by go_num, rfl, rfl, ha, hid (M9.out.sub (by simp [rdE]))⟩
            case measure => simp [intOf] <;> omega
      · have hk20 : (k : Int) ≥ 20 := by omega
        have hk20' : ¬ (k : Int) < 20 := by omega
        have hk20'' : (20 : Int) ≤ k := by omega
        obtain ⟨a1, rfl, hcell1⟩ := (hrH.out.keep (w' := wr) fun k hk _ => MH.out.below.block k hk).cell (ints_get .u8 zs k (by rw [hm.out]; exact hlt))
        obtain ⟨z0, z1⟩ := hZH.out k
        generalize zs.getD k 0 = z at *
        go_wp2
        go_ret
        exact .mk ⟨rfl, MH.out.below⟩
    · obtain rfl : k = m := by omega
      go_wp2
      go_ret
      exact .mk ⟨rfl, MH.out.below⟩
end Go.Proofs.Ytlfjfdaeoclakaa
