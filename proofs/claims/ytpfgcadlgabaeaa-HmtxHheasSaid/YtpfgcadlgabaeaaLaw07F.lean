/- Layer 7: HmtxHheas. -/
import Derived.Test.YtpfgcadlgabaeaaHheaB
import Derived.Test.YtpfgcadlgabaeaaLaw07A
import Derived.Test.YtpfgcadlgabaeaaOpen
import Derived.Test.YtpfgcadlgabaeaaRowSet
namespace Go.Proofs.Ytpfgcadlgabaeaa
open Go Go.RowKit
set_option linter.unusedVariables false
set_option linter.unusedSimpArgs false
set_option maxRecDepth 100000

theorem le_of_eq' {a b c : Nat} (h : a = b) (h2 : b ≤ c) : a ≤ c := h ▸ h2
theorem hhB_n2 (hs : List Int) : n2 (hhB hs) 0 = 1 := n2_app (p := []) (s := hs.flatMap b2) rfl (by omega) (by omega)
theorem hhB_u16s {hs : List Int} (hl : hs.length = 17) (hU : U16s hs) : u16s (hhB hs) 2 17 = hs := by
  have := u16s_app (p := b2 1) (s := []) (a := 2) (b2_length 1) hs hU
  rwa [List.append_nil, hl] at this
theorem hhOk_hhB {hs : List Int} (hl : hs.length = 17) (hU : U16s hs) (hr : hhR hs = true) : hhOk (hhB hs) = true := by
  unfold hhOk
  rw [hhB_length hl, hhB_n2, hhB_u16s hl hU, hr]; rfl
theorem hhOf_hhB {hs : List Int} (hl : hs.length = 17) (hU : U16s hs) (hr : hhR hs = true) : hhOf (hhB hs) = hs := by
  unfold hhOf; rw [if_pos (hhOk_hhB hl hU hr), hhB_u16s hl hU]
theorem hhOk_of {l : List Int} (hB : Bytes l) (h : hhOk l = true) : hhR (hhOf l) = true ∧ hhB (hhOf l) = l ∧ l.length = 36 := by
  have h' := h
  simp only [hhOk, Bool.and_eq_true, beq_iff_eq] at h
  obtain ⟨h1, h2, h3⟩ := h
  unfold hhOf
  rw [if_pos h']
  refine ⟨h3, ?_, h1⟩
  unfold hhB
  rw [← h2, b2_n2 hB (by omega), flat_u16s hB 2 17 (by omega), List.drop_zero, List.take_of_length_le (l := l.drop 2) (by simp; omega), List.take_append_drop]

/-- A byte that is turned. -/
def xor8 (a b : Int) : Int := bits .xor .u8 a b
theorem xor8_bd (a b : Int) : 0 ≤ xor8 a b ∧ xor8 a b < 256 := wf_u8 (wf_bits _ _ _ _)
theorem Bytes.set {l : List Int} (h : Bytes l) (i : Nat) {x : Int} (h0 : 0 ≤ x) (h1 : x < 256) : Bytes (l.set i x) := by
  intro y hy
  rcases List.mem_or_eq_of_mem_set hy with hy | rfl
  · exact h y hy
  · exact ⟨h0, h1⟩
theorem ints_set (k : IntKind) (l : List Int) (i : Nat) (x : Int) : (ints k l).set i (.int k x) = ints k (l.set i x) := by simp [ints, List.map_set]


set_option maxHeartbeats 8000000 in
theorem hmtxHheas_calls (w : World) {V : Value} {hs l0 : List Int} {at_ turn : Int} (hl : hs.length = 17) (hU : U16s hs) (h1 : BytesAt w V l0) (hB : Bytes l0) (a0 : 0 ≤ at_) (a1 : at_ < 256) (t0 : 0 ≤ turn) (t1 : turn < 256) :
    Calls Try.prog 4 #[.agg (ints .u16 hs).toArray, V, .int .u8 at_, .int .u8 turn] w (Ret fun r w' => r = .bool true ∧ Below w.heap.size w w') := by
  have M0 := hid (Own.start w)
  have hC := hid (fun w1 (h : Below w.heap.size w w1) => cut_calls w1 40 (by omega) (h1.below h) (by omega))
  have hBq := hB.take 40
  have hlq : (l0.take 40).length ≤ 40 := by rw [List.length_take]; omega
  obtain ⟨A0, c0, rfl, -⟩ := h1
  generalize l0.take 40 = q at *
  obtain ⟨nq, hnq⟩ : ∃ nq, q.length = nq := ⟨_, rfl⟩
  rw [hnq] at hlq hC
  replace hnq := hid hnq
  have hcell := hid (fun w' L m (M : Own w w' L) h => hh_cells (m := m) hl M h)
  have b16 := hU.get 16
  have hq : (decide (hs.getD 16 0 > 0) = false ∧ hhR hs = false) ∨ (decide (hs.getD 16 0 > 0) = true ∧ ((hs.getD 0 0 == 0) = false ∧ hhR hs = false ∨ (hs.getD 0 0 == 0) = true ∧ ((hs.getD 15 0 == 0) = false ∧ hhR hs = false ∨ (hs.getD 15 0 == 0) = true ∧ hhR hs = true))) := tri _ _ _
  obtain ⟨x16, e16⟩ : ∃ x, hs.getD 16 0 = x := ⟨_, rfl⟩
  rw [e16] at hcell b16 hq
  generalize hs.getD 0 0 = y at *
  generalize hs.getD 15 0 = z at *
  by_cases hr : hhR hs = true
  · have hY := hid (fun w => hhBytes_calls w hl hU hr)
    have hRf := hid (fun w => refHhea_calls w hl hU)
    rw [e16] at hRf
    have heq := hhea_eq hl
    have hP := hid (fun w V (h : BytesAt w V (hhB hs)) => show Calls Try.prog 13 #[V] w (Ret fun r w' => r = .tuple #[.agg (ints .u16 hs).toArray, .int .i64 0] ∧ Below w.heap.size w w') from by
      have := hhParse_calls w h (hhB_bytes hs) (by rw [hhB_length hl]; omega)
      rwa [hhOf_hhB hl hU hr, show hhErr (hhB hs) = 0 by unfold hhErr; rw [hhOk_hhB hl hU hr]; rfl] at this)
    have hB0 := hhB_bytes hs
    have h36 := hhB_length hl
    simp only [hr, Bool.true_eq_false, and_false, false_or, and_true] at hq
    obtain ⟨q1, q2, q3⟩ := hq
    clear hr
    have hb16 := hid b16
    clear b16 e16
    generalize hhB hs = p at *
    obtain ⟨k, hk, hk32⟩ : ∃ k : Nat, at_.tmod 36 = k ∧ k < 36 := ⟨(at_.tmod 36).toNat, by have := Int.tmod_nonneg 36 a0; omega, by have := Int.tmod_lt_of_pos at_ (show (0 : Int) < 36 by omega); have := Int.tmod_nonneg 36 a0; omega⟩
    have hgk := ints_get .u8 p k (by omega)
    obtain ⟨b, hb, hb0, hb1⟩ : ∃ b, p.getD k 0 = b ∧ 0 ≤ b ∧ b < 256 := ⟨_, rfl, hB0.get k⟩
    rw [hb] at hgk
    obtain ⟨z0, z1⟩ := xor8_bd b turn
    obtain ⟨z', hz⟩ : ∃ z, xor8 b turn = z := ⟨_, rfl⟩
    have hz' := hz
    unfold xor8 at hz'
    rw [hz] at z0 z1
    have hB' := hB0.set k z0 z1
    have hset := hid (ints_set .u8 p k z')
    have hl2 : (p.set k z').length = 36 := by rw [List.length_set, h36]
    replace hgk := hid hgk
    replace h36 := hid h36
    have l16 : (hs.take 16).length = 16 := by simp [hl]
    clear hz hb
    go_enter Try.func4, Try.ntmps4
    go_upto_region 13 with (first
        | ((with_reducible refine gate (N := 4) rfl ?_); refine wpList_box_Own rfl (cs := (ints .u16 hs).toArray) (t := 35) (by first | (go_simp; done) | (go_simp; rfl)) M0.out ?_; intro m w1 M; (have M1 := hid M); clear M)
        | (go_at_call 8; refine (awake_calls _).mono ?_; rintro _ w2 ⟨_, rfl, rfl, hb⟩; (have M2 := hid (M1.out.keep hb)); clear hb)
        | (go_at_call 11; refine (hC.out _ M2.out.below).mono ?_; rintro _ w3 ⟨_, rfl, M⟩; obtain ⟨A3, c3, rfl⟩ := M.form (.head _); (have M3 := hid (M2.out.lift M)); clear M)
        | ((with_reducible refine gate (N := 21) rfl ?_); refine wpList_run rfl (exec_load_agg agg_hhea rfl rfl M3.out (g := m) (t := 35) (cs := (ints .u16 hs).toArray) (vs := ints .u16 hs) (by simp) (whole_agg (by rw [ints_length, hl])) (by rw [ints_length, hl])) ?_)
        | (go_at_call 12; (with_reducible refine (hY.out _).mono ?_); rintro _ w4 ⟨_, rfl, M⟩; obtain ⟨A4, c4, rfl⟩ := M.form (.head _); ((have M4' := M3.out.lift M)); obtain ⟨k16, k0, k15⟩ := hcell.out _ _ m M4' (by simp); (have M4 := hid M4'); (clear M4' M))
        | (go_at_call 13; (with_reducible refine (hP.out _ _ (M4.out.bytes (e := 5) (v := .slice A4 36 c4) (n := 36) (by simp) h36.out)).mono ?_); rintro _ w5 ⟨_, rfl, rfl, hb⟩; (have M5 := hid (M4.out.keep hb)); clear hb)
        | ((with_reducible refine gate (N := 11) rfl ?_); refine wpList_box_Own rfl (cs := (ints .u16 hh0).toArray) (t := 35) (by first | (go_simp; done) | (go_simp; rfl)) M5.out ?_; intro r w6 M; (have M6 := hid M); clear M)
        | ((with_reducible refine gateSt (t := 35) (p := 11) rfl ?_); refine wpList_store_all (n := 17) (L1 := []) (mid := ints .u16 hh0) (vs := ints .u16 hs) rfl rfl (by kernel_rfl) rfl rfl rfl (by rw [ints_length, hl]) rfl (ints_one _ _) M6.out ?_; intro w7 M; (obtain ⟨k16, k0, k15⟩ := hcell.out _ _ m M (by simp)); (have M7 := hid M); clear M)
        | ((with_reducible refine gate (N := 53) rfl ?_); refine wpList_run rfl (exec_load_agg agg_front rfl rfl M7.out (g := m) (t := 35) (cs := (ints .u16 hs).toArray) (vs := ints .u16 (hs.take 16)) (by simp) (by simp [ints, List.map_take]) (by rw [ints_length, l16])) ?_)
        | (go_at_call 15; (with_reducible refine (hRf.out _).mono ?_); rintro _ w8 ⟨_, rfl, M⟩; obtain ⟨A8, c8, rfl⟩ := M.form (.head _); (have M8 := hid (M7.out.lift M)); clear M)
        | (go_at_call 14; (with_reducible refine (same_true _ (M8.out.bytes (e := 5) (v := .slice A4 36 c4) (n := 36) (l := p) (by simp) h36.out) (M8.out.bytes (e := 5) (v := .slice A8 36 c8) (n := 36) (l := p) (by simp) h36.out)).mono ?_); rintro _ w9 ⟨_, rfl, rfl, hb⟩; (have M9 := hid (M8.out.keep hb)); clear hb)
        | ((with_reducible refine gate (N := 64) rfl ?_); refine wpList_run rfl (exec_load_agg agg_hhea rfl rfl M9.out (g := r) (t := 35) (cs := (ints .u16 hs).toArray) (vs := ints .u16 hs) (by simp) (whole_agg (by rw [ints_length, hl])) (by rw [ints_length, hl])) ?_)
        | ((with_reducible refine gate (N := 65) rfl ?_); refine wpList_run rfl (exec_load_agg agg_hhea rfl rfl M9.out (g := m) (t := 35) (cs := (ints .u16 hs).toArray) (vs := ints .u16 hs) (by simp) (whole_agg (by rw [ints_length, hl])) (by rw [ints_length, hl])) ?_)
        | (go_at_call 16; have hC := join1_calls w9 (M9.out.bytes (e := 5) (v := .slice A4 36 c4) (n := 36) (by simp) h36.out) (n := 36) h36.out (by omega); ((with_reducible refine hC.mono ?_); clear hC); rintro _ w10 ⟨_, rfl, M⟩; obtain ⟨A10, c10, rfl⟩ := M.form (.head _); obtain ⟨ad, rfl⟩ := M.row_at (.head _) (by omega); (have M10 := hid (M9.out.lift M)); clear M))
    obtain ⟨A9, c9, he, hc32, hcm, -, -⟩ := M10.out.slice (e := 5) (sz := 1) (n := 36) (v := .slice (some ⟨ad, 0, none⟩) 36 c10) (xs := ints .u8 p) (.head _)
    injection he with he1 he2 he3
    subst he3
    clear he1 he2
    unfold maxLen at hcm
    obtain ⟨MS, kc, kf⟩ := Own.row_set (L1 := []) M10.out k (by omega) (.int .u8 z')
    rw [hgk.out] at kc
    rw [hset.out] at MS
    replace MS := hid MS
    clear M4 M5 M6 M7 M8 M9 M10
    go_upto_region 14 with fail
    revert MS
    generalize w10.setCell ⟨ad, k, none⟩ (.int .u8 z') = w11
    intro M4
    go_wp2_with (go_at_call 16; have hC := join2g_calls (w11.alloc (.cells #[.int .u8 0] 5)) (g := w11.heap.size + 1) (alloc_size _ _) ((M4.out.alloc 5 #[.int .u8 0]).bytes (e := 5) (v := .slice A4 36 c4) (n := 36) (l := p) (by simp [ints]) h36.out) (SliceAt.built (M4.out.alloc 5 #[.int .u8 0]) (.head _) 1 1 rfl (by unfold maxLen; omega)) (q := [0]) (n := 37) (by rw [h36.out]; rfl) (by omega); ((with_reducible refine hC.mono ?_); clear hC); rintro _ w5 ⟨_, rfl, M⟩; obtain ⟨A5, c5, rfl⟩ := M.form (.head _); (have M5 := hid ((M4.out.alloc 5 #[.int .u8 0]).lift M)); (clear M))
    -- the three, one by one
    obtain ⟨W7, hW7⟩ : ∃ W7, W7 = w5.alloc (.cells #[.slice (some ⟨ad, 0, none⟩) 36 c10, .slice A3 nq c3, .slice A5 37 c5] 36) := ⟨_, rfl⟩
    have M7 := M5.out.alloc 36 #[.slice (some ⟨ad, 0, none⟩) 36 c10, .slice A3 nq c3, .slice A5 37 c5]
    have hS := SliceAt.built M7 (.head _) 1 3 rfl (by unfold maxLen; omega)
    have hb7 := hid M7.below
    rw [← hW7] at M7 hS hb7
    rw [← hW7]
    have hA := hid (show AllAt W7 [.slice (some ⟨ad, 0, none⟩) 36 c10, .slice A3 nq c3, .slice A5 37 c5] [p.set k z', q, p ++ [0]] from .cons (M7.bytes (e := 5) (n := 36) (by simp) hl2) (.cons (M7.bytes (e := 5) (n := nq) (by simp) hnq.out) (.cons (M7.bytes (e := 5) (n := 37) (by simp) (show (p ++ [0] : List Int).length = 37 by simp [h36.out])) (.nil _))))
    have hBs := hid (show ∀ l ∈ [p.set k z', q, p ++ [0]], Bytes l ∧ l.length ≤ 41 from by
      intro l hl
      simp only [List.mem_cons, List.not_mem_nil, or_false] at hl
      rcases hl with rfl | rfl | rfl
      · exact ⟨hB', le_of_eq' hl2 (by omega)⟩
      · exact ⟨hBq, le_of_eq' hnq.out (by omega)⟩
      · exact ⟨(hB0.append (Bytes.one (by omega) (by omega))), le_of_eq' (show (p ++ [0] : List Int).length = 37 by simp [h36.out]) (by omega)⟩)
    obtain ⟨A1, c1, he7, -, -, -, hr1⟩ := hS
    injection he7 with e1 e2 e3
    subst e1 e3
    clear e2
    have hr1H := hid hr1
    clear hr1
    replace hW7 := hid hW7
    obtain ⟨vs, hvs⟩ : ∃ vs : List Value, vs = [.slice (some ⟨ad, 0, none⟩) 36 c10, .slice A3 nq c3, .slice A5 37 c5] := ⟨_, rfl⟩
    obtain ⟨ls, hls⟩ : ∃ ls : List (List Int), ls = [p.set k z', q, p ++ [0]] := ⟨_, rfl⟩
    rw [show ([.slice (some ⟨ad, 0, none⟩) 36 c10, .slice A3 nq c3, .slice A5 37 c5] : List Value) = vs from hvs.symm, show ([p.set k z', q, p ++ [0]] : List (List Int)) = ls from hls.symm] at hA
    rw [show (#[.slice (some ⟨ad, 0, none⟩) 36 c10, .slice A3 nq c3, .slice A5 37 c5] : Array Value).toList = vs from hvs.symm] at hr1H
    rw [show ([p.set k z', q, p ++ [0]] : List (List Int)) = ls from hls.symm] at hBs
    have hvl : vs.length = 3 := by rw [hvs]; rfl
    have hll : ls.length = 3 := by rw [hls]; rfl
    replace hvl := hid hvl
    replace hll := hid hll
    clear hvs hls M7
    go_loopw [90] (fun i wr => ∃ k : Nat, k ≤ 3 ∧ i = .int .i64 k ∧ Hid (Own W7 wr [])) (fun i _ => 3 - (intOf i).toNat)
    case atStart => exact ⟨0, Nat.zero_le _, rfl, hid (Own.start W7)⟩
    case round =>
      obtain ⟨k, hk, rfl, MR⟩ := hrel
      by_cases hlt : k < 3
      · have hkv : k < vs.length := by rw [hvl.out]; exact hlt
        have hkl : k < ls.length := by rw [hll.out]; exact hlt
        obtain ⟨a1, he, hcell1⟩ := (hr1H.out.keep (w' := wr) fun k hk _ => MR.out.below.block k hk).cell (List.getElem?_eq_getElem hkv)
        injection he with he
        subst he
        rw [addr_add, Nat.zero_add] at hcell1
        have hb := (hA.out.below MR.out.below).2 k _ _ (List.getElem?_eq_getElem hkv) (List.getElem?_eq_getElem hkl)
        have hb0 := hA.out.2 k _ _ (List.getElem?_eq_getElem hkv) (List.getElem?_eq_getElem hkl)
        obtain ⟨hBl, hl41⟩ := hBs.out ls[k] (List.getElem_mem _)
        generalize vs[k] = u at *
        generalize ls[k] = l at *
        have hbH := hid hb
        obtain ⟨A2, c2, rfl, -⟩ := hb
        replace hb0 := hid hb0
        have hl' := hhOf_length l
        have hU' := hhOf_u16 hBl
        clear hkv hkl
        cases hok : hhOk l
        · have hPs := hid (show Calls Try.prog 13 #[.slice A2 l.length c2] wr (Ret fun r w' => r = .tuple #[.agg (ints .u16 hh0).toArray, .int .i64 2] ∧ Below wr.heap.size wr w') from by
            have := hhParse_calls wr hbH.out hBl (by omega)
            rwa [show hhOf l = hh0 by unfold hhOf; rw [hok]; rfl, show hhErr l = 2 by unfold hhErr; rw [hok]; rfl] at this)
          have heq : ∀ w, (Op.equalIn 10000 35 (.agg (ints .u16 hh0).toArray) (.agg #[.int .u16 0, .int .u16 0, .int .u16 0, .int .u16 0, .int .u16 0, .int .u16 0, .int .u16 0, .int .u16 0, .int .u16 0, .int .u16 0, .int .u16 0, .int .u16 0, .int .u16 0, .int .u16 0, .int .u16 0, .int .u16 0, .int .u16 0])).run Try.prog w = .ok true w := fun w => hhea_eq (hs := hh0) (by simp [hh0]) w
          clear hok hl' hU' hBl
          go_wp2_with (first
            | (go_at_call 13; (with_reducible refine (hPs.out).mono ?_); rintro _ w8 ⟨_, rfl, rfl, hb⟩; (have M8 := hid (MR.out.keep hb)); clear hb)
            | ((with_reducible refine gate (N := 15) rfl ?_); refine wpList_box_Own rfl (cs := (ints .u16 hh0).toArray) (t := 35) (by first | (go_simp; done) | (go_simp; rfl)) M8.out ?_; intro r w9 M; (have M9 := hid M); clear M)
            | ((with_reducible refine gateSt (t := 35) (p := 15) rfl ?_); refine wpList_store_all (n := 17) (L1 := []) (mid := ints .u16 hh0) (vs := ints .u16 hh0) rfl rfl (by kernel_rfl) rfl rfl rfl rfl rfl (ints_one _ _) M9.out ?_; intro w10 M; (have M10 := hid M); clear M)
            | ((with_reducible refine gate (N := 105) rfl ?_); refine wpList_run rfl (exec_load_agg agg_hhea rfl rfl M10.out (g := r) (t := 35) (cs := (ints .u16 hh0).toArray) (vs := ints .u16 hh0) (by simp) rfl rfl) ?_))
          go_roundw
          case rel => exact ⟨k + 1, by omega, by go_num, hid (M10.out.sub (by simp))⟩
          case measure => simp [intOf] <;> omega
        · obtain ⟨hR', hB', h36⟩ := hhOk_of hBl hok
          have hPs := hid (show Calls Try.prog 13 #[.slice A2 l.length c2] wr (Ret fun r w' => r = .tuple #[.agg (ints .u16 (hhOf l)).toArray, .int .i64 0] ∧ Below wr.heap.size wr w') from by
            have := hhParse_calls wr hbH.out hBl (by omega)
            rwa [show hhErr l = 0 by unfold hhErr; rw [hok]; rfl] at this)
          have hYs := hid (fun w => show Calls Try.prog 12 #[.agg (ints .u16 (hhOf l)).toArray] w (Ret fun r w' => Own w w' [.row 5 1 r 36 (ints .u8 l)]) from by
            have := hhBytes_calls w hl' hU' hR'
            rwa [hB'] at this)
          clear hok hU' hR' hB' hBl
          generalize hhOf l = hx at *
          replace h36 := hid h36
          go_wp2_with (first
            | (go_at_call 13; (with_reducible refine (hPs.out).mono ?_); rintro _ w8 ⟨_, rfl, rfl, hb⟩; (have M8 := hid (MR.out.keep hb)); clear hb)
            | ((with_reducible refine gate (N := 15) rfl ?_); refine wpList_box_Own rfl (cs := (ints .u16 hh0).toArray) (t := 35) (by first | (go_simp; done) | (go_simp; rfl)) M8.out ?_; intro r w9 M; (have M9 := hid M); clear M)
            | ((with_reducible refine gateSt (t := 35) (p := 15) rfl ?_); refine wpList_store_all (n := 17) (L1 := []) (mid := ints .u16 hh0) (vs := ints .u16 hx) rfl rfl (by kernel_rfl) rfl rfl rfl (by rw [ints_length, hl']) rfl (ints_one _ _) M9.out ?_; intro w10 M; (have M10 := hid M); clear M)
            | ((with_reducible refine gate (N := 114) rfl ?_); refine wpList_run rfl (exec_load_agg agg_hhea rfl rfl M10.out (g := r) (t := 35) (cs := (ints .u16 hx).toArray) (vs := ints .u16 hx) (by simp) (whole_agg (by rw [ints_length, hl'])) (by rw [ints_length, hl'])) ?_)
            | (go_at_call 12; (with_reducible refine (hYs.out _).mono ?_); rintro _ w11 ⟨_, rfl, M⟩; obtain ⟨A11, c11, rfl⟩ := M.form (.head _); (have M11 := hid (M10.out.lift M)); clear M)
            | (go_at_call 14; (with_reducible refine (same_true _ (M11.out.bytes (e := 5) (v := .slice A11 36 c11) (n := 36) (by simp) h36.out) (hb0.out.below M11.out.below)).mono ?_); rintro _ w12 ⟨_, rfl, rfl, hb⟩; (have M12 := hid (M11.out.keep hb)); clear hb))
          go_roundw
          case rel => exact ⟨k + 1, by omega, by go_num, hid (M12.out.sub (by simp))⟩
          case measure => simp [intOf] <;> omega
      · obtain rfl : k = 3 := by omega
        go_wp2
        go_ret
        exact .mk ⟨rfl, hb7.out.trans (MR.out.below.mono hb7.out.size)⟩
  · have hr : hhR hs = false := by simpa using hr
    have hYn := hid (fun w => hhBytes_no w hl hU hr)
    simp only [hr, true_and, and_true, Bool.false_eq_true, and_false, or_false] at hq
    clear hr
    rcases hq with q1 | ⟨q1, q2 | ⟨q2, q3⟩⟩
    all_goals
      go_enter Try.func4, Try.ntmps4
      go_wp2_with (first
        | ((with_reducible refine gate (N := 4) rfl ?_); refine wpList_box_Own rfl (cs := (ints .u16 hs).toArray) (t := 35) (by first | (go_simp; done) | (go_simp; rfl)) M0.out ?_; intro m w1 M; (have M1 := hid M); clear M)
        | (go_at_call 8; refine (awake_calls _).mono ?_; rintro _ w2 ⟨_, rfl, rfl, hb⟩; (have M2 := hid (M1.out.keep hb)); clear hb)
        | (go_at_call 11; refine (hC.out _ M2.out.below).mono ?_; rintro _ w3 ⟨_, rfl, M⟩; obtain ⟨A3, c3, rfl⟩ := M.form (.head _); (have M3 := hid (M2.out.lift M)); clear M)
        | ((with_reducible refine gate (N := 21) rfl ?_); refine wpList_run rfl (exec_load_agg agg_hhea rfl rfl M3.out (g := m) (t := 35) (cs := (ints .u16 hs).toArray) (vs := ints .u16 hs) (by simp) (whole_agg (by rw [ints_length, hl])) (by rw [ints_length, hl])) ?_)
        | (go_at_call 12; (with_reducible refine (hYn.out _).mono ?_); rintro _ w4 ⟨_, rfl, M⟩; obtain ⟨A4, c4, rfl⟩ := M.form (.head _); ((have M4' := M3.out.lift M)); obtain ⟨k16, k0, k15⟩ := hcell.out _ _ m M4' (by simp); (have M4 := hid M4'); (clear M4' M))
        | (go_at_call 16; have hC := join2g_calls (w4.alloc (.cells #[.int .u8 0] 5)) (g := w4.heap.size + 1) (alloc_size _ _) ((M4.out.alloc 5 #[.int .u8 0]).bytes (e := 5) (v := .slice A4 0 c4) (n := 0) (l := []) (by simp [ints]) rfl) (SliceAt.built (M4.out.alloc 5 #[.int .u8 0]) (.head _) 1 1 rfl (by unfold maxLen; omega)) (q := [0]) (n := 1) rfl (by omega); ((with_reducible refine hC.mono ?_); clear hC); rintro _ w5 ⟨_, rfl, M⟩; obtain ⟨A5, c5, rfl⟩ := M.form (.head _); (have M5 := hid ((M4.out.alloc 5 #[.int .u8 0]).lift M)); (clear M)))
      -- the three, one by one
      obtain ⟨W7, hW7⟩ : ∃ W7, W7 = w5.alloc (.cells #[.slice A3 nq c3, .slice A3 nq c3, .slice A5 1 c5] 36) := ⟨_, rfl⟩
      have M7 := M5.out.alloc 36 #[.slice A3 nq c3, .slice A3 nq c3, .slice A5 1 c5]
      have hS := SliceAt.built M7 (.head _) 1 3 rfl (by unfold maxLen; omega)
      have hb7 := hid M7.below
      rw [← hW7] at M7 hS hb7
      rw [← hW7]
      have hA := hid (show AllAt W7 [.slice A3 nq c3, .slice A3 nq c3, .slice A5 1 c5] [q, q, [] ++ [0]] from .cons (M7.bytes (e := 5) (n := nq) (by simp) hnq.out) (.cons (M7.bytes (e := 5) (n := nq) (by simp) hnq.out) (.cons (M7.bytes (e := 5) (n := 1) (by simp) (show ([] ++ [0] : List Int).length = 1 from rfl)) (.nil _))))
      have hBs := hid (show ∀ l ∈ [q, q, [] ++ [0]], Bytes l ∧ l.length ≤ 41 from by
        intro l hl
        simp only [List.mem_cons, List.not_mem_nil, or_false] at hl
        rcases hl with rfl | rfl | rfl
        · exact ⟨hBq, le_of_eq' hnq.out (by omega)⟩
        · exact ⟨hBq, le_of_eq' hnq.out (by omega)⟩
        · exact ⟨(Bytes.one (by omega) (by omega)), le_of_eq' (show ([] ++ [0] : List Int).length = 1 from rfl) (by omega)⟩)
      obtain ⟨A1, c1, he7, -, -, -, hr1⟩ := hS
      injection he7 with e1 e2 e3
      subst e1 e3
      clear e2
      have hr1H := hid hr1
      clear hr1
      replace hW7 := hid hW7
      obtain ⟨vs, hvs⟩ : ∃ vs : List Value, vs = [.slice A3 nq c3, .slice A3 nq c3, .slice A5 1 c5] := ⟨_, rfl⟩
      obtain ⟨ls, hls⟩ : ∃ ls : List (List Int), ls = [q, q, [] ++ [0]] := ⟨_, rfl⟩
      rw [show ([.slice A3 nq c3, .slice A3 nq c3, .slice A5 1 c5] : List Value) = vs from hvs.symm, show ([q, q, [] ++ [0]] : List (List Int)) = ls from hls.symm] at hA
      rw [show (#[.slice A3 nq c3, .slice A3 nq c3, .slice A5 1 c5] : Array Value).toList = vs from hvs.symm] at hr1H
      rw [show ([q, q, [] ++ [0]] : List (List Int)) = ls from hls.symm] at hBs
      have hvl : vs.length = 3 := by rw [hvs]; rfl
      have hll : ls.length = 3 := by rw [hls]; rfl
      replace hvl := hid hvl
      replace hll := hid hll
      clear hvs hls M7
      go_loopw [90] (fun i wr => ∃ k : Nat, k ≤ 3 ∧ i = .int .i64 k ∧ Hid (Own W7 wr [])) (fun i _ => 3 - (intOf i).toNat)
      case atStart => exact ⟨0, Nat.zero_le _, rfl, hid (Own.start W7)⟩
      case round =>
        obtain ⟨k, hk, rfl, MR⟩ := hrel
        by_cases hlt : k < 3
        · have hkv : k < vs.length := by rw [hvl.out]; exact hlt
          have hkl : k < ls.length := by rw [hll.out]; exact hlt
          obtain ⟨a1, he, hcell1⟩ := (hr1H.out.keep (w' := wr) fun k hk _ => MR.out.below.block k hk).cell (List.getElem?_eq_getElem hkv)
          injection he with he
          subst he
          rw [addr_add, Nat.zero_add] at hcell1
          have hb := (hA.out.below MR.out.below).2 k _ _ (List.getElem?_eq_getElem hkv) (List.getElem?_eq_getElem hkl)
          have hb0 := hA.out.2 k _ _ (List.getElem?_eq_getElem hkv) (List.getElem?_eq_getElem hkl)
          obtain ⟨hBl, hl41⟩ := hBs.out ls[k] (List.getElem_mem _)
          generalize vs[k] = u at *
          generalize ls[k] = l at *
          have hbH := hid hb
          obtain ⟨A2, c2, rfl, -⟩ := hb
          replace hb0 := hid hb0
          have hl' := hhOf_length l
          have hU' := hhOf_u16 hBl
          clear hkv hkl
          cases hok : hhOk l
          · have hPs := hid (show Calls Try.prog 13 #[.slice A2 l.length c2] wr (Ret fun r w' => r = .tuple #[.agg (ints .u16 hh0).toArray, .int .i64 2] ∧ Below wr.heap.size wr w') from by
              have := hhParse_calls wr hbH.out hBl (by omega)
              rwa [show hhOf l = hh0 by unfold hhOf; rw [hok]; rfl, show hhErr l = 2 by unfold hhErr; rw [hok]; rfl] at this)
            have heq : ∀ w, (Op.equalIn 10000 35 (.agg (ints .u16 hh0).toArray) (.agg #[.int .u16 0, .int .u16 0, .int .u16 0, .int .u16 0, .int .u16 0, .int .u16 0, .int .u16 0, .int .u16 0, .int .u16 0, .int .u16 0, .int .u16 0, .int .u16 0, .int .u16 0, .int .u16 0, .int .u16 0, .int .u16 0, .int .u16 0])).run Try.prog w = .ok true w := fun w => hhea_eq (hs := hh0) (by simp [hh0]) w
            clear hok hl' hU' hBl
            go_wp2_with (first
              | (go_at_call 13; (with_reducible refine (hPs.out).mono ?_); rintro _ w8 ⟨_, rfl, rfl, hb⟩; (have M8 := hid (MR.out.keep hb)); clear hb)
              | ((with_reducible refine gate (N := 15) rfl ?_); refine wpList_box_Own rfl (cs := (ints .u16 hh0).toArray) (t := 35) (by first | (go_simp; done) | (go_simp; rfl)) M8.out ?_; intro r w9 M; (have M9 := hid M); clear M)
              | ((with_reducible refine gateSt (t := 35) (p := 15) rfl ?_); refine wpList_store_all (n := 17) (L1 := []) (mid := ints .u16 hh0) (vs := ints .u16 hh0) rfl rfl (by kernel_rfl) rfl rfl rfl rfl rfl (ints_one _ _) M9.out ?_; intro w10 M; (have M10 := hid M); clear M)
              | ((with_reducible refine gate (N := 105) rfl ?_); refine wpList_run rfl (exec_load_agg agg_hhea rfl rfl M10.out (g := r) (t := 35) (cs := (ints .u16 hh0).toArray) (vs := ints .u16 hh0) (by simp) rfl rfl) ?_))
            go_roundw
            case rel => exact ⟨k + 1, by omega, by go_num, hid (M10.out.sub (by simp))⟩
            case measure => simp [intOf] <;> omega
          · obtain ⟨hR', hB', h36⟩ := hhOk_of hBl hok
            have hPs := hid (show Calls Try.prog 13 #[.slice A2 l.length c2] wr (Ret fun r w' => r = .tuple #[.agg (ints .u16 (hhOf l)).toArray, .int .i64 0] ∧ Below wr.heap.size wr w') from by
              have := hhParse_calls wr hbH.out hBl (by omega)
              rwa [show hhErr l = 0 by unfold hhErr; rw [hok]; rfl] at this)
            have hYs := hid (fun w => show Calls Try.prog 12 #[.agg (ints .u16 (hhOf l)).toArray] w (Ret fun r w' => Own w w' [.row 5 1 r 36 (ints .u8 l)]) from by
              have := hhBytes_calls w hl' hU' hR'
              rwa [hB'] at this)
            clear hok hU' hR' hB' hBl
            generalize hhOf l = hx at *
            replace h36 := hid h36
            go_wp2_with (first
              | (go_at_call 13; (with_reducible refine (hPs.out).mono ?_); rintro _ w8 ⟨_, rfl, rfl, hb⟩; (have M8 := hid (MR.out.keep hb)); clear hb)
              | ((with_reducible refine gate (N := 15) rfl ?_); refine wpList_box_Own rfl (cs := (ints .u16 hh0).toArray) (t := 35) (by first | (go_simp; done) | (go_simp; rfl)) M8.out ?_; intro r w9 M; (have M9 := hid M); clear M)
              | ((with_reducible refine gateSt (t := 35) (p := 15) rfl ?_); refine wpList_store_all (n := 17) (L1 := []) (mid := ints .u16 hh0) (vs := ints .u16 hx) rfl rfl (by kernel_rfl) rfl rfl rfl (by rw [ints_length, hl']) rfl (ints_one _ _) M9.out ?_; intro w10 M; (have M10 := hid M); clear M)
              | ((with_reducible refine gate (N := 114) rfl ?_); refine wpList_run rfl (exec_load_agg agg_hhea rfl rfl M10.out (g := r) (t := 35) (cs := (ints .u16 hx).toArray) (vs := ints .u16 hx) (by simp) (whole_agg (by rw [ints_length, hl'])) (by rw [ints_length, hl'])) ?_)
              | (go_at_call 12; (with_reducible refine (hYs.out _).mono ?_); rintro _ w11 ⟨_, rfl, M⟩; obtain ⟨A11, c11, rfl⟩ := M.form (.head _); (have M11 := hid (M10.out.lift M)); clear M)
              | (go_at_call 14; (with_reducible refine (same_true _ (M11.out.bytes (e := 5) (v := .slice A11 36 c11) (n := 36) (by simp) h36.out) (hb0.out.below M11.out.below)).mono ?_); rintro _ w12 ⟨_, rfl, rfl, hb⟩; (have M12 := hid (M11.out.keep hb)); clear hb))
            go_roundw
            case rel => exact ⟨k + 1, by omega, by go_num, hid (M12.out.sub (by simp))⟩
            case measure => simp [intOf] <;> omega
        · obtain rfl : k = 3 := by omega
          go_wp2
          go_ret
          exact .mk ⟨rfl, hb7.out.trans (MR.out.below.mono hb7.out.size)⟩
end Go.Proofs.Ytpfgcadlgabaeaa
