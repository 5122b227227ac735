/- Layer 6: MaxpParses. -/
import Derived.Test.YtfdjgangahlepaaLaw06A
import Derived.Test.YtfdjgangahlepaaDec06
namespace Go.Proofs.Ytfdjgangahlepaa
open Go Go.RowKit
set_option linter.unusedVariables false
set_option linter.unusedSimpArgs false
set_option maxRecDepth 100000

set_option maxHeartbeats 8000000 in
theorem maxpParses_calls (w : World) {V : Value} {l0 : List Int} (h0 : BytesAt w V l0) (hB0 : Bytes l0) :
    Calls Try.prog 5 #[V] w (Ret fun r w' => r = .bool true ∧ Below w.heap.size w w') := by
  have M0 := hid (Own.start w)
  have h0H := hid h0
  have hB := hid (hB0.take 40)
  have hln := hid (show (l0.take 40).length ≤ 140737488355328 by rw [List.length_take]; omega)
  have hCut := hid (fun w1 (hb : Below w.heap.size w w1) => cut_calls w1 40 (by omega) (h0.below hb) (by omega))
  obtain ⟨A0, c0', rfl, hc0, hm0, -⟩ := h0
  unfold maxLen at hm0
  clear hB0
  generalize l0.take 40 = l at *
  have hY := hid (fun w (h : mxOk l = true) => maxpBytes_calls w (g := n2 l 4) (rest := u16s l 6 13) (mxOk_bounds hB.out h).1 (mxOk_bounds hB.out h).2.1 (u16s_length _ _ _) (mxOk_bounds hB.out h).2.2.1)
  have hX := hid (fun h : mxOk l = true => mxB_of hB.out h)
  cases hok : mxOk l
  · have heq : ∀ w, (Op.equalIn 10000 25 (.agg mx0.toArray) (.agg #[.int .u16 0, .int .u16 0, .int .u16 0, .int .u16 0, .int .u16 0, .int .u16 0, .int .u16 0, .int .u16 0, .int .u16 0, .int .u16 0, .int .u16 0, .int .u16 0, .int .u16 0, .int .u16 0])).run Try.prog w = .ok true w := fun w => maxp_eq 0 (rest := List.replicate 13 0) (by simp) w
    have hV := hid (show mxOf l = mx0 by unfold mxOf; rw [hok]; rfl)
    have hE := hid (show mxErr l = 2 by unfold mxErr; rw [hok]; rfl)
    have hokH := hid hok
    clear hok
    go_enter Try.func5, Try.ntmps5
    go_wp2_with (first
      | (go_at_call 7; refine (awake_calls _).mono ?_; rintro _ w2 ⟨_, rfl, rfl, hb⟩; (have M2 := hid (M0.out.keep hb)); clear hb)
      | (go_at_call 13; refine (hCut.out _ M2.out.below).mono ?_; rintro _ w3 ⟨_, rfl, M⟩; obtain ⟨A, c, rfl⟩ := M.form (.head _); (have M3 := hid (M2.out.lift M)); clear M)
      | (go_at_call 10; refine (maxpParse_calls _ (M3.out.slice (e := 5) (.head _)) hB.out hln.out).mono ?_; rw [hV.out, hE.out]; rintro _ w4 ⟨_, rfl, rfl, hb⟩; (have M4 := hid (M3.out.keep hb)); clear hb)
      | ((with_reducible refine gate (N := 3) rfl ?_); refine wpList_box_Own rfl (cs := mx0.toArray) (t := 25) (by first | (go_simp; done) | (go_simp; rfl)) M4.out ?_; intro r w5 M; (have M5 := hid M); clear M)
      | ((with_reducible refine gateSt (t := 25) (p := 3) rfl ?_); refine wpList_store_all (n := 14) (L1 := []) (mid := mx0) (vs := mx0) rfl rfl (by kernel_rfl) rfl rfl rfl rfl rfl (mx_one _ _) M5.out ?_; intro w6 M; (have M6 := hid M); clear M)
      | (go_at_call 14; refine (mxRight_calls _ hB.out (M6.out.slice (e := 5) (n := l.length) (xs := ints .u8 l) (by simp))).mono ?_; rw [hokH.out]; rintro _ w7 ⟨_, rfl, rfl, hb⟩; (have M7 := hid (M6.out.keep hb)); clear hb)
      | ((with_reducible refine gate (N := 20) rfl ?_); refine wpList_run rfl (exec_load_agg agg_maxp rfl rfl M7.out (g := r) (t := 25) (cs := mx0.toArray) (vs := mx0) (by simp) rfl rfl) ?_))
    go_ret
    exact .mk ⟨rfl, M7.out.below⟩
  · have hb4 := hid (mxOk_bounds hB.out hok)
    have hY := hid (hY.out · hok)
    have hX := hid (hX.out hok)
    have hV := hid (show mxOf l = .int .u16 (n2 l 4) :: ints .u16 (u16s l 6 13) by unfold mxOf; rw [if_pos hok])
    have hE := hid (show mxErr l = 0 by unfold mxErr; rw [hok]; rfl)
    have hr := u16s_length l 6 13
    have hokH := hid hok
    clear hok
    generalize n2 l 4 = g at *
    generalize u16s l 6 13 = rest at *
    have e14 : (((.int .u16 g :: ints .u16 rest).toArray : Array Value).toList.drop 0).take 14 = .int .u16 g :: ints .u16 rest := by simp [← hr, ← ints_length .u16 rest]
    have l14 : (.int .u16 g :: ints .u16 rest : List Value).length = 14 := by simp [ints_length, hr]
    go_enter Try.func5, Try.ntmps5
    go_wp2_with (first
      | (go_at_call 7; refine (awake_calls _).mono ?_; rintro _ w2 ⟨_, rfl, rfl, hb⟩; (have M2 := hid (M0.out.keep hb)); clear hb)
      | (go_at_call 13; refine (hCut.out _ M2.out.below).mono ?_; rintro _ w3 ⟨_, rfl, M⟩; obtain ⟨A, c, rfl⟩ := M.form (.head _); (have M3 := hid (M2.out.lift M)); clear M)
      | (go_at_call 10; refine (maxpParse_calls _ (M3.out.slice (e := 5) (.head _)) hB.out hln.out).mono ?_; rw [hV.out, hE.out]; rintro _ w4 ⟨_, rfl, rfl, hb⟩; (have M4 := hid (M3.out.keep hb)); clear hb)
      | ((with_reducible refine gate (N := 3) rfl ?_); refine wpList_box_Own rfl (cs := mx0.toArray) (t := 25) (by first | (go_simp; done) | (go_simp; rfl)) M4.out ?_; intro r w5 M; (have M5 := hid M); clear M)
      | ((with_reducible refine gateSt (t := 25) (p := 3) rfl ?_); refine wpList_store_all (n := 14) (L1 := []) (mid := mx0) (vs := .int .u16 g :: ints .u16 rest) rfl rfl (by kernel_rfl) rfl rfl rfl (by simp [ints_length, hr]) rfl (mx_one _ _) M5.out ?_; intro w6 M; (have M6 := hid M); clear M)
      | (go_at_call 14; refine (mxRight_calls _ hB.out (M6.out.slice (e := 5) (n := l.length) (xs := ints .u8 l) (by simp))).mono ?_; rw [hokH.out]; rintro _ w7 ⟨_, rfl, rfl, hb⟩; (have M7 := hid (M6.out.keep hb)); clear hb)
      | ((with_reducible refine gate (N := 27) rfl ?_); refine wpList_run rfl (exec_load_agg agg_maxp rfl rfl M7.out (g := r) (t := 25) (cs := (.int .u16 g :: ints .u16 rest).toArray) (by simp) e14 l14) ?_)
      | (go_at_call 9; refine (hY.out _).mono ?_; rw [hX.out]; rintro _ w8 ⟨_, rfl, M⟩; obtain ⟨A2, c2, rfl⟩ := M.form (.head _); (have M8 := hid (M7.out.lift M)); clear M)
      | (go_at_call 11; (refine (same_calls _ (M8.out.slice (e := 5) (n := l.length) (xs := ints .u8 l) (.head _)) (M8.out.slice (e := 5) (n := l.length) (xs := ints .u8 l) (by simp))).mono ?_); rw [decide_eq_true (rfl : l = l)]; rintro _ w9 ⟨_, rfl, rfl, hb⟩; (have M9 := hid (M8.out.keep hb)); clear hb))
    go_ret
    exact .mk ⟨rfl, M9.out.below⟩
end Go.Proofs.Ytfdjgangahlepaa
