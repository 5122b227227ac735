/- Layer 5: HeadParses. -/
import Derived.Test.YtigcbficlohbmaaLaw05A
import Derived.Test.YtigcbficlohbmaaHeadF
namespace Go.Proofs.Ytigcbficlohbmaa
open Go Go.RowKit
set_option linter.unusedVariables false
set_option linter.unusedSimpArgs false
set_option maxRecDepth 100000

set_option maxHeartbeats 8000000 in
theorem headParses_calls (w : World) {V : Value} {l0 : List Int} (h0 : BytesAt w V l0) (hB0 : Bytes l0) :
    Calls Try.prog 6 #[V] w (Ret fun r w' => r = .bool true ∧ Below w.heap.size w w') := by
  have M0 := hid (Own.start w)
  have hB := hid (hB0.take 60)
  have hln := hid (show (l0.take 60).length ≤ 140737488355328 by rw [List.length_take]; omega)
  have hCut := hid (fun w1 (hb : Below w.heap.size w w1) => cut_calls w1 60 (by omega) (h0.below hb) (by omega))
  obtain ⟨A0, c0', rfl, hc0, hm0, -⟩ := h0
  unfold maxLen at hm0
  clear hB0
  generalize l0.take 60 = l at *
  cases hok : hdOk l
  · have heq : ∀ w, (Op.equalIn 10000 29 (.agg (hdC hd0).toArray) (.agg #[.int .u32 0, .int .u32 0, .int .u16 0, .int .u16 0, .int .u64 0, .int .u64 0, .int .i16 0, .int .i16 0, .int .i16 0, .int .i16 0, .int .u16 0, .int .u16 0, .int .i16 0, .bool false])).run Try.prog w = .ok true w := fun w => head_same hd0 w
    obtain ⟨hV, hE⟩ := hdR_no hok
    replace hV := hid hV
    replace hE := hid hE
    have hokH := hid hok
    clear hok
    go_enter Try.func6, Try.ntmps6
    go_wp2_with (first
      | (go_at_call 8; refine (awake_calls _).mono ?_; rintro _ w2 ⟨_, rfl, rfl, hb⟩; (have M2 := hid (M0.out.keep hb)); clear hb)
      | (go_at_call 19; refine (hCut.out _ M2.out.below).mono ?_; rintro _ w3 ⟨_, rfl, M⟩; obtain ⟨A, c, rfl⟩ := M.form (.head _); (have M3 := hid (M2.out.lift M)); clear M)
      | (go_at_call 16; refine (headParse_calls _ (M3.out.slice (e := 5) (.head _)) hB.out hln.out).mono ?_; rw [hV.out, hE.out]; rintro _ w4 ⟨_, rfl, rfl, hb⟩; (have M4 := hid (M3.out.keep hb)); clear hb)
      | ((with_reducible refine gate (N := 3) rfl ?_); refine wpList_box_Own rfl (cs := (hdC hd0).toArray) (t := 29) (by first | (go_simp; done) | (go_simp; rfl)) M4.out ?_; intro r w5 M; (have M5 := hid M); clear M)
      | ((with_reducible refine gateSt (t := 29) (p := 3) rfl ?_); refine wpList_store_all (n := 14) (L1 := []) (mid := hdC hd0) (vs := hdC hd0) rfl rfl (by kernel_rfl) rfl rfl rfl rfl rfl (hdC_one _) M5.out ?_; intro w6 M; (have M6 := hid M); clear M)
      | (go_at_call 20; refine (hdRight_calls _ hB.out (M6.out.slice (e := 5) (n := l.length) (xs := ints .u8 l) (by simp))).mono ?_; rw [hokH.out]; rintro _ w7 ⟨_, rfl, rfl, hb⟩; (have M7 := hid (M6.out.keep hb)); clear hb)
      | ((with_reducible refine gate (N := 20) rfl ?_); refine wpList_run rfl (exec_load_agg agg_head rfl rfl M7.out (g := r) (t := 29) (cs := (hdC hd0).toArray) (vs := hdC hd0) (by simp) rfl rfl) ?_))
    go_ret
    exact .mk ⟨rfl, M7.out.below⟩
  · obtain ⟨hV, hE, hr⟩ := hdR_of hok
    have O := hdOf_ok hB.out
    have hX := hid (hdB_hdOf hB.out hok)
    replace hV := hid hV
    replace hE := hid hE
    have hokH := hid hok
    clear hok
    generalize hdOf l = h at *
    have hY := hid (fun w => headBytes_calls w h O hr)
    have hD := hid (fun w => refBytes_calls w h O)
    have hO := hid (fun w => headOwn_calls w h O)
    rw [hX.out] at hY hD
    clear hX O hr
    go_enter Try.func6, Try.ntmps6
    go_wp2_with (first
      | (go_at_call 8; refine (awake_calls _).mono ?_; rintro _ w2 ⟨_, rfl, rfl, hb⟩; (have M2 := hid (M0.out.keep hb)); clear hb)
      | (go_at_call 19; refine (hCut.out _ M2.out.below).mono ?_; rintro _ w3 ⟨_, rfl, M⟩; obtain ⟨A, c, rfl⟩ := M.form (.head _); (have M3 := hid (M2.out.lift M)); clear M)
      | (go_at_call 16; refine (headParse_calls _ (M3.out.slice (e := 5) (.head _)) hB.out hln.out).mono ?_; rw [hV.out, hE.out]; rintro _ w4 ⟨_, rfl, rfl, hb⟩; (have M4 := hid (M3.out.keep hb)); clear hb)
      | ((with_reducible refine gate (N := 3) rfl ?_); refine wpList_box_Own rfl (cs := (hdC hd0).toArray) (t := 29) (by first | (go_simp; done) | (go_simp; rfl)) M4.out ?_; intro r w5 M; (have M5 := hid M); clear M)
      | ((with_reducible refine gateSt (t := 29) (p := 3) rfl ?_); refine wpList_store_all (n := 14) (L1 := []) (mid := hdC hd0) (vs := hdC h) rfl rfl (by kernel_rfl) rfl rfl rfl rfl rfl (hdC_one _) M5.out ?_; intro w6 M; (have M6 := hid M); clear M)
      | (go_at_call 20; refine (hdRight_calls _ hB.out (M6.out.slice (e := 5) (n := l.length) (xs := ints .u8 l) (by simp))).mono ?_; rw [hokH.out]; rintro _ w7 ⟨_, rfl, rfl, hb⟩; (have M7 := hid (M6.out.keep hb)); clear hb)
      | ((with_reducible refine gate (N := 27) rfl ?_); refine wpList_run rfl (exec_load_agg agg_head rfl rfl M7.out (g := r) (t := 29) (cs := (hdC h).toArray) (vs := hdC h) (by simp) rfl rfl) ?_)
      | (go_at_call 11; refine (hY.out _).mono ?_; rintro _ w8 ⟨_, rfl, M⟩; obtain ⟨A2, c2, rfl⟩ := M.form (.head _); (have M8 := hid (M7.out.lift M)); clear M)
      | (go_at_call 12; (refine (same_calls _ (M8.out.slice (e := 5) (n := l.length) (xs := ints .u8 l) (.head _)) (M8.out.slice (e := 5) (n := l.length) (xs := ints .u8 l) (v := .slice A l.length c) (by simp))).mono ?_); rw [decide_eq_true (rfl : l = l)]; rintro _ w9 ⟨_, rfl, rfl, hb⟩; (have M9 := hid (M8.out.keep hb)); clear hb M8)
      | ((with_reducible refine gate (N := 33) rfl ?_); refine wpList_run rfl (exec_load_agg agg_head rfl rfl M9.out (g := r) (t := 29) (cs := (hdC h).toArray) (vs := hdC h) (by simp) rfl rfl) ?_)
      | (go_at_call 18; refine (hO.out _).mono ?_; rintro _ w10 ⟨_, rfl, rfl, hb⟩; (have M10 := hid (M9.out.keep hb)); clear hb)
      | (go_at_call 17; refine (hD.out _).mono ?_; rintro _ w11 ⟨_, rfl, M⟩; obtain ⟨A3, c3, rfl⟩ := M.form (.head _); (have M11 := hid (M10.out.lift M)); clear M)
      | (go_at_call 12; (refine (same_calls _ (M11.out.slice (e := 5) (n := l.length) (xs := ints .u8 l) (.head _)) (M11.out.slice (e := 5) (n := l.length) (xs := ints .u8 l) (v := .slice A l.length c) (by simp))).mono ?_); rw [decide_eq_true (rfl : l = l)]; rintro _ w12 ⟨_, rfl, rfl, hb⟩; (have M12 := hid (M11.out.keep hb)); clear hb))
    go_ret
    exact .mk ⟨rfl, M12.out.below⟩
end Go.Proofs.Ytigcbficlohbmaa
