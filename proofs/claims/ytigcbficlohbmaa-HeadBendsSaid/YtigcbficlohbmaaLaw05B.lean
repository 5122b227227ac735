/- Layer 5: HeadForms, HeadParses. -/
import Derived.Test.YtigcbficlohbmaaLaw05A
import Derived.Test.YtigcbficlohbmaaHeadF
namespace Go.Proofs.Ytigcbficlohbmaa
open Go Go.RowKit
set_option linter.unusedVariables false
set_option linter.unusedSimpArgs false
set_option maxRecDepth 100000

theorem right_yes {h : Hd} (hr : h.right = true) : ¬ h.un < 16 ∧ ¬ h.un > 16384 := by
  unfold Hd.right at hr
  simp only [Bool.and_eq_true, decide_eq_true_eq] at hr
  omega
theorem right_no {h : Hd} (hr : h.right = false) : h.un < 16 ∨ (¬ h.un < 16 ∧ h.un > 16384) := by
  unfold Hd.right at hr
  simp only [Bool.and_eq_false_iff, decide_eq_false_iff_not] at hr
  omega
theorem hdB_bytes (h : Hd) : Bytes (hdB h) := by
  rw [hdB_flat]
  have nil : Bytes [] := fun x hx => by cases hx
  have app : ∀ {p q : List Int}, Bytes p → Bytes q → Bytes (p ++ q) := fun hp hq x hx => (List.mem_append.1 hx).elim (hp x) (hq x)
  refine app (bytes_b4 _) (app (bytes_b4 _) (app (bytes_b4 _) (app (bytes_b4 _) (app (bytes_b2 _) (app (bytes_b2 _) (app (bytes_b4 _) (app (bytes_b4 _) (app (bytes_b4 _) (app (bytes_b4 _) (app (bytes_b2 _) (app (bytes_b2 _) (app (bytes_b2 _) (app (bytes_b2 _) (app (bytes_b2 _) (app (bytes_b2 _) (app (bytes_b2 _) (app (bytes_b2 _) (app (bytes_b2 _) nil))))))))))))))))))

set_option maxHeartbeats 4000000 in
theorem headForms_no (w : World) (h : Hd) (hr : h.right = false) :
    Calls Try.prog 5 #[.agg (hdC h).toArray] w (Ret fun r w' => r = .bool true ∧ Below w.heap.size w w') := by
  have M0 := hid (Own.start w)
  have hY := hid (fun w => headBytes_no w h hr)
  have hR := hid (fun w => headRight_calls w h)
  rw [hr] at hR
  rcases right_no hr with hg | ⟨hg, hg'⟩
  all_goals
    clear hr
    go_enter Try.func5, Try.ntmps5
    go_wp2_with (first
      | ((with_reducible refine gate (N := 1) rfl ?_); refine wpList_box_Own rfl (cs := (hdC h).toArray) (t := 29) (by first | (go_simp; done) | (go_simp; rfl)) M0.out ?_; intro m w1 M; (have M1 := hid M); clear M)
      | (go_at_call 8; refine (awake_calls _).mono ?_; rintro _ w2 ⟨_, rfl, rfl, hb⟩; (have M2 := hid (M1.out.keep hb)); clear hb)
      | ((with_reducible refine gate (N := 8) rfl ?_); refine wpList_run rfl (exec_load_agg agg_head rfl rfl M2.out (g := m) (t := 29) (cs := (hdC h).toArray) (vs := hdC h) (.head _) rfl rfl) ?_)
      | (go_at_call 11; refine (hY.out _).mono ?_; rintro _ w3 ⟨_, rfl, M⟩; obtain ⟨A, c, rfl⟩ := M.form (.head _); (have M3 := hid (M2.out.lift M)); (obtain ⟨⟨-, -, -, k3⟩, -⟩ := hd_cells M3.out (m := m) (h := h) (by simp)); clear M)
      | ((with_reducible refine gate (N := 22) rfl ?_); refine wpList_run rfl (exec_load_agg agg_head rfl rfl M3.out (g := m) (t := 29) (cs := (hdC h).toArray) (vs := hdC h) (by simp) rfl rfl) ?_)
      | (go_at_call 15; refine (hR.out _).mono ?_; rintro _ w4 ⟨_, rfl, rfl, hb⟩; (have M4 := hid (M3.out.keep hb)); clear hb))
    go_ret
    exact .mk ⟨rfl, M4.out.below⟩

set_option maxHeartbeats 8000000 in
theorem headForms_yes (w : World) (h : Hd) (O : h.ok) (hr : h.right = true) :
    Calls Try.prog 5 #[.agg (hdC h).toArray] w (Ret fun r w' => r = .bool true ∧ Below w.heap.size w w') := by
  have M0 := hid (Own.start w)
  have heq := head_same h
  obtain ⟨hp, hq⟩ := hdR_hdB O hr
  replace hp := hid hp
  replace hq := hid hq
  have hB := hid (hdB_bytes h)
  have hl := hid (show (hdB h).length ≤ 140737488355328 by rw [hdB_length]; omega)
  have hY := hid (fun w => headBytes_calls w h O hr)
  have hD := hid (fun w => refBytes_calls w h O)
  have hO := hid (fun w => headOwn_calls w h O)
  have hR := hid (fun w => headRight_calls w h)
  rw [hr] at hR
  obtain ⟨g1, g2⟩ := right_yes hr
  clear hr O
  generalize hdB h = q at *
  go_enter Try.func5, Try.ntmps5
  go_wp2_with (first
    | ((with_reducible refine gate (N := 1) rfl ?_); refine wpList_box_Own rfl (cs := (hdC h).toArray) (t := 29) (by first | (go_simp; done) | (go_simp; rfl)) M0.out ?_; intro m w1 M; (have M1 := hid M); clear M)
    | (go_at_call 8; refine (awake_calls _).mono ?_; rintro _ w2 ⟨_, rfl, rfl, hb⟩; (have M2 := hid (M1.out.keep hb)); clear hb)
    | ((with_reducible refine gate (N := 8) rfl ?_); refine wpList_run rfl (exec_load_agg agg_head rfl rfl M2.out (g := m) (t := 29) (cs := (hdC h).toArray) (vs := hdC h) (.head _) rfl rfl) ?_)
    | (go_at_call 11; refine (hY.out _).mono ?_; rintro _ w3 ⟨_, rfl, M⟩; obtain ⟨A, c, rfl⟩ := M.form (.head _); (have M3 := hid (M2.out.lift M)); (obtain ⟨⟨-, -, -, k3⟩, -⟩ := hd_cells M3.out (m := m) (h := h) (by simp)); clear M)
    | (go_at_call 16; refine (headParse_calls _ (M3.out.slice (e := 5) (.head _)) hB.out hl.out).mono ?_; rw [hp.out, hq.out]; rintro _ w4 ⟨_, rfl, rfl, hb⟩; (have M4 := hid (M3.out.keep hb)); clear hb k3)
    | ((with_reducible refine gate (N := 4) rfl ?_); refine wpList_box_Own rfl (cs := (hdC hd0).toArray) (t := 29) (by first | (go_simp; done) | (go_simp; rfl)) M4.out ?_; intro r w5 M; (have M5 := hid M); clear M)
    | ((with_reducible refine gateSt (t := 29) (p := 4) rfl ?_); refine wpList_store_all (n := 14) (L1 := []) (mid := hdC hd0) (vs := hdC h) rfl rfl (by kernel_rfl) rfl rfl rfl rfl rfl (hdC_one _) M5.out ?_; intro w6 M; (have M6 := hid M); clear M)
    | ((with_reducible refine gate (N := 31) rfl ?_); refine wpList_run rfl (exec_load_agg agg_head rfl rfl M6.out (g := m) (t := 29) (cs := (hdC h).toArray) (vs := hdC h) (by simp) rfl rfl) ?_)
    | (go_at_call 15; refine (hR.out _).mono ?_; rintro _ w7 ⟨_, rfl, rfl, hb⟩; (have M7 := hid (M6.out.keep hb)); clear hb)
    | ((with_reducible refine gate (N := 35) rfl ?_); refine wpList_run rfl (exec_load_agg agg_head rfl rfl M7.out (g := m) (t := 29) (cs := (hdC h).toArray) (vs := hdC h) (by simp) rfl rfl) ?_)
    | (go_at_call 18; refine (hO.out _).mono ?_; rintro _ w8 ⟨_, rfl, rfl, hb⟩; (have M8 := hid (M7.out.keep hb)); clear hb)
    | (go_at_call 17; refine (hD.out _).mono ?_; rintro _ w9 ⟨_, rfl, M⟩; obtain ⟨A2, c2, rfl⟩ := M.form (.head _); (have M9 := hid (M8.out.lift M)); clear M)
    | (go_at_call 12; (refine (same_calls _ (M9.out.slice (e := 5) (n := q.length) (xs := ints .u8 q) (v := .slice A q.length c) (by simp)) (M9.out.slice (e := 5) (n := q.length) (xs := ints .u8 q) (.head _))).mono ?_); rw [decide_eq_true (rfl : q = q)]; rintro _ w10 ⟨_, rfl, rfl, hb⟩; (have M10 := hid (M9.out.keep hb)); clear hb)
    | ((with_reducible refine gate (N := 45) rfl ?_); refine wpList_run rfl (exec_load_agg agg_head rfl rfl M10.out (g := r) (t := 29) (cs := (hdC h).toArray) (vs := hdC h) (by simp) rfl rfl) ?_)
    | ((with_reducible refine gate (N := 46) rfl ?_); refine wpList_run rfl (exec_load_agg agg_head rfl rfl M10.out (g := m) (t := 29) (cs := (hdC h).toArray) (vs := hdC h) (by simp) rfl rfl) ?_))
  go_ret
  exact .mk ⟨rfl, M10.out.below⟩
theorem headForms_calls (w : World) (h : Hd) (O : h.ok) :
    Calls Try.prog 5 #[.agg (hdC h).toArray] w (Ret fun r w' => r = .bool true ∧ Below w.heap.size w w') := by
  cases hr : h.right
  · exact headForms_no w h hr
  · exact headForms_yes w h O hr
end Go.Proofs.Ytigcbficlohbmaa
