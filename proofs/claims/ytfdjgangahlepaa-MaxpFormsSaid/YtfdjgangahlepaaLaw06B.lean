/- Layer 6: MaxpForms, MaxpParses. -/
import Derived.Test.YtfdjgangahlepaaLaw06A
import Derived.Test.YtfdjgangahlepaaDec06
namespace Go.Proofs.Ytfdjgangahlepaa
open Go Go.RowKit
set_option linter.unusedVariables false
set_option linter.unusedSimpArgs false
set_option maxRecDepth 100000

set_option maxHeartbeats 4000000 in
theorem maxpForms_zero (w : World) {rest : List Int} (hr : rest.length = 13) :
    Calls Try.prog 4 #[.agg (.int .u16 0 :: ints .u16 rest).toArray] w (Ret fun r w' => r = .bool true ∧ Below w.heap.size w w') := by
  have M0 := hid (Own.start w)
  go_enter Try.func4, Try.ntmps4
  go_wp2_with (first
    | ((with_reducible refine gate (N := 1) rfl ?_); refine wpList_box_Own rfl (cs := (.int .u16 0 :: ints .u16 rest).toArray) (t := 25) (by first | (go_simp; done) | (go_simp; rfl)) M0.out ?_; intro m w1 M; (have M1 := hid M); clear M)
    | (go_at_call 7; refine (awake_calls _).mono ?_; rintro _ w2 ⟨_, rfl, rfl, hb⟩; (have M2 := hid (M1.out.keep hb)); clear hb)
    | ((with_reducible refine gate (N := 8) rfl ?_); refine wpList_run rfl (exec_load_agg agg_maxp rfl rfl M2.out (g := m) (t := 25) (cs := (.int .u16 0 :: ints .u16 rest).toArray) (vs := .int .u16 0 :: ints .u16 rest) (by simp) (by simp [← hr, ← ints_length .u16 rest]) (by simp [ints_length, hr])) ?_)
    | (go_at_call 9; refine (maxpBytes_zero _ hr).mono ?_; rintro _ w3 ⟨_, rfl, M⟩; obtain ⟨A, c, rfl⟩ := M.form (.head _); (have M3 := hid (M2.out.lift M)); (have c0 := M3.out.cell (g := m) (t := 25) (cs := (.int .u16 0 :: ints .u16 rest).toArray) (by simp) 0); clear M; simp only [List.getElem?_toArray, List.getElem?_cons_zero] at c0))
  go_ret
  exact .mk ⟨rfl, M3.out.below⟩

set_option maxHeartbeats 8000000 in
theorem maxpForms_calls (w : World) {g : Int} {rest : List Int} (g0 : 0 < g) (g1 : g < 65536) (hr : rest.length = 13) (hR : U16s rest) :
    Calls Try.prog 4 #[.agg (.int .u16 g :: ints .u16 rest).toArray] w (Ret fun r w' => r = .bool true ∧ Below w.heap.size w w') := by
  have M0 := hid (Own.start w)
  have heq := maxp_eq g hr
  have hp := hid (mxOf_mxB g0 g1 hr hR)
  have hq := hid (show mxErr (mxB g rest) = 0 by unfold mxErr; rw [mxOk_mxB g0 g1 hr]; rfl)
  have hB := hid (mxB_bytes g rest)
  have hl := hid (show (mxB g rest).length ≤ 140737488355328 by rw [mxB_length, hr]; omega)
  have hY := hid (fun w => maxpBytes_calls w g0 g1 hr hR)
  have hD := hid (fun w => mxBytes_calls w (g := g) (by omega) g1 hr hR)
  have gne : (g == 0) = false := by simp; omega
  go_enter Try.func4, Try.ntmps4
  generalize mxB g rest = q at *
  go_upto_region 7 with (first
    | ((with_reducible refine gate (N := 1) rfl ?_); refine wpList_box_Own rfl (cs := (.int .u16 g :: ints .u16 rest).toArray) (t := 25) (by first | (go_simp; done) | (go_simp; rfl)) M0.out ?_; intro m w1 M; (have M1 := hid M); clear M)
    | (go_at_call 7; refine (awake_calls _).mono ?_; rintro _ w2 ⟨_, rfl, rfl, hb⟩; (have M2 := hid (M1.out.keep hb)); clear hb)
    | ((with_reducible refine gate (N := 8) rfl ?_); refine wpList_run rfl (exec_load_agg agg_maxp rfl rfl M2.out (g := m) (t := 25) (cs := (.int .u16 g :: ints .u16 rest).toArray) (vs := .int .u16 g :: ints .u16 rest) (by simp) (by simp [← hr, ← ints_length .u16 rest]) (by simp [ints_length, hr])) ?_)
    | (go_at_call 9; refine (hY.out _).mono ?_; rintro _ w3 ⟨_, rfl, M⟩; obtain ⟨A, c, rfl⟩ := M.form (.head _); (have M3 := hid (M2.out.lift M)); (have c0 := M3.out.cell (g := m) (t := 25) (cs := (.int .u16 g :: ints .u16 rest).toArray) (by simp) 0); clear M; simp only [List.getElem?_toArray, List.getElem?_cons_zero] at c0)
    | (go_at_call 10; refine (maxpParse_calls _ (M3.out.slice (e := 5) (.head _)) hB.out hl.out).mono ?_; rw [hp.out, hq.out]; rintro _ w4 ⟨_, rfl, rfl, hb⟩; (have M4 := hid (M3.out.keep hb)); clear hb c0)
    | ((with_reducible refine gate (N := 4) rfl ?_); refine wpList_box_Own rfl (cs := mx0.toArray) (t := 25) (by first | (go_simp; done) | (go_simp; rfl)) M4.out ?_; intro r w5 M; (have M5 := hid M); clear M)
    | ((with_reducible refine gateSt (t := 25) (p := 4) rfl ?_); refine wpList_store_all (n := 14) (L1 := []) (mid := mx0) (vs := .int .u16 g :: ints .u16 rest) rfl rfl (by kernel_rfl) rfl rfl rfl (by simp [ints_length, hr]) rfl (mx_one _ _) M5.out ?_; intro w6 M; (have M6 := hid M); clear M))
  clear M0 M1 M2 M3 M4 M5
  have c1 := M6.out.cell (g := m) (t := 25) (cs := (.int .u16 g :: ints .u16 rest).toArray) (by simp) 0
  simp only [List.getElem?_toArray, List.getElem?_cons_zero] at c1
  have e13 : (((.int .u16 g :: ints .u16 rest).toArray : Array Value).toList.drop 1).take 13 = ints .u16 rest := by simp [← hr, ← ints_length .u16 rest]
  have e14 : (((.int .u16 g :: ints .u16 rest).toArray : Array Value).toList.drop 0).take 14 = .int .u16 g :: ints .u16 rest := by simp [← hr, ← ints_length .u16 rest]
  have l13 : (ints .u16 rest).length = 13 := by rw [ints_length, hr]
  have l14 : (.int .u16 g :: ints .u16 rest : List Value).length = 14 := by simp [ints_length, hr]
  go_wp2_with (first
    | ((with_reducible refine gate (N := 25) rfl ?_); refine wpList_run rfl (exec_load_agg agg_rest rfl rfl M6.out (g := m) (t := 25) (cs := (.int .u16 g :: ints .u16 rest).toArray) (by simp) e13 l13) ?_)
    | (go_at_call 12; (refine (hD.out _).mono ?_); rintro _ w7 ⟨_, rfl, M⟩; obtain ⟨A2, c2, rfl⟩ := M.form (.head _); (have M7 := hid (M6.out.lift M)); clear M)
    | (go_at_call 11; (refine (same_calls _ (M7.out.slice (e := 5) (n := q.length) (xs := ints .u8 q) (by simp)) (M7.out.slice (e := 5) (n := q.length) (xs := ints .u8 q) (.head _))).mono ?_); rw [decide_eq_true (rfl : q = q)]; rintro _ w8 ⟨_, rfl, rfl, hb⟩; (have M8 := hid (M7.out.keep hb)); clear hb)
    | ((with_reducible refine gate (N := 33) rfl ?_); refine wpList_run rfl (exec_load_agg agg_maxp rfl rfl M8.out (g := r) (t := 25) (cs := (.int .u16 g :: ints .u16 rest).toArray) (by simp) e14 l14) ?_)
    | ((with_reducible refine gate (N := 34) rfl ?_); refine wpList_run rfl (exec_load_agg agg_maxp rfl rfl M8.out (g := m) (t := 25) (cs := (.int .u16 g :: ints .u16 rest).toArray) (by simp) e14 l14) ?_))
  go_ret
  exact .mk ⟨rfl, M8.out.below⟩
theorem maxpForms_all (w : World) {g : Int} {rest : List Int} (g0 : 0 ≤ g) (g1 : g < 65536) (hr : rest.length = 13) (hR : U16s rest) :
    Calls Try.prog 4 #[.agg (.int .u16 g :: ints .u16 rest).toArray] w (Ret fun r w' => r = .bool true ∧ Below w.heap.size w w') := by
  by_cases h : g = 0
  · subst h; exact maxpForms_zero w hr
  · exact maxpForms_calls w (by omega) g1 hr hR
end Go.Proofs.Ytfdjgangahlepaa
