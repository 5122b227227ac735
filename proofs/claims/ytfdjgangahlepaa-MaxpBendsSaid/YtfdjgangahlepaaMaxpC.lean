/- Package maxp: of another number; the document's bytes, and which are right; two alike. -/
import Derived.Test.YtfdjgangahlepaaMaxpB
import Derived.Test.YtfdjgangahlepaaEq
namespace Go.Proofs.Ytfdjgangahlepaa
open Go Go.RowKit
set_option linter.unusedVariables false
set_option linter.unusedSimpArgs false
set_option maxRecDepth 100000

set_option maxHeartbeats 2000000 in
theorem maxpWith_calls (w : World) {g x : Int} {rest : List Int} (hr : rest.length = 13) :
    Calls Try.prog 8 #[.agg (.int .u16 g :: ints .u16 rest).toArray, .int .u16 x] w (Ret fun r w' => r = .agg (.int .u16 x :: ints .u16 rest).toArray ∧ Below w.heap.size w w') := by
  have M0 := hid (Own.start w)
  go_enter Try.func8, Try.ntmps8
  go_wp2_with (first
    | ((with_reducible refine gate (N := 2) rfl ?_); refine wpList_box_Own rfl (cs := (.int .u16 g :: ints .u16 rest).toArray) (t := 25) (by first | (go_simp; done) | (go_simp; rfl)) M0.out ?_; intro m w1 M; (have M1 := hid M); (have c0 := M.cell (.head _) 0); (have f0 := M.free (.head _) 0); clear M; simp only [List.getElem?_toArray, List.getElem?_cons_zero] at c0)
    | ((with_reducible refine gate (N := 4) rfl ?_); refine wpList_box_Own rfl (cs := mx0.toArray) (t := 25) (by first | (go_simp; done) | (go_simp; rfl)) M1.out ?_; intro r w2 M; (have M2 := hid M.swap); (have c1 := M.cell (.tail _ (.head _)) 0); (have f1 := M.free (.tail _ (.head _)) 0); clear M; simp only [List.getElem?_toArray, List.getElem?_cons_zero] at c1; (have M3 := hid (M2.out.set (L1 := []) 0 (.int .u16 x)).swap); simp only [List.setIfInBounds_toArray, List.set_cons_zero] at M3; clear c0 f0 M1 M2)
    | ((with_reducible refine gate (N := 7) rfl ?_); refine wpList_run rfl (exec_load_agg agg_maxp rfl rfl M3.out (g := m) (t := 25) (cs := (.int .u16 x :: ints .u16 rest).toArray) (vs := .int .u16 x :: ints .u16 rest) (by simp) (by simp [← hr, ← ints_length .u16 rest]) (by simp [ints_length, hr])) ?_)
    | ((with_reducible refine gateSt (t := 25) (p := 4) rfl ?_); refine wpList_store_all (n := 14) (L1 := []) (mid := mx0) (vs := .int .u16 x :: ints .u16 rest) rfl rfl (by kernel_rfl) rfl rfl rfl (by simp [ints_length, hr]) rfl (mx_one _ _) M3.out ?_; intro w8 M; (have M8 := hid M); clear M))
  refine bodyPost_ret (v := .agg (.int .u16 x :: ints .u16 rest).toArray) ?_ rfl (.mk ⟨rfl, M8.out.below⟩)
  exact results_agg (p := 4) rfl agg_maxp _ (by rfl) (M8.out.heap (.head _)) (by simp [ints_length, hr])

theorem rest_eq {rest : List Int} (hr : rest.length = 13) (w : World) : (Op.equalIn 10000 23 (.agg (ints .u16 rest).toArray) (.agg (ints .u16 rest).toArray)).run Try.prog w = .ok true w :=
  arr_self (d := 9998) Try.underlying23 Try.underlying22 u16_info hr w
theorem maxp_eq (g : Int) {rest : List Int} (hr : rest.length = 13) (w : World) : (Op.equalIn 10000 25 (.agg (.int .u16 g :: ints .u16 rest).toArray) (.agg (.int .u16 g :: ints .u16 rest).toArray)).run Try.prog w = .ok true w := by
  have h1 : (part 22 (.int .u16 g :: ints .u16 rest).toArray 0).run Try.prog w = .ok (.int .u16 g) w := run_part_one Try.underlying22 u16_info (by simp) w
  have h2 : (part 23 (.int .u16 g :: ints .u16 rest).toArray 1).run Try.prog w = .ok (.agg (ints .u16 rest).toArray) w := run_part_agg agg_rest (by simp [← hr, ← ints_length .u16 rest]) (by simp [ints_length, hr]) w
  have h3 := arr_self (P := Try.prog) (d := 9997) Try.underlying23 Try.underlying22 u16_info hr w
  have h4 := int_self (P := Try.prog) Try.underlying22 9998 g w
  rw [show (10000 : Nat) = 9999 + 1 from rfl, run_equalIn_struct (P := Try.prog) w 9999 25 _ _ (by kernel_rfl) (by kernel_rfl)]
  simp [Program.fieldsOf, Try.underlying25, Op.eqFields, Sem.run_bind, h1, h2, h3, h4]
end Go.Proofs.Ytfdjgangahlepaa
