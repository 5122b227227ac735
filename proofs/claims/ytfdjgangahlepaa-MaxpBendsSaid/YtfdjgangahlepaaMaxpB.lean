/- Package maxp: it is read. -/
import Derived.Test.YtfdjgangahlepaaMaxpA
import Derived.Test.YtfdjgangahlepaaNums
namespace Go.Proofs.Ytfdjgangahlepaa
open Go Go.RowKit
set_option linter.unusedVariables false
set_option linter.unusedSimpArgs false
set_option maxRecDepth 100000

def mx0 : List Value := .int .u16 0 :: ints .u16 (List.replicate 13 0)
theorem mx_one (g : Int) (rest : List Int) : ∀ v ∈ (Value.int .u16 g :: ints .u16 rest), v.oneCell' = true := by
  intro v hv
  rcases List.mem_cons.1 hv with rfl | hv
  · rfl
  · exact ints_one _ _ v hv
theorem set_ints {k : IntKind} (v : Value) (zs : List Int) (i : Nat) (x : Int) (h : i < zs.length) : ((v :: ints k zs).toArray.setIfInBounds (1 + i) (.int k x)) = (v :: ints k (zs.set i x)).toArray := by
  rw [Nat.add_comm]
  simp [ints, List.map_set]
theorem set_ints' {k : IntKind} (v : Value) (zs : List Int) (i : Nat) (h : i < zs.length) : (v :: ints k zs).toArray[1 + i]? = some (.int k (zs.getD i 0)) := by
  rw [Nat.add_comm]
  simpa using ints_get k zs i h


/-- What is told of bytes: the numbers. -/
def mxOk (l : List Int) : Bool := l.length == 32 && (n4 l 0 == 65536 && !(n2 l 4 == 0))
def mxOf (l : List Int) : List Value := if mxOk l = true then .int .u16 (n2 l 4) :: ints .u16 (u16s l 6 13) else mx0
def mxErr (l : List Int) : Int := if mxOk l = true then 0 else 2
theorem mx_step {l : List Int} {k : Nat} {rest : List Int} {x : Int} (hk : k < 13) (h : rest = u16s l 6 k ++ List.replicate (13 - k) 0) (hx : x = n2 l (6 + 2 * k)) : rest.set k x = u16s l 6 (k + 1) ++ List.replicate (13 - (k + 1)) 0 := by
  have e : u16s l 6 (k + 1) = u16s l 6 k ++ [n2 l (6 + 2 * k)] := by simp [u16s, List.range_succ]
  rw [h, e, hx, show 13 - k = (13 - (k + 1)) + 1 by omega, List.replicate_succ, List.set_append_right _ _ (by rw [u16s_length]; exact Nat.le_refl _)]
  rw [u16s_length, Nat.sub_self, List.set_cons_zero, List.append_assoc]; rfl

set_option maxHeartbeats 4000000 in
theorem maxpParse_calls (w : World) {V : Value} {l : List Int} (h1 : BytesAt w V l) (hB : Bytes l) (hn : l.length ≤ 140737488355328) :
    Calls Try.prog 10 #[V] w (Ret fun r w' => r = .tuple #[.agg (mxOf l).toArray, .int .i64 (mxErr l)] ∧ Below w.heap.size w w') := by
  have M0 := hid (Own.start w)
  have h1H := hid h1
  obtain ⟨A, C, rfl, hc1, hm1, -⟩ := h1
  unfold maxLen at hm1
  have hBH := hid hB
  have hZ := hid (fun (h : l.length = 32) => read4 (l := l) (a := 0) (by omega))
  have hY := hid (fun (a : Nat) (h : l.length = 32) (h2 : a + 2 ≤ 32) => read2 (l := l) (a := a) (by omega))
  clear hB
  go_enter Try.func10, Try.ntmps10
  go_wp2_with (first
    | ((with_reducible refine gate (N := 2) rfl ?_); refine wpList_box_Own rfl (cs := mx0.toArray) (t := 25) (by first | (go_simp; done) | (go_simp; rfl)) M0.out ?_; intro r w1 M; (have M1 := hid M); clear M)
    | (go_at_call 18; refine (new_calls _ (h1H.out.below M1.out.below) hn).mono ?_; rintro _ w2 ⟨_, rfl, b, v, rfl, M⟩; (have M2 := hid (M1.out.lift M (by simp [rdE, Ent.mine]))); clear M)
    | (go_at_call 19; refine (rd_U32 ⟨Nat.zero_le _, hBH.out⟩ M2.out).mono ?_; rintro _ w3 ⟨_, rfl, rfl, M⟩; (have M3 := hid M); (have R3 := hid (RdOk.next ⟨Nat.zero_le _, hBH.out⟩ false 4 : RdOk l (rAt l 0 false 4))); clear M; generalize rAt l 0 false 4 = a3 at *; generalize (!rOk l 0 false 4) = b3 at *; generalize rNum l 0 false 4 = u at *)
    | (go_at_call 20; refine (rd_U16 R3.out M3.out).mono ?_; rintro _ w4 ⟨_, rfl, rfl, M⟩; (have M4 := hid M); (have R4 := hid (R3.out.next b3 2)); (have hG := hid (fun h : l.length = 32 => show u = n4 l 0 ∧ rNum l a3 b3 2 = n2 l 4 ∧ rAt l a3 b3 2 = 6 ∧ (!rOk l a3 b3 2) = false by obtain ⟨e1, e2, e3⟩ := hZ.out h; subst e1 e2 e3; exact ⟨rfl, hY.out 4 h (by omega)⟩)); clear M; generalize rAt l a3 b3 2 = a4 at *; generalize (!rOk l a3 b3 2) = b4 at *; generalize rNum l a3 b3 2 = g at *)
    | ((with_reducible refine gate (N := 6) rfl ?_); refine wpList_box_Own rfl (cs := mx0.toArray) (t := 25) (by first | (go_simp; done) | (go_simp; rfl)) M4.out ?_; intro m w5 M; (have M5 := hid M); clear M)
    | ((with_reducible refine gateSt (t := 25) (p := 6) rfl ?_); refine wpList_store_all (n := 14) (L1 := []) (mid := mx0) (vs := .int .u16 g :: ints .u16 (List.replicate 13 0)) rfl rfl (by kernel_rfl) rfl rfl rfl rfl rfl (mx_one _ _) M5.out ?_; intro w6 M; (have M6 := hid M); clear M))
  clear M0 M1 M2 M3 M4 M5 R3 hZ
  go_loopw [15] (fun i wr => ∃ (k a : Nat) (bad : Bool) (rest : List Int), k ≤ 13 ∧ i = .int .i64 k ∧ rest.length = 13 ∧ Hid (RdOk l a) ∧ Hid (l.length = 32 → a = 6 + 2 * k ∧ bad = false ∧ rest = u16s l 6 k ++ List.replicate (13 - k) 0) ∧ Hid (Own w wr ([.blk m 25 (.int .u16 g :: ints .u16 rest).toArray] ++ (rdE b v l a bad ++ [.blk r 25 mx0.toArray])))) (fun i _ => 13 - (intOf i).toNat)
  case atStart => exact ⟨0, a4, b4, _, by omega, rfl, by simp, R4, hid (fun h => by obtain ⟨_, _, e1, e2⟩ := hG.out h; exact ⟨e1, e2, rfl⟩), M6⟩
  case round =>
    obtain ⟨k, a, bad, rest, hk, rfl, hr, R, hv, MH⟩ := hrel
    by_cases hlt : k < 13
    · go_wp2_with fail
      refine (rd_U16 R.out MH.out.front).mono ?_; rintro _ w5 ⟨_, rfl, rfl, M⟩; have MX := hid (Own.front (L1 := rdE _ _ _ _ _) (X := [_]) M); have R5 := hid (R.out.next bad 2)
      have hv5 := hid (fun h : l.length = 32 => show rAt l a bad 2 = 6 + 2 * (k + 1) ∧ (!rOk l a bad 2) = false ∧ rNum l a bad 2 = n2 l (6 + 2 * k) by
        obtain ⟨e1, e2, -⟩ := hv.out h
        subst e1 e2
        obtain ⟨f1, f2, f3⟩ := hY.out (6 + 2 * k) h (by omega)
        exact ⟨by rw [f2]; omega, f3, f1⟩)
      clear M
      generalize rAt l a bad 2 = a5 at *
      generalize (!rOk l a bad 2) = b5 at *
      generalize rNum l a bad 2 = x at *
      have cx := MX.out.cell (.head _) (1 + k)
      have fx := MX.out.free (.head _) (1 + k)
      rw [set_ints' _ _ _ (by omega)] at cx
      go_wp2_with fail
      go_roundw
      case rel =>
        have MY := MX.out.set (L1 := []) (1 + k) (.int .u16 x)
        rw [set_ints _ _ _ _ (by omega)] at MY
        exact ⟨k + 1, a5, b5, rest.set k x, by omega, by go_num, by simp [hr], R5, hid (fun h => by
          obtain ⟨e1, e2, e3⟩ := hv5.out h
          exact ⟨e1, e2, mx_step hlt (hv.out h).2.2 e3⟩), hid MY⟩
      case measure => simp [intOf]; omega
    · obtain rfl : k = 13 := by omega
      have c0 := MH.out.cell (.head _) 0
      simp only [List.getElem?_toArray, List.getElem?_cons_zero] at c0
      have ML := hid ((Own.front (L1 := [_]) (X := rdE _ _ _ _ _) MH.out).sub (List.sublist_append_right _ _))
      have hEnd : (mxOk l = true ∧ ((l.length : Int) != 32) = false ∧ (u != 65536) = false ∧ (g == 0) = false) ∨ (mxOk l = false ∧ (((l.length : Int) != 32) = true ∨ (((l.length : Int) != 32) = false ∧ ((u != 65536) = true ∨ ((u != 65536) = false ∧ (g == 0) = true))))) := by
        by_cases hl : l.length = 32
        · obtain ⟨e1, e2, -⟩ := hG.out hl
          unfold mxOk
          rw [← e1, ← e2]
          simp only [hl]
          by_cases hu : u = 65536 <;> by_cases hg : g = 0 <;> simp [hu, hg]
        · right
          unfold mxOk
          refine ⟨by simp [hl], .inl (by rw [bne_iff_ne]; omega)⟩
      have M7 := hid ML.out.swap
      rcases hEnd with ⟨hm, q1, q2, q3⟩ | ⟨hm, hq⟩
      · go_wp2_with (first
          | ((with_reducible refine gate (N := 37) rfl ?_); refine wpList_run rfl (exec_load_agg agg_maxp rfl rfl M7.out (g := m) (t := 25) (cs := (.int .u16 g :: ints .u16 rest).toArray) (vs := .int .u16 g :: ints .u16 rest) (by simp) (by simp [← hr, ← ints_length .u16 rest]) (by simp [ints_length, hr])) ?_)
          | ((with_reducible refine gateSt (t := 25) (p := 2) rfl ?_); refine wpList_store_all (n := 14) (L1 := []) (mid := mx0) (vs := .int .u16 g :: ints .u16 rest) rfl rfl (by kernel_rfl) rfl rfl rfl (by simp [ints_length, hr]) rfl (mx_one _ _) M7.out ?_; intro w8 M; (have M8 := hid M); clear M))
        refine bodyPost_ret (v := .tuple #[.agg (mxOf l).toArray, .int .i64 0]) ?_ rfl (.mk ⟨by unfold mxErr; rw [hm]; rfl, M8.out.below⟩)
        have hmx : mxOf l = .int .u16 g :: ints .u16 rest := by
          have hl : l.length = 32 := by simp only [mxOk, Bool.and_eq_true, beq_iff_eq] at hm; exact hm.1
          obtain ⟨-, e2, -⟩ := hG.out hl
          obtain ⟨-, -, e3⟩ := hv.out hl
          unfold mxOf
          rw [if_pos hm, e2, e3]
          simp
        rw [hmx]
        exact results_agg_tmp (p := 2) (q := 3) rfl agg_maxp _ (by rfl) (M8.out.heap (.head _)) (by simp [ints_length, hr])
      · have hmx : mxOf l = mx0 := by unfold mxOf; rw [hm]; rfl
        rcases hq with q1 | ⟨q1, q2 | ⟨q2, q3⟩⟩
        all_goals
          go_wp2_with ((with_reducible refine gateSt (t := 25) (p := 2) rfl ?_); refine wpList_store_all (n := 14) (L1 := []) (mid := mx0) (vs := mx0) rfl rfl (by kernel_rfl) rfl rfl (by first | rfl | (simp; rfl)) rfl rfl (mx_one _ _) M7.out ?_; intro w8 M; (have M8 := hid M); clear M)
          refine bodyPost_ret (v := .tuple #[.agg (mxOf l).toArray, .int .i64 2]) ?_ rfl (.mk ⟨by unfold mxErr; rw [hm]; rfl, M8.out.below⟩)
          rw [hmx]
          exact results_agg_tmp (p := 2) (q := 3) rfl agg_maxp _ (by rfl) (M8.out.heap (.head _)) rfl
end Go.Proofs.Ytfdjgangahlepaa
