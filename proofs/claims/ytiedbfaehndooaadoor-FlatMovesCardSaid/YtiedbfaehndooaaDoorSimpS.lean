/- One byte, so often: bytes.Repeat. -/
import Derived.Test.YtiedbfaehndooaaDoorSimpM1
import Derived.Lib.MakeNoZero
import Derived.Lib.Mul64
import Derived.Laws.Bits64b
import Derived.Laws.CopyOwn
namespace Go.Proofs.YtiedbfaehndooaaDoor
open Go Go.RowKit
set_option linter.unusedVariables false
set_option linter.unusedSimpArgs false
set_option maxRecDepth 100000

theorem mask_u64 (a : Nat) (ha : a < 4294967296) : bits .and .u64 (a : Int) 4294967295 = (a : Int) := by
  have h := bits_and_u64_nat a 4294967295 (by omega) (by omega)
  have e : a &&& 4294967295 = a % 4294967296 := Nat.and_two_pow_sub_one_eq_mod a 32
  rw [e, Nat.mod_eq_of_lt ha] at h
  exact h
theorem mul64_one (w : World) (c : Nat) (hc : c < 4294967296) :
    Calls Tryd.prog 87 #[.int .u64 1, .int .u64 c] w (Ret fun r w' => r = .tuple #[.int .u64 0, .int .u64 c] ∧ w = w') := by
  have m1 : bits .and .u64 1 4294967295 = 1 := mask_u64 1 (by omega)
  have m2 := mask_u64 c hc
  have m3 : bits .and .u64 0 4294967295 = 0 := mask_u64 0 (by omega)
  have d1 : (c : Int) / 4294967296 = 0 := by omega
  have w1 : IntKind.u64.wrap (c : Int) = c := by rw [IntKind.wrap_u64]; omega
  go_enter Tryd.func87, Tryd.ntmps87
  go_wp2
  go_ret2
  exact .mk ⟨rfl, rfl⟩
theorem mul_one (w : World) (c : Nat) (hc : c < 4294967296) :
    Calls Tryd.prog 82 #[.int .u64 1, .int .u64 c] w (Ret fun r w' => r = .tuple #[.int .u64 0, .int .u64 c] ∧ w = w') := by
  have h := hid (mul64_one w c hc)
  go_enter Tryd.func82, Tryd.ntmps82
  go_wp2_with (go_at_call 87; refine h.out.mono ?_; rintro _ _ ⟨_, rfl, rfl, rfl⟩)
  go_ret2
  exact .mk ⟨rfl, rfl⟩
set_option maxHeartbeats 4000000 in
theorem repeat_calls (w : World) {V : Value} {f : Int} (h1 : BytesAt w V [f]) (c : Nat) (c0 : 1 ≤ c) (c1 : c ≤ 256) :
    Calls Tryd.prog 75 #[V, .int .i64 c] w (Ret fun r w' => SliceAt w' w'.heap.size 1 r c (ints .u8 (List.replicate c f)) ∧ Below w.heap.size w w') := by
  have hMul := hid (mul_one w c (by omega))
  obtain ⟨A, k, rfl, hc, hm, hA, hr⟩ := h1
  unfold maxLen at hm
  obtain ⟨ad, rfl, hcell⟩ := hr.cell (ints_get .u8 [f] 0 (by simp))
  obtain ⟨-, -, hlt, -⟩ := hr.2 (by simp)
  obtain ⟨cs, hrunM, hle, hmx⟩ := Lib.run_makeNoZero (P := Tryd.prog) w #[3] 35 5 Tryd.underlying35 c (by omega)
  have hcall : (callFunc 83 #[.int .i64 (c : Int)]).run Tryd.prog w = .ok (.value (.slice (some ⟨w.heap.size, 0, none⟩) c cs.size)) (w.drew.drew.alloc (.cells cs 5)) := by
    rw [run_callFunc_extern Tryd.func83 (by kernel_rfl) (by kernel_rfl) (by kernel_rfl) (e := Extern.BytealgMakeNoZero.makeNoZero #[3] #[35]) (by kernel_rfl), hrunM]
    rfl
  have hM : IntKind.i64.wrap (c : Int) = c := IntWalk.i64_in _ (by omega)
  have hMu : IntKind.u64.wrap (c : Int) = c := by rw [IntKind.wrap_u64]; omega
  have hne : ((c : Int) == 0) = false := by rw [beq_eq_false_iff_ne]; omega
  have hrow := hid (show (w.drew.drew.alloc (.cells cs 5 (0, 0))).heap[w.heap.size]? = some (.cells cs.toList.toArray 5 (0, 0)) from heap_alloc_new w.drew.drew (.cells cs 5 (0, 0)))
  have hB0 := hid (show Below w.heap.size w (w.drew.drew.alloc (.cells cs 5 (0, 0))) from ((Below.refl _ _).drew.drew).alloc (Nat.le_refl _) _)
  obtain ⟨w1, hw1⟩ : ∃ w1, w.drew.drew.alloc (.cells cs 5 (0, 0)) = w1 := ⟨_, rfl⟩
  rw [hw1] at hcall hrow hB0
  obtain ⟨g, hg⟩ : ∃ g, w.heap.size = g := ⟨_, rfl⟩
  rw [hg] at hcall hrow
  have hgH := hid hg
  have hread := hid (hr.keep (w' := w1) fun k hk _ => hB0.out.block k hk)
  have hsz : (Tryd.prog.info? 5).map (·.size) = some 1 := by kernel_rfl
  have hszH := hid hsz
  have hleH := hid hle
  have hmin : min (1 : Nat) c = 1 := by omega
  have hminH := hid hmin
  clear hrunM hr hA hg hw1 hsz hmin
  go_enter Tryd.func75, Tryd.ntmps75
  go_wp2_with (first
    | (go_at_call 82; refine hMul.out.mono ?_; rintro _ _ ⟨_, rfl, rfl, rfl⟩)
    | ((with_reducible refine gate (N := 60) rfl ?_); refine wpList_copy_splice rfl (.tmp 58) (.tmp 59) 35 35 rfl 5 Tryd.underlying35 hszH.out _ _ _ _ _ _ rfl rfl g 0 cs.toList 5 hrow.out [.int .u8 f] (by rw [List.length_singleton]; exact hminH.out.symm)
        (fun _ => ⟨rfl, by obtain ⟨ad', e, -, h⟩ := hread.out.2 (by simp); exact ⟨ad', e, h⟩⟩) (by have := hleH.out; simp; omega) (one_all rfl) w.heap.size w hB0.out (by have := hgH.out; omega) ?_; intro w2 HG2 hB2; (have hB2 := hid hB2)))
  go_loopw [10] (fun bp wr => ∃ (m : Nat), bp = .int .i64 m ∧ 1 ≤ m ∧ m ≤ c ∧ Hid (∃ cur : List Value, (cur.length = cs.size ∧ cur.take m = List.replicate m (.int .u8 f)) ∧ wr.heap[g]? = some (.cells cur.toArray 5 (0, 0))) ∧ Hid (Below w.heap.size w wr)) (fun bp _ => c - (intOf bp).toNat)
  case atStart => exact ⟨1, rfl, Nat.le_refl _, c0, hid ⟨_, ⟨by rw [length_splice _ _ _ (by have := hleH.out; simp; omega)]; simp, by simp [splice]⟩, HG2.out⟩, hB2⟩
  case round =>
    obtain ⟨m, rfl, m0, m1, hx, HB⟩ := hrel
    obtain ⟨cur, hc2, HG⟩ := hx.out
    replace hc2 := hid hc2
    replace HG := hid HG
    clear hx
    by_cases hlt2 : m < c
    · have q1 : min m c = m := by omega
      have q2 : min (m : Int) c = m := by omega
      obtain ⟨n, hn⟩ : ∃ n, min m (c - m) = n := ⟨_, rfl⟩
      have n0 : 1 ≤ n := by omega
      have n1 : m + n ≤ c := by omega
      have hnH := hid hn
      have hne2 : ¬ c = m := by omega
      have hmm : c - m = c - m := rfl
      have hsrc := hid (show ∀ j v, (List.replicate n (Value.int .u8 f))[j]? = some v → wr.drew.cell? ((⟨g, 0, none⟩ : Addr).add j) = some v from fun j v hj => by
        have hjn : j < n := by
          rcases Nat.lt_or_ge j n with h | h
          · exact h
          · rw [List.getElem?_eq_none (by simpa using h)] at hj; cases hj
        have e : (⟨g, 0, none⟩ : Addr).add j = ⟨g, j, none⟩ := by unfold Addr.add; split <;> simp_all
        have h1 : cur[j]? = some v := by
          have := congrArg (fun l => l[j]?) hc2.out.2
          simp only [List.getElem?_take, show j < m by omega, if_true] at this
          rw [this, ← hj]; simp [List.getElem?_replicate, hjn, show j < m by omega]
        rw [e, show wr.drew.cell? _ = wr.cell? _ from rfl, cell_of_row wr g j cur.toArray _ _ HG.out]
        simpa using h1)
      clear hn
      go_wp2
      have hfit := hid (show m + (List.replicate n (Value.int .u8 f)).length ≤ cur.length from by have := hleH.out; rw [hc2.out.1, List.length_replicate]; omega)
      have hone := hid (show ∀ u ∈ List.replicate n (Value.int .u8 f), u.oneCell' = true from fun u hu => by rw [(List.mem_replicate.1 hu).2]; rfl)
      have hgg := hid (show w.heap.size ≤ g from by have := hgH.out; omega)
      have hcn := hid (show (List.replicate n (Value.int .u8 f)).length = Nat.min m (c - m) from by rw [List.length_replicate]; exact hnH.out.symm)
      go_region_law (refine step_copy_splice rfl (.tmp 70) (.tmp 73) 35 35 rfl 5 Tryd.underlying35 hszH.out (some ⟨g, m, none⟩) (some ⟨g, 0, none⟩) (c - m) (c - m) m c (by simp [Act.eval, Act.put]) (by simp [Act.eval, Act.put]) g m cur 5 HG.out (List.replicate n (.int .u8 f)) hcn.out (fun _ => ⟨rfl, _, rfl, hsrc.out⟩) hfit.out hone.out w.heap.size w HB.out.drew hgg.out ?_; intro w3 HG3 hB3; (have HB3 := hid hB3); clear hB3)
      try simp only [Act.put, List.setIfInBounds_toArray, List.set_cons_zero, List.set_cons_succ, List.getElem_toArray, List.getElem_cons_zero, List.getElem_cons_succ]
      have hwr : IntKind.i64.wrap ((m : Int) + n) = (m : Int) + n := IntWalk.i64_in _ (by omega)
      simp only [hwr]
      refine ⟨?_, ?measure⟩
      (repeat apply Exists.intro)
      refine ⟨?rel, rfl⟩
      case rel => exact ⟨m + n, by go_num, by omega, n1, hid ⟨_, ⟨by rw [length_splice _ _ _ hfit.out]; exact hc2.out.1, by
        have e : (cur.take m).length = m := by rw [hc2.out.2]; simp
        unfold splice
        rw [List.take_append, e, List.take_take, Nat.min_eq_right (by omega), hc2.out.2, show m + n - m = n by omega, List.take_left' (by simp), List.replicate_append_replicate]⟩, HG3.out⟩, HB3⟩
      case measure => simp [intOf]; omega
    · obtain rfl : m = c := by omega
      go_wp2
      go_ret
      refine .mk ⟨⟨_, _, rfl, Nat.le_refl _, by unfold maxLen; omega, (by intro h; cases h), by simp [ints], fun _ => ⟨_, rfl, heap_lt HG.out, fun j u hj => ?_⟩⟩, HB.out⟩
      have hjm : j < m := by
        rcases Nat.lt_or_ge j m with h | h
        · exact h
        · rw [List.getElem?_eq_none (by simpa [ints] using h)] at hj; cases hj
      have e : (⟨g, 0, none⟩ : Addr).add j = ⟨g, j, none⟩ := by unfold Addr.add; split <;> simp_all
      rw [e, cell_of_row wr g j cur.toArray _ _ HG.out]
      have := congrArg (fun l => l[j]?) hc2.out.2
      simp only [List.getElem?_take, hjm, if_true] at this
      rw [List.getElem?_toArray, this, ← hj]
      simp [ints, List.getElem?_replicate, hjm]
end Go.Proofs.YtiedbfaehndooaaDoor
