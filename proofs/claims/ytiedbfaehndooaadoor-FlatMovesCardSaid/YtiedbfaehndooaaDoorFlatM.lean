/- Layer 14: how many points there are in all; FlatOver in plain words. -/
import Derived.Test.YtiedbfaehndooaaDoorFlatL
import Derived.Laws.MakeOwn
namespace Go.Proofs.YtiedbfaehndooaaDoor
open Go Go.RowKit
set_option linter.unusedVariables false
set_option linter.unusedSimpArgs false
set_option maxRecDepth 1000000

theorem exec_load_heap {P : Program} {o : Oper} {a : Act} {w : World} {ty n : Nat} (h : AggOf P ty n) {x : Operand} (ho : o.op = .load ty x) {g off : Nat} (hx : a.eval x = .pointer (some ⟨g, off, none⟩)) {t : TypeId} {cs : Array Value} {fr : Nat × Nat} {vs : List Value} (hg : w.heap[g]? = some (.cells cs t fr)) (hv : (cs.toList.drop off).take n = vs) (hn : vs.length = n) :
    (execOp a.eval o).run P w = .ok (.value (.agg vs.toArray)) w := by
  unfold execOp
  simp only [ho, hx, Instr.loadAt, Instr.sureAddr, Sem.run_bind, Sem.run_pure, Result.andThen_ok, run_load_agg h hg hv hn]

/-! ## how many there are in lists -/
theorem tot_take (c : List (List (Int × Int × Bool))) {j : Nat} (h : j < c.length) : tot (c.take (j + 1)) = tot (c.take j) + (c.getD j []).length := by
  rw [List.take_succ_eq_append_getElem h, tot_append]
  simp [tot, List.getD, h]
theorem tot_take_le (c : List (List (Int × Int × Bool))) (j : Nat) : tot (c.take j) ≤ tot c := by
  have : tot c = tot (c.take j) + tot (c.drop j) := by rw [← tot_append, List.take_append_drop]
  omega
set_option maxHeartbeats 4000000 in
theorem sum_calls (w : World) {R : Value} {xs : List Value} {c : List (List (Int × Int × Bool))} (hl : xs.length = c.length) (hR : SliceAt w w.heap.size 1 R c.length xs) (hv : ∀ i, i < c.length → ∃ A k, xs[i]? = some (.slice A (c.getD i []).length k)) (hb : tot c ≤ 1000000) :
    Calls Tryd.prog 29 #[R] w (Ret fun r w' => r = .int .i64 (tot c) ∧ Below w.heap.size w w') := by
  have M0 := hid ((Own.start w).look hR)
  obtain ⟨A, cp, rfl, hc1, hm1, -, -⟩ := hR
  unfold maxLen at hm1
  have hvH := hid hv
  have hbH := hid hb
  have htl := hid (fun j => tot_take_le c j)
  have hts := hid (fun j (h : j < c.length) => tot_take c h)
  have htA := hid (show tot (c.take c.length) = tot c by rw [List.take_length])
  obtain ⟨n, hn⟩ : ∃ n, c.length = n := ⟨_, rfl⟩
  rw [hn] at hvH hts htA M0 hc1
  rw [hn]
  clear hv hl hn hb
  go_enter Tryd.func29, Tryd.ntmps29
  go_wp2_with fail
  go_loopw [3, 8] (fun s i wr => ∃ (j : Nat), j ≤ n ∧ i = .int .i64 j ∧ s = .int .i64 (tot (c.take j)) ∧ Hid (Own w wr [.view 1 (.slice A n cp) n xs])) (fun _ i _ => n - (intOf i).toNat)
  case atStart => exact ⟨0, Nat.zero_le _, rfl, by simp [tot], M0⟩
  case round =>
    clear M0
    obtain ⟨j, hj, rfl, rfl, MR⟩ := hrel
    by_cases hlt : j < n
    · obtain ⟨B, k, hx⟩ := hvH.out j hlt
      obtain ⟨A', C', he, -, -, -, hr⟩ := MR.out.seen (.head _)
      injection he with e1 e2 e3
      subst e1 e3
      clear e2
      obtain ⟨ad, rfl, hct⟩ := hr.cell hx
      clear hr hx
      have h1 := hts.out j hlt
      have h2 := htl.out (j + 1)
      have h3 := hbH.out
      have e := hid (show (tot (c.take (j + 1)) : Int) = (tot (c.take j) : Int) + ((c.getD j []).length : Int) by omega)
      obtain ⟨s0, hs0⟩ : ∃ x, tot (c.take j) = x := ⟨_, rfl⟩
      obtain ⟨l0, hl0⟩ : ∃ x, (c.getD j []).length = x := ⟨_, rfl⟩
      have ws : IntKind.i64.wrap ((s0 : Int) + (l0 : Int)) = (s0 : Int) + (l0 : Int) := IntWalk.i64_in _ (by omega)
      rw [hs0, hl0] at e
      rw [hl0] at hct
      rw [hs0]
      clear h1 h2 h3 hs0 hl0
      go_wp2_with fail
      go_roundw
      case rel => exact ⟨j + 1, by omega, by go_num, by rw [e.out], MR⟩
      case measure => simp [intOf] <;> omega
    · obtain rfl : n = j := by omega
      go_wp2_with fail
      go_ret
      exact .mk ⟨congrArg (fun x : Nat => Value.int .i64 (x : Int)) htA.out, MR.out.below⟩
theorem points_calls (w : World) {A : Option Addr} {n k : Nat} {xs : List Value} {c : List (List (Int × Int × Bool))} (hl : xs.length = c.length) (hR : SliceAt w w.heap.size 1 (.slice A n k) c.length xs) (hv : ∀ i, i < c.length → ∃ A k, xs[i]? = some (.slice A (c.getD i []).length k)) (hb : tot c ≤ 1000000) :
    Calls Tryd.prog 15 #[.slice A n k] w (Ret fun r w' => r = .int .i64 (tot c) ∧ Below w.heap.size w w') := by
  have hS := hid (sum_calls w hl hR hv hb)
  go_enter Tryd.func15, Tryd.ntmps15
  go_wp2_with (go_at_call 29; (with_reducible refine hS.out.mono ?_); rintro _ w2 ⟨_, rfl, rfl, hb⟩; (have hbH := hid hb); clear hb)
  go_ret
  exact .mk ⟨rfl, hbH.out⟩
/-- What is told, to be counted. -/
theorem flatP_own {r : WR} {w w' : World} {v : Value} (h : FlatP r w v w') : ∃ A c xs, v = .tuple #[.slice A r.c.length c, .int .i64 r.e] ∧ xs.length = r.c.length ∧ SliceAt w' w'.heap.size 1 (.slice A r.c.length c) r.c.length xs ∧ (∀ i, i < r.c.length → ∃ A k, xs[i]? = some (.slice A (r.c.getD i []).length k)) ∧ (∀ i, i < r.c.length → ∃ v, xs[i]? = some v ∧ SliceAt w' w'.heap.size 3 v (r.c.getD i []).length (dpC (r.c.getD i []))) ∧ Below w.heap.size w w' := by
  obtain ⟨R, cl, rfl, hcl, M⟩ := h
  have hlen : cl.length = r.c.length := by rw [← hcl, List.length_map]
  have hs := M.seen (.head _)
  rw [hlen] at hs
  obtain ⟨A, c, rfl, h1, h2, h3, h4⟩ := hs
  have hseen : ∀ i, i < r.c.length → ∃ v, (cl.map (·.1))[i]? = some v ∧ SliceAt w' w'.heap.size 3 v (r.c.getD i []).length (dpC (r.c.getD i [])) := fun i hi => by
    obtain ⟨v, e1, e2⟩ := cl_value hcl hi
    exact ⟨v, e1, M.seen (.tail _ e2)⟩
  refine ⟨A, c, cl.map (·.1), rfl, by rw [List.length_map, hlen], ⟨A, c, rfl, h1, h2, h3, h4⟩, fun i hi => ?_, hseen, M.below⟩
  obtain ⟨v, e1, B, k, rfl, -⟩ := hseen i hi
  exact ⟨B, k, e1⟩

/-! ## many points -/
abbrev z3 : Int × Int × Bool := (0, 0, false)
abbrev gZ (k : Nat) : Sg := ⟨0, 0, 0, 0, [(k : Int) - 1], [], List.replicate k z3⟩
theorem gZ_ok {k : Nat} (h1 : 1 ≤ k) (h2 : k ≤ 400) : (gZ k).Ok := ⟨(show I16 0 by decide), (show I16 0 by decide), (show I16 0 by decide), (show I16 0 by decide), fun x hx => by rw [List.mem_singleton] at hx; omega, bytes_nil, fun p hp => by rw [List.eq_of_mem_replicate hp]; exact ⟨(show I16 0 by decide), (show I16 0 by decide)⟩⟩
theorem zX (k i : Nat) : pX (List.replicate k z3) i = 0 ∧ pY (List.replicate k z3) i = 0 ∧ pO (List.replicate k z3) i = false := by
  unfold pX pY pO
  by_cases h : i < k
  · simp [List.getD, h]
  · simp [List.getD, List.getElem?_eq_none (by simp; omega : (List.replicate k z3).length ≤ i)]
theorem gZ_r {k : Nat} (h1 : 1 ≤ k) (h2 : k ≤ 400) : sgR (gZ k) = true := by
  unfold sgR
  simp only [List.length_replicate, List.length_cons, List.length_nil, Nat.zero_add]
  have hr : riseB [(k : Int) - 1] 1 = true := decide_eq_true fun i hi => by
    obtain rfl : i = 0 := by omega
    show (0 : Int) ≤ (k : Int) - 1
    omega
  have hs : stepB (List.replicate k z3) k = true := decide_eq_true fun i hi => by
    have hx : dX (List.replicate k z3) i = 0 := by
      unfold dX
      cases i with
      | zero => rw [(zX k 0).1]; rfl
      | succ j => show pX _ (j + 1) - pX _ j = 0; rw [(zX k (j + 1)).1, (zX k j).1]; rfl
    have hy : dY (List.replicate k z3) i = 0 := by
      unfold dY
      cases i with
      | zero => rw [(zX k 0).2.1]; rfl
      | succ j => show pY _ (j + 1) - pY _ j = 0; rw [(zX k (j + 1)).2.1, (zX k j).2.1]; rfl
    rw [hx, hy]
    exact ⟨by decide, by decide⟩
  rw [hr, hs]
  have : nP [(k : Int) - 1] 1 = (k : Int) - 1 + 1 := rfl
  simp [this]
theorem gZ_cnt {k : Nat} : cntK (gZ k) 1 = [List.replicate k z3] := by
  show [cntAt (gZ k) 0] = _
  congr 1
  show ((List.replicate k z3).take ((k : Int) - 1 + 1).toNat).drop (0 : Int).toNat = _
  rw [show ((k : Int) - 1 + 1).toNat = k by omega]
  simp
theorem sgB_len14 (g : Sg) : (sgB g).length ≤ 12 + 2 * g.ends.length + g.prog.length + 6 * g.pts.length := by
  have h1 := xsK_length g.pts g.pts.length
  have h2 := ysK_length g.pts g.pts.length
  have h3 := rowsF_length (flsK g.pts g.pts.length).length (flsK g.pts g.pts.length)
  rw [flsK_length] at h3
  have e1 := flatN_length s2 s2_length g.box
  have e2 := flatN_length _root_.Go.Proofs.YtiedbfaehndooaaDoor.b2 b2_length g.ends
  have e3 : g.box.length = 4 := rfl
  unfold sgB hdB rowsB
  simp only [List.length_append, b2_length, flsK_length]
  omega
set_option maxHeartbeats 8000000 in
abbrev kOver (m k : Nat) : List Gk := [.parts (cgM 1 m), .pts (gZ k)]
theorem kOver_right {m k : Nat} (m1 : 1 ≤ m) (m2 : m ≤ 200) (k1 : 1 ≤ k) (k2 : k ≤ 400) : ∀ x ∈ kOver m k, x.Right := by
  intro x hk
  simp only [List.mem_cons, List.not_mem_nil, or_false] at hk
  rcases hk with rfl | rfl
  · exact ⟨cgM_ok (by decide) (by decide) m, cgM_r m1 m2⟩
  · refine ⟨gZ_ok k1 k2, gZ_r k1 k2, ?_⟩
    have := sgB_len14 (gZ k)
    simp only [List.length_cons, List.length_nil, List.length_replicate] at this
    omega
theorem kOver_near {m k : Nat} (m1 : 1 ≤ m) (m2 : m ≤ 200) (k1 : 1 ≤ k) (k2 : k ≤ 400) : Near (kOver m k) := near_unit (kOver_right m1 m2 k1 k2) (by
  intro x hk g hg p hp
  simp only [List.mem_cons, List.not_mem_nil, or_false] at hk
  rcases hk with rfl | rfl
  · injection hg with hg
    subst hg
    rw [List.eq_of_mem_replicate hp]
    exact ⟨rfl, rfl, rfl, rfl, ptM_ok (by decide) (by decide)⟩
  · cases hg)
theorem mvZ (k : Nat) : (List.replicate k z3).map (mvP (ptM 1)) = List.replicate k z3 := by
  rw [List.map_replicate]
  rfl
theorem allK_over {F : Nat → Nat → Int → WR} {k : Nat} (hF : ∀ m q, m ≤ 1000 → q ≤ 20000 → F m q 1 = if 20000 < q + k then ⟨9, [], m + 1, q + k⟩ else ⟨0, [List.replicate k z3], m + 1, q + k⟩) : ∀ (n m q : Nat) (acc : List (List (Int × Int × Bool))), m + n ≤ 1000 → q ≤ 20000 →
    (q + n * k ≤ 20000 → allK F (List.replicate n (ptM 1)) m q acc = ⟨0, acc ++ List.replicate n (List.replicate k z3), m + n, q + n * k⟩) ∧ (20000 < q + n * k → (allK F (List.replicate n (ptM 1)) m q acc).e = 9 ∧ (allK F (List.replicate n (ptM 1)) m q acc).c = [])
  | 0, m, q, acc, hm, hq => ⟨fun _ => by simp [allK], fun h => by omega⟩
  | n + 1, m, q, acc, hm, hq => by
    rw [List.replicate_succ, allK_cons, show (ptM 1).g = 1 from rfl, hF m q (by omega) hq, Nat.succ_mul]
    by_cases h : 20000 < q + k
    · rw [if_pos h, if_neg (show ¬ ((9 : Int) = 0) by decide)]
      exact ⟨fun h2 => by omega, fun _ => ⟨rfl, rfl⟩⟩
    · rw [if_neg h, if_pos rfl]
      obtain ⟨h1, h2⟩ := allK_over hF n (m + 1) (q + k) (acc ++ [List.replicate k z3]) (by omega) (by omega)
      simp only [List.map_cons, List.map_nil, mvZ]
      refine ⟨fun h3 => ?_, fun h3 => h2 (by omega)⟩
      rw [h1 (by omega), List.append_assoc, show [List.replicate k z3] ++ List.replicate n (List.replicate k z3) = List.replicate (n + 1) (List.replicate k z3) from rfl, show m + 1 + n = m + (n + 1) by omega, show q + k + n * k = q + (n * k + k) by omega]
theorem tot_rep (n k : Nat) : tot (List.replicate n (List.replicate k z3)) = n * k := by
  induction n with
  | zero => simp [tot]
  | succ n ih => rw [List.replicate_succ, Nat.succ_mul, ← ih]; simp only [tot, List.map_cons, List.sum_cons, List.length_replicate]; omega
theorem kOver_at {m k : Nat} (hm : m ≤ 200) : (m * k ≤ 20000 → (atK (kOver m k) 17 [] 0 0 0).e = 0 ∧ (atK (kOver m k) 17 [] 0 0 0).c = List.replicate m (List.replicate k z3)) ∧ (20000 < m * k → (atK (kOver m k) 17 [] 0 0 0).e = 9 ∧ (atK (kOver m k) 17 [] 0 0 0).c = []) := by
  have h1 : ∀ a q, a ≤ 1000 → q ≤ 20000 → atK (kOver m k) 16 [0] a q 1 = if 20000 < q + k then ⟨9, [], a + 1, q + k⟩ else ⟨0, [List.replicate k z3], a + 1, q + k⟩ := fun a q ha hq => by
    rw [atK, if_neg (by simp), if_neg (by decide), if_neg (by omega)]
    show (if 20000 < q + (List.replicate k z3).length then (⟨9, [], a + 1, q + (List.replicate k z3).length⟩ : WR) else ⟨0, cntK (gZ k) 1, a + 1, q + (List.replicate k z3).length⟩) = _
    rw [List.length_replicate, gZ_cnt]
  have he : atK (kOver m k) 17 [] 0 0 0 = allK (atK (kOver m k) 16 [0]) (List.replicate m (ptM 1)) 1 0 [] := by
    rw [atK, if_neg (by simp), if_neg (by decide), if_neg (by omega)]; rfl
  rw [he]
  obtain ⟨h2, h3⟩ := allK_over h1 m 1 0 [] (by omega) (by omega)
  rw [Nat.zero_add] at h2 h3
  exact ⟨fun h => by rw [h2 h]; exact ⟨rfl, rfl⟩, h3⟩
theorem madeZ (k : Nat) : madeCells #[.int .i16 0, .int .i16 0, .bool false] (k * 3) = (spC (List.replicate k z3)).toArray := by
  apply Array.ext
  · rw [size_madeCells, List.size_toArray, spC_length, List.length_replicate]
  · intro i h1 h2
    rw [size_madeCells] at h1
    obtain ⟨j, r, hr, rfl⟩ : ∃ j r, r < 3 ∧ i = j * 3 + r := ⟨i / 3, i % 3, by omega, by omega⟩
    have hj : j < (List.replicate k z3).length := by rw [List.length_replicate]; omega
    obtain ⟨e0, e1, e2⟩ := spC_get (List.replicate k z3) j hj
    rw [(zX k j).1] at e0
    rw [(zX k j).2.1] at e1
    rw [(zX k j).2.2] at e2
    have hm : (j * 3 + r) % 3 = r := by omega
    have hL : (madeCells #[.int .i16 0, .int .i16 0, .bool false] (k * 3))[j * 3 + r]'(by rw [size_madeCells]; exact h1) = (#[Value.int .i16 0, .int .i16 0, .bool false])[r]! := by
      simp only [madeCells, Array.getElem_map, Array.getElem_range]
      show (#[Value.int .i16 0, .int .i16 0, .bool false])[(j * 3 + r) % 3]! = _
      rw [hm]
    rw [hL]
    have hRR : (spC (List.replicate k z3))[j * 3 + r]? = some ((spC (List.replicate k z3)).toArray[j * 3 + r]) := by
      rw [List.getElem_toArray]; exact List.getElem?_eq_getElem _
    rcases (show r = 0 ∨ r = 1 ∨ r = 2 by omega) with rfl | rfl | rfl
    · have e0' : (spC (List.replicate k z3))[j * 3 + 0]? = some (.int .i16 0) := e0
      rw [e0'] at hRR
      exact Option.some.inj hRR
    · rw [e1] at hRR
      exact Option.some.inj hRR
    · rw [e2] at hRR
      exact Option.some.inj hRR
end Go.Proofs.YtiedbfaehndooaaDoor
