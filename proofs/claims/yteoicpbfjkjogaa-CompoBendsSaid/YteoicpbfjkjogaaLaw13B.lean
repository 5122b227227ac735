/- Layer 13: a part's matrix (CompoKinds). -/
import Derived.Test.YteoicpbfjkjogaaCompJ
namespace Go.Proofs.Yteoicpbfjkjogaa
open Go Go.RowKit
set_option linter.unusedVariables false
set_option linter.unusedSimpArgs false
set_option maxRecDepth 1000000

def kF (t : Nat) : Int := [0, 8, 64, 128, 72, 192].getD t 0
def kQ (t : Nat) : Int := [2, 10, 66, 130, 74, 194].getD t 0
def kS (t : Nat) : Nat := [0, 2, 4, 8, 0, 0].getD t 0
theorem kQ_all {t : Nat} (h : t < 6) : bits .or .u16 2 (kF t) = kQ t ∧ U16 (kQ t) ∧ hasB (kQ t) 2 = true ∧ flagB (kQ t) = true ∧ hasB (kQ t) 1 = false ∧ hasB (kQ t) 256 = false ∧ 2 * kn (kQ t) = kS t ∧ eachW (kQ t) = 1 := by
  rcases (by omega : t = 0 ∨ t = 1 ∨ t = 2 ∨ t = 3 ∨ t = 4 ∨ t = 5) with rfl | rfl | rfl | rfl | rfl | rfl <;> decide +kernel
abbrev kP (t : Nat) (a b c d : Int) : Pt := ⟨kQ t, 0, 0, 0, a, b, c, d⟩
abbrev kG (t : Nat) (a b c d : Int) : Cg := ⟨0, 0, 0, 0, [kP t a b c d], []⟩
theorem kP_ok {t : Nat} {a b c d : Int} (h : t < 6) (ha : I16 a) (hb : I16 b) (hc : I16 c) (hd : I16 d) : (kP t a b c d).Ok :=
  ⟨(kQ_all h).2.1, (by decide : U16 0), (by decide : I16 0), (by decide : I16 0), ha, hb, hc, hd⟩
theorem kG_ok {t : Nat} {a b c d : Int} (h : t < 6) (ha : I16 a) (hb : I16 b) (hc : I16 c) (hd : I16 d) : (kG t a b c d).Ok :=
  ⟨(by decide : I16 0), (by decide : I16 0), (by decide : I16 0), (by decide : I16 0), fun p hp => by rw [List.mem_singleton] at hp; subst hp; exact kP_ok h ha hb hc hd, bytes_nil⟩
theorem kG_R {t : Nat} {a b c d : Int} (h : t < 6) : cgR (kG t a b c d) = matB (kP t a b c d) := by
  obtain ⟨-, -, h2, hf, h1, h256, -⟩ := kQ_all h
  have hp : partB (kP t a b c d) = matB (kP t a b c d) := by
    unfold partB
    rw [h2, hf, h1, show smallB 0 = true by decide]
    simp
  have hc : codeB [kP t a b c d] 1 = false := h256
  have hps : partsB [kP t a b c d] 1 = matB (kP t a b c d) := by
    rw [partsB_succ, show pAt [kP t a b c d] 0 = kP t a b c d from rfl, hp, show codeB [kP t a b c d] 0 = false from rfl, show partsB [kP t a b c d] 0 = true from decide_eq_true fun i hi => absurd hi (by omega)]
    simp
  unfold cgR
  rw [show (kG t a b c d).parts.length = 1 from rfl, hps, hc]
  simp
theorem kG_len {t : Nat} {a b c d : Int} (h : t < 6) : (cgB (kG t a b c d)).length = 16 + kS t := by
  obtain ⟨-, -, -, -, h1, h256, hk, he⟩ := kQ_all h
  have hpr : progB (kG t a b c d) = [] := by
    unfold progB
    rw [show codeB (kG t a b c d).parts (kG t a b c d).parts.length = false from h256]; rfl
  have hl : (laysP (kG t a b c d).parts (kG t a b c d).parts.length).length = 6 + kS t := by
    show (laysP [kP t a b c d] 1).length = _
    rw [laysP_succ, show laysP [kP t a b c d] 0 = [] from rfl, List.nil_append]
    unfold layP
    simp only [List.length_append, b2_length, xyB_length, mB_length]
    show 2 + (2 + (2 * eachW (kQ t) + 2 * kn (kQ t))) = _
    rw [he, hk]; omega
  unfold cgB
  rw [hpr]
  simp only [List.length_append, b2_length, hl, List.length_nil]
  rw [show ((kG t a b c d).box.flatMap s2).length = 8 from rfl]
  omega
/-- What is wanted. -/
theorem kMat {a b c d : Int} : matB (kP 0 a b c d) = decide (a = 16384 ∧ b = 0 ∧ c = 0 ∧ d = 16384) ∧ matB (kP 1 a b c d) = decide (b = 0 ∧ c = 0 ∧ a = d) ∧ matB (kP 2 a b c d) = decide (b = 0 ∧ c = 0) ∧ matB (kP 3 a b c d) = true ∧ matB (kP 4 a b c d) = false ∧ matB (kP 5 a b c d) = false := by
  unfold matB
  rw [show kd (kP 0 a b c d).f = 0 from (by decide : kd (kQ 0) = 0), show kd (kP 1 a b c d).f = 1 from (by decide : kd (kQ 1) = 1), show kd (kP 2 a b c d).f = 2 from (by decide : kd (kQ 2) = 2), show kd (kP 3 a b c d).f = 4 from (by decide : kd (kQ 3) = 4), show kd (kP 4 a b c d).f = -1 from (by decide : kd (kQ 4) = -1), show kd (kP 5 a b c d).f = -1 from (by decide : kd (kQ 5) = -1)]
  exact ⟨rfl, rfl, rfl, rfl, rfl, rfl⟩
theorem bytes_flat {α : Type} {f : α → List Int} (h : ∀ x, Bytes (f x)) (l : List α) : Bytes (l.flatMap f) := fun y hy => by
  obtain ⟨x, -, hx⟩ := List.mem_flatMap.1 hy
  exact h x y hx
theorem bytes_s2 (x : Int) : Bytes (s2 x) := bytes_b2 _
theorem bytes_layP (q : Pt) (last : Bool) : Bytes (layP q last) := by
  unfold layP
  refine (bytes_b2 _).append ((bytes_b2 _).append (Bytes.append ?_ ?_))
  · unfold xyB
    split
    · exact (bytes_s2 _).append (bytes_s2 _)
    · intro x hx; simp only [List.mem_cons, List.not_mem_nil, or_false] at hx; omega
  · unfold mB
    split
    · exact (bytes_s2 _).append ((bytes_s2 _).append ((bytes_s2 _).append (bytes_s2 _)))
    · split
      · exact (bytes_s2 _).append (bytes_s2 _)
      · split
        · exact bytes_s2 _
        · exact bytes_nil
theorem bytes_cgB {g : Cg} (h : Bytes g.prog) : Bytes (cgB g) := by
  unfold cgB
  refine (bytes_b2 _).append ((bytes_flat bytes_s2 _).append (Bytes.append (bytes_flat (fun _ => bytes_layP _ _) _) ?_))
  unfold progB
  split
  · exact (bytes_b2 _).append h
  · exact bytes_nil
theorem cParse_some (w : World) {V : Value} {l : List Int} {g : Cg} {n : Nat} (h1 : BytesAt w V l) (hB : Bytes l) (hn : l.length ≤ 140737488355328) (h : cpS l = some (g, n)) :
    Calls Try.prog 23 #[V] w (Ret fun r w' => ∃ vp vg, g.Ok ∧ r = .tuple #[.agg (cA g vp vg), .int .i64 n, .int .i64 0] ∧ Own w w' [.row 35 8 vp g.parts.length (ptC g.parts), .row 5 1 vg g.prog.length (ints .u8 g.prog)]) := by
  refine (cParse_calls w h1 hB hn).mono ?_
  rintro _ w' ⟨r, rfl, ⟨g', n', vp', vg', hp', hO', rfl, M⟩ | ⟨hp', -, -⟩⟩
  · have := hp'.symm.trans h
    injection this with this
    injection this with e1 e2
    subst e1 e2
    exact .mk ⟨_, _, hO', rfl, M⟩
  · rw [hp'] at h; cases h
theorem cParse_none (w : World) {V : Value} {l : List Int} (h1 : BytesAt w V l) (hB : Bytes l) (hn : l.length ≤ 140737488355328) (h : cpS l = none) :
    Calls Try.prog 23 #[V] w (Ret fun r w' => r = .tuple #[.agg cNil, .int .i64 0, .int .i64 2] ∧ Below w.heap.size w w') := by
  refine (cParse_calls w h1 hB hn).mono ?_
  rintro _ w' ⟨r, rfl, ⟨g', n', vp', vg', hp', hO', rfl, M⟩ | ⟨hp', hr, hb⟩⟩
  · rw [hp'] at h; cases h
  · exact .mk ⟨hr, hb⟩
theorem row_mat {W0 w : World} {L : List Ent} {g n c : Nat} {ps : List Pt} (M : Own W0 w L) (h : .row 35 8 (.slice (some ⟨g, 0, none⟩) n c) n (ptC ps) ∈ L) (hn : ps.length = n) {i : Nat} (hi : i < n) :
    (loadVar 32 ⟨g, i * 8 + 4, none⟩).run Try.prog w = .ok (.agg #[.int .i16 (pAt ps i).a, .int .i16 (pAt ps i).b, .int .i16 (pAt ps i).c, .int .i16 (pAt ps i).d]) w := by
  obtain ⟨A, C, he, -, -, -, hr⟩ := M.slice h
  injection he with he1 he2 he3
  subst he1
  obtain ⟨-, -, -, -, c4, c5, c6, c7⟩ := part_at hn hr (Below.refl _ _) hi
  simp only [addr_add, Nat.zero_add] at c4 c5 c6 c7
  have hl : (loadCells ⟨g, i * 8 + 4, none⟩ 4).run Try.prog w = .ok #[.int .i16 (pAt ps i).a, .int .i16 (pAt ps i).b, .int .i16 (pAt ps i).c, .int .i16 (pAt ps i).d] w :=
    run_loadCells_list (P := Try.prog) w ⟨g, i * 8 + 4, none⟩ [.int .i16 (pAt ps i).a, .int .i16 (pAt ps i).b, .int .i16 (pAt ps i).c, .int .i16 (pAt ps i).d] (fun j v hv => by
      rw [addr_add]
      rcases j with _ | _ | _ | _ | j
      · injection hv with hv; subst hv; exact c4
      · injection hv with hv; subst hv; exact c5
      · injection hv with hv; subst hv; exact c6
      · injection hv with hv; subst hv; exact c7
      · cases hv)
  obtain ⟨_, hi⟩ := id agg_mat
  cases hq : (Try.prog).info? 32 with
  | none => simp [hq] at hi
  | some i =>
    have hs : i.size = 4 := by simpa [hq] using hi
    simp [loadVar, Sem.run_bind, run_isAgg agg_mat w, sizeOf, typeInfo, hq, hs, hl]
set_option maxHeartbeats 8000000 in
theorem compoKinds_calls (w : World) {a b c d k : Int} (ha : I16 a) (hb : I16 b) (hc : I16 c) (hd : I16 d) (k0 : 0 ≤ k) (k1 : k < 256) :
    Calls Try.prog 6 #[.agg #[.int .i16 a, .int .i16 b, .int .i16 c, .int .i16 d], .int .u8 k] w (Ret fun r w' => r = .bool true ∧ Below w.heap.size w w') := by
  have M0 := hid (Own.start w)
  obtain ⟨t, ht, ht6⟩ : ∃ t : Nat, k % 6 = t ∧ t < 6 := ⟨(k % 6).toNat, by omega, by omega⟩
  have hm : k.tmod 6 = t := by rw [Int.tmod_eq_emod_of_nonneg k0, ht]
  have hw1 : IntKind.u8.wrap (t : Int) = t := by rw [IntKind.wrap_u8]; omega
  obtain ⟨hor, -⟩ := kQ_all ht6
  have hOk := hid (kG_ok ht6 ha hb hc hd)
  have hR := hid (kG_R (a := a) (b := b) (c := c) (d := d) ht6)
  have hL := hid (kG_len (a := a) (b := b) (c := c) (d := d) ht6)
  have hMt := hid (kMat (a := a) (b := b) (c := c) (d := d))
  obtain ⟨b1, hb1⟩ : ∃ q, decide (b = 0 ∧ c = 0) = q := ⟨_, rfl⟩
  obtain ⟨tb, htb⟩ : ∃ q, matB (kP t a b c d) = q := ⟨_, rfl⟩
  rw [htb] at hR
  replace hb1 := hid hb1
  replace htb := hid htb
  clear ha hb hc hd k0
  go_enter Try.func6, Try.ntmps6
  go_upto_region 3 with (first
    | ((with_reducible refine gate (N := 2) rfl ?_); refine wpList_box_Own rfl (cs := #[.int .i16 a, .int .i16 b, .int .i16 c, .int .i16 d]) (t := 32) (by first | (go_simp; done) | (go_simp; rfl)) M0.out ?_; intro m w1 M; (have M1 := hid M); clear M)
    | (go_at_call 9; refine (awake_calls _).mono ?_; rintro _ w2 ⟨_, rfl, rfl, hb⟩; (have M2 := hid (M1.out.keep hb)); clear hb))
  clear M1
  go_cut [5] (fun s wx => s = .int .u16 (kF t) ∧ Hid (Own w wx [.blk m 32 #[.int .i16 a, .int .i16 b, .int .i16 c, .int .i16 d]]))
  case first =>
    -- <one
    have MA := hid (M2.out.alloc 30 #[.int .u16 0, .int .u16 8, .int .u16 64, .int .u16 128, .int .u16 72, .int .u16 192])
    have hc := MA.out.cell (.head _) t
    clear hor htb hb1 hMt hL hR hOk
    rcases (by omega : t = 0 ∨ t = 1 ∨ t = 2 ∨ t = 3 ∨ t = 4 ∨ t = 5) with rfl | rfl | rfl | rfl | rfl | rfl
    all_goals
      go_wp2
      go_meet
      exact ⟨rfl, hid MA.out.tail⟩
    -- one>
  obtain ⟨hs, hM⟩ := hcut
  subst hs
  have M3 := hid hM.out
  clear hM M2
  have M4 := hid (M3.out.alloc 35 (ptA (kP t a b c d)))
  have hm4 := mt_cells (m := m) (a := a) (b := b) (c := c) (d := d) M4.out (by simp)
  go_upto_region 5 with (first
    | ((with_reducible refine gate (N := 23) rfl ?_); refine wpList_run rfl (exec_load_agg agg_mat rfl rfl M3.out (g := m) (t := 32) (cs := #[.int .i16 a, .int .i16 b, .int .i16 c, .int .i16 d]) (vs := [.int .i16 a, .int .i16 b, .int .i16 c, .int .i16 d]) (by simp) rfl rfl) ?_)
    | ((with_reducible refine gate (N := 6) rfl ?_); refine wpList_box_Own rfl (cs := cA ⟨0, 0, 0, 0, [], []⟩ (.slice none 0 0) (.slice none 0 0)) (t := 29) (by first | (go_simp; done) | (go_simp; rfl)) M4.out ?_; intro n w5 M; (have M5 := hid M); clear M)
    | ((with_reducible refine gateSt (t := 29) (p := 6) rfl ?_); refine wpList_store_all (n := 6) (L1 := []) (mid := (cA ⟨0, 0, 0, 0, [], []⟩ (.slice none 0 0) (.slice none 0 0)).toList) (vs := (cA ⟨0, 0, 0, 0, [], []⟩ (.slice (some ⟨wc.heap.size, 0, none⟩) 1 1) (.slice none 0 0)).toList) rfl rfl (by kernel_rfl) rfl rfl rfl rfl rfl (one_all rfl) M5.out ?_; intro w6 M; (have M6 := hid M); clear M))
  clear M3 M4 M5 hm4
  try simp only [Act.put, List.setIfInBounds_toArray, List.set_cons_zero, List.set_cons_succ, List.getElem_toArray, List.getElem_cons_zero, List.getElem_cons_succ]
  have M7 := M6
  clear M6
  revert M7
  generalize wc.heap.size = q
  intro M7
  replace M7 : Hid (Own w w6 [.blk n 29 (cA ⟨0, 0, 0, 0, [], []⟩ (.slice (some ⟨q, 0, none⟩) 1 1) (.slice none 0 0)), .blk q 35 (ptA (kP t a b c d)), .blk m 32 #[.int .i16 a, .int .i16 b, .int .i16 c, .int .i16 d]]) := M7
  go_cut [7] (fun s wx => s = .bool b1 ∧ w6 = wx)
  case first =>
    -- <two
    obtain ⟨e0, e1, e2, e3⟩ := mt_cells (m := m) (a := a) (b := b) (c := c) (d := d) M7.out (by simp)
    clear hOk hR hL hMt htb M7
    have hb1 := hb1.out
    by_cases h1 : b = 0
    · by_cases h2 : c = 0
      · have h1' : (b == 0) = true := by rw [beq_iff_eq]; exact h1
        have h2' : (c == 0) = true := by rw [beq_iff_eq]; exact h2
        go_wp2
        go_meet
        exact ⟨congrArg Value.bool (by rw [← hb1]; simp [h1, h2]), rfl⟩
      · have h1' : (b == 0) = true := by rw [beq_iff_eq]; exact h1
        have h2' : (c == 0) = false := by rw [beq_eq_false_iff_ne]; exact h2
        go_wp2
        go_meet
        exact ⟨congrArg Value.bool (by rw [← hb1]; simp [h1, h2]), rfl⟩
    · have h1' : (b == 0) = false := by rw [beq_eq_false_iff_ne]; exact h1
      go_wp2
      go_meet
      exact ⟨congrArg Value.bool (by rw [← hb1]; simp [h1]), rfl⟩
    -- two>
  obtain ⟨hs, hw⟩ := hcut
  subst hs hw
  go_upto_region 6 with fail
  go_cut [8] (fun s wx => s = .bool tb ∧ Hid (Own w wx [.blk n 29 (cA ⟨0, 0, 0, 0, [], []⟩ (.slice (some ⟨q, 0, none⟩) 1 1) (.slice none 0 0)), .blk q 35 (ptA (kP t a b c d)), .blk m 32 #[.int .i16 a, .int .i16 b, .int .i16 c, .int .i16 d]]))
  case first =>
    -- <three
    obtain ⟨e0, e1, e2, e3⟩ := mt_cells (m := m) (a := a) (b := b) (c := c) (d := d) M7.out.drew (by simp)
    have MW := hid M7.out.drew
    clear hOk hR hL M7
    have hq := mat_cmp a b c d 16384 0 0 16384
    cases b1
    all_goals
      refine wp_region_held_drew (S := fun w' => (loadVar 32 ⟨m, 0, none⟩).run Try.prog w' = .ok (.agg #[.int .i16 a, .int .i16 b, .int .i16 c, .int .i16 d]) w' ∧ w'.cell? ⟨m, 0, none⟩ = some (.int .i16 a) ∧ w'.cell? ⟨m, 3, none⟩ = some (.int .i16 d)) (by kernel_rfl) ⟨run_load_agg (P := Try.prog) agg_mat (g := m) (off := 0) (vs := [.int .i16 a, .int .i16 b, .int .i16 c, .int .i16 d]) (MW.out.heap (t := 32) (cs := #[.int .i16 a, .int .i16 b, .int .i16 c, .int .i16 d]) (by simp)) rfl rfl, e0, e3⟩ (fun hHeld => ?_)
      repeat (first | (refine wpAnyH_take (i := 0) (v := ?_) rfl (by kernel_rfl) (by decide +kernel) (by decide +kernel) (fun _ _ _ h => h) ?_ (by assumption) ?_; rotate_left; (first | (refine yields_load (by rfl) rfl rfl ?_; intro w hSw; (try dsimp only at hSw); go_split_ands; assumption) | (refine Or.inl ⟨by rfl, ?_⟩; intro w hSw; (try dsimp only at hSw); go_simp; done) | (refine Or.inl ⟨by rfl, ?_⟩; intro w hSw; (try dsimp only at hSw); go_simp; with_reducible rfl) | exact Or.inr ⟨by rfl, rfl⟩ | exact Or.inr ⟨by rfl, by rfl⟩); (try simp only [Act.put, List.setIfInBounds_toArray, List.set_cons_zero, List.set_cons_succ, List.getElem_toArray, List.getElem_cons_zero, List.getElem_cons_succ])) | (refine wpAnyH_take (i := 3) (v := ?_) rfl (by kernel_rfl) (by decide +kernel) (by decide +kernel) (fun _ _ _ h => h) ?_ (by assumption) ?_; rotate_left; (first | (refine yields_load (by rfl) rfl rfl ?_; intro w hSw; (try dsimp only at hSw); go_split_ands; assumption) | (refine Or.inl ⟨by rfl, ?_⟩; intro w hSw; (try dsimp only at hSw); go_simp; done) | (refine Or.inl ⟨by rfl, ?_⟩; intro w hSw; (try dsimp only at hSw); go_simp; with_reducible rfl) | exact Or.inr ⟨by rfl, rfl⟩ | exact Or.inr ⟨by rfl, by rfl⟩); (try simp only [Act.put, List.setIfInBounds_toArray, List.set_cons_zero, List.set_cons_succ, List.getElem_toArray, List.getElem_cons_zero, List.getElem_cons_succ])) | (refine wpAnyH_take (i := 4) (v := ?_) rfl (by kernel_rfl) (by decide +kernel) (by decide +kernel) (fun _ _ _ h => h) ?_ (by assumption) ?_; rotate_left; (first | (refine yields_load (by rfl) rfl rfl ?_; intro w hSw; (try dsimp only at hSw); go_split_ands; assumption) | (refine Or.inl ⟨by rfl, ?_⟩; intro w hSw; (try dsimp only at hSw); go_simp; done) | (refine Or.inl ⟨by rfl, ?_⟩; intro w hSw; (try dsimp only at hSw); go_simp; with_reducible rfl) | exact Or.inr ⟨by rfl, rfl⟩ | exact Or.inr ⟨by rfl, by rfl⟩); (try simp only [Act.put, List.setIfInBounds_toArray, List.set_cons_zero, List.set_cons_succ, List.getElem_toArray, List.getElem_cons_zero, List.getElem_cons_succ])) | (refine wpAnyH_take (i := 5) (v := ?_) rfl (by kernel_rfl) (by decide +kernel) (by decide +kernel) (fun _ _ _ h => h) ?_ (by assumption) ?_; rotate_left; (first | (refine yields_load (by rfl) rfl rfl ?_; intro w hSw; (try dsimp only at hSw); go_split_ands; assumption) | (refine Or.inl ⟨by rfl, ?_⟩; intro w hSw; (try dsimp only at hSw); go_simp; done) | (refine Or.inl ⟨by rfl, ?_⟩; intro w hSw; (try dsimp only at hSw); go_simp; with_reducible rfl) | exact Or.inr ⟨by rfl, rfl⟩ | exact Or.inr ⟨by rfl, by rfl⟩); (try simp only [Act.put, List.setIfInBounds_toArray, List.set_cons_zero, List.set_cons_succ, List.getElem_toArray, List.getElem_cons_zero, List.getElem_cons_succ])) | (refine wpAnyH_take (i := 6) (v := ?_) rfl (by kernel_rfl) (by decide +kernel) (by decide +kernel) (fun _ _ _ h => h) ?_ (by assumption) ?_; rotate_left; (first | (refine yields_load (by rfl) rfl rfl ?_; intro w hSw; (try dsimp only at hSw); go_split_ands; assumption) | (refine Or.inl ⟨by rfl, ?_⟩; intro w hSw; (try dsimp only at hSw); go_simp; done) | (refine Or.inl ⟨by rfl, ?_⟩; intro w hSw; (try dsimp only at hSw); go_simp; with_reducible rfl) | exact Or.inr ⟨by rfl, rfl⟩ | exact Or.inr ⟨by rfl, by rfl⟩); (try simp only [Act.put, List.setIfInBounds_toArray, List.set_cons_zero, List.set_cons_succ, List.getElem_toArray, List.getElem_cons_zero, List.getElem_cons_succ])) | (refine wpAnyH_take (i := 7) (v := ?_) rfl (by kernel_rfl) (by decide +kernel) (by decide +kernel) (fun _ _ _ h => h) ?_ (by assumption) ?_; rotate_left; (first | (refine yields_load (by rfl) rfl rfl ?_; intro w hSw; (try dsimp only at hSw); go_split_ands; assumption) | (refine Or.inl ⟨by rfl, ?_⟩; intro w hSw; (try dsimp only at hSw); go_simp; done) | (refine Or.inl ⟨by rfl, ?_⟩; intro w hSw; (try dsimp only at hSw); go_simp; with_reducible rfl) | exact Or.inr ⟨by rfl, rfl⟩ | exact Or.inr ⟨by rfl, by rfl⟩); (try simp only [Act.put, List.setIfInBounds_toArray, List.set_cons_zero, List.set_cons_succ, List.getElem_toArray, List.getElem_cons_zero, List.getElem_cons_succ])) | (refine wpAnyH_take (i := 8) (v := ?_) rfl (by kernel_rfl) (by decide +kernel) (by decide +kernel) (fun _ _ _ h => h) ?_ (by assumption) ?_; rotate_left; (first | (refine yields_load (by rfl) rfl rfl ?_; intro w hSw; (try dsimp only at hSw); go_split_ands; assumption) | (refine Or.inl ⟨by rfl, ?_⟩; intro w hSw; (try dsimp only at hSw); go_simp; done) | (refine Or.inl ⟨by rfl, ?_⟩; intro w hSw; (try dsimp only at hSw); go_simp; with_reducible rfl) | exact Or.inr ⟨by rfl, rfl⟩ | exact Or.inr ⟨by rfl, by rfl⟩); (try simp only [Act.put, List.setIfInBounds_toArray, List.set_cons_zero, List.set_cons_succ, List.getElem_toArray, List.getElem_cons_zero, List.getElem_cons_succ])) | (refine wpAnyH_take (i := 9) (v := ?_) rfl (by kernel_rfl) (by decide +kernel) (by decide +kernel) (fun _ _ _ h => h) ?_ (by assumption) ?_; rotate_left; (first | (refine yields_load (by rfl) rfl rfl ?_; intro w hSw; (try dsimp only at hSw); go_split_ands; assumption) | (refine Or.inl ⟨by rfl, ?_⟩; intro w hSw; (try dsimp only at hSw); go_simp; done) | (refine Or.inl ⟨by rfl, ?_⟩; intro w hSw; (try dsimp only at hSw); go_simp; with_reducible rfl) | exact Or.inr ⟨by rfl, rfl⟩ | exact Or.inr ⟨by rfl, by rfl⟩); (try simp only [Act.put, List.setIfInBounds_toArray, List.set_cons_zero, List.set_cons_succ, List.getElem_toArray, List.getElem_cons_zero, List.getElem_cons_succ])) | (refine wpAnyH_take (i := 10) (v := ?_) rfl (by kernel_rfl) (by decide +kernel) (by decide +kernel) (fun _ _ _ h => h) ?_ (by assumption) ?_; rotate_left; (first | (refine yields_load (by rfl) rfl rfl ?_; intro w hSw; (try dsimp only at hSw); go_split_ands; assumption) | (refine Or.inl ⟨by rfl, ?_⟩; intro w hSw; (try dsimp only at hSw); go_simp; done) | (refine Or.inl ⟨by rfl, ?_⟩; intro w hSw; (try dsimp only at hSw); go_simp; with_reducible rfl) | exact Or.inr ⟨by rfl, rfl⟩ | exact Or.inr ⟨by rfl, by rfl⟩); (try simp only [Act.put, List.setIfInBounds_toArray, List.set_cons_zero, List.set_cons_succ, List.getElem_toArray, List.getElem_cons_zero, List.getElem_cons_succ])) | (refine wpAnyH_take (i := 11) (v := ?_) rfl (by kernel_rfl) (by decide +kernel) (by decide +kernel) (fun _ _ _ h => h) ?_ (by assumption) ?_; rotate_left; (first | (refine yields_load (by rfl) rfl rfl ?_; intro w hSw; (try dsimp only at hSw); go_split_ands; assumption) | (refine Or.inl ⟨by rfl, ?_⟩; intro w hSw; (try dsimp only at hSw); go_simp; done) | (refine Or.inl ⟨by rfl, ?_⟩; intro w hSw; (try dsimp only at hSw); go_simp; with_reducible rfl) | exact Or.inr ⟨by rfl, rfl⟩ | exact Or.inr ⟨by rfl, by rfl⟩); (try simp only [Act.put, List.setIfInBounds_toArray, List.set_cons_zero, List.set_cons_succ, List.getElem_toArray, List.getElem_cons_zero, List.getElem_cons_succ])) | (refine wpAnyH_take (i := 13) (v := ?_) rfl (by kernel_rfl) (by decide +kernel) (by decide +kernel) (fun _ _ _ h => h) ?_ (by assumption) ?_; rotate_left; (first | (refine yields_load (by rfl) rfl rfl ?_; intro w hSw; (try dsimp only at hSw); go_split_ands; assumption) | (refine Or.inl ⟨by rfl, ?_⟩; intro w hSw; (try dsimp only at hSw); go_simp; done) | (refine Or.inl ⟨by rfl, ?_⟩; intro w hSw; (try dsimp only at hSw); go_simp; with_reducible rfl) | exact Or.inr ⟨by rfl, rfl⟩ | exact Or.inr ⟨by rfl, by rfl⟩); (try simp only [Act.put, List.setIfInBounds_toArray, List.set_cons_zero, List.set_cons_succ, List.getElem_toArray, List.getElem_cons_zero, List.getElem_cons_succ])) | (refine wpAnyH_take (i := 14) (v := ?_) rfl (by kernel_rfl) (by decide +kernel) (by decide +kernel) (fun _ _ _ h => h) ?_ (by assumption) ?_; rotate_left; (first | (refine yields_load (by rfl) rfl rfl ?_; intro w hSw; (try dsimp only at hSw); go_split_ands; assumption) | (refine Or.inl ⟨by rfl, ?_⟩; intro w hSw; (try dsimp only at hSw); go_simp; done) | (refine Or.inl ⟨by rfl, ?_⟩; intro w hSw; (try dsimp only at hSw); go_simp; with_reducible rfl) | exact Or.inr ⟨by rfl, rfl⟩ | exact Or.inr ⟨by rfl, by rfl⟩); (try simp only [Act.put, List.setIfInBounds_toArray, List.set_cons_zero, List.set_cons_succ, List.getElem_toArray, List.getElem_cons_zero, List.getElem_cons_succ])))
      refine wpAnyH_ready (rs := [1]) (by decide +kernel) (by simp) ?_; refine AllReadyH.cons rfl (fun K hK => ?_) AllReadyH.nil; go_simp
      refine (unit_calls _).mono ?_
      rintro _ w7 ⟨_, rfl, rfl, hb⟩
      have M8 := hid (MW.out.keep hb)
      clear hb
      go_wp2_with fail
      have hc := And.intro (run_load_agg (P := Try.prog) agg_mat (g := m) (off := 0) (vs := [.int .i16 a, .int .i16 b, .int .i16 c, .int .i16 d]) (M8.out.heap (t := 32) (cs := #[.int .i16 a, .int .i16 b, .int .i16 c, .int .i16 d]) (by simp)) rfl rfl) (And.intro (M8.out.cell (g := m) (t := 32) (cs := #[.int .i16 a, .int .i16 b, .int .i16 c, .int .i16 d]) (by simp) 0) (M8.out.cell (g := m) (t := 32) (cs := #[.int .i16 a, .int .i16 b, .int .i16 c, .int .i16 d]) (by simp) 3))
      refine hK.out _ _ hc (fun hHeld => ?_); clear hK K; (try simp only [Act.put, List.setIfInBounds_toArray, List.set_cons_zero, List.set_cons_succ, List.getElem_toArray, List.getElem_cons_zero, List.getElem_cons_succ])
      clear hc
      repeat (first | (refine wpAnyH_take (i := 2) (v := ?_) rfl (by kernel_rfl) (by decide +kernel) (by decide +kernel) (fun _ _ _ h => h) ?_ (by assumption) ?_; rotate_left; (first | (refine yields_load (by rfl) rfl rfl ?_; intro w hSw; (try dsimp only at hSw); go_split_ands; assumption) | (refine Or.inl ⟨by rfl, ?_⟩; intro w hSw; (try dsimp only at hSw); go_simp; done) | (refine Or.inl ⟨by rfl, ?_⟩; intro w hSw; (try dsimp only at hSw); go_simp; with_reducible rfl) | exact Or.inr ⟨by rfl, rfl⟩ | exact Or.inr ⟨by rfl, by rfl⟩); (try simp only [Act.put, List.setIfInBounds_toArray, List.set_cons_zero, List.set_cons_succ, List.getElem_toArray, List.getElem_cons_zero, List.getElem_cons_succ])) | (refine wpAnyH_take (i := 4) (v := ?_) rfl (by kernel_rfl) (by decide +kernel) (by decide +kernel) (fun _ _ _ h => h) ?_ (by assumption) ?_; rotate_left; (first | (refine yields_load (by rfl) rfl rfl ?_; intro w hSw; (try dsimp only at hSw); go_split_ands; assumption) | (refine Or.inl ⟨by rfl, ?_⟩; intro w hSw; (try dsimp only at hSw); go_simp; done) | (refine Or.inl ⟨by rfl, ?_⟩; intro w hSw; (try dsimp only at hSw); go_simp; with_reducible rfl) | exact Or.inr ⟨by rfl, rfl⟩ | exact Or.inr ⟨by rfl, by rfl⟩); (try simp only [Act.put, List.setIfInBounds_toArray, List.set_cons_zero, List.set_cons_succ, List.getElem_toArray, List.getElem_cons_zero, List.getElem_cons_succ])) | (refine wpAnyH_take (i := 5) (v := ?_) rfl (by kernel_rfl) (by decide +kernel) (by decide +kernel) (fun _ _ _ h => h) ?_ (by assumption) ?_; rotate_left; (first | (refine yields_load (by rfl) rfl rfl ?_; intro w hSw; (try dsimp only at hSw); go_split_ands; assumption) | (refine Or.inl ⟨by rfl, ?_⟩; intro w hSw; (try dsimp only at hSw); go_simp; done) | (refine Or.inl ⟨by rfl, ?_⟩; intro w hSw; (try dsimp only at hSw); go_simp; with_reducible rfl) | exact Or.inr ⟨by rfl, rfl⟩ | exact Or.inr ⟨by rfl, by rfl⟩); (try simp only [Act.put, List.setIfInBounds_toArray, List.set_cons_zero, List.set_cons_succ, List.getElem_toArray, List.getElem_cons_zero, List.getElem_cons_succ])) | (refine wpAnyH_take (i := 6) (v := ?_) rfl (by kernel_rfl) (by decide +kernel) (by decide +kernel) (fun _ _ _ h => h) ?_ (by assumption) ?_; rotate_left; (first | (refine yields_load (by rfl) rfl rfl ?_; intro w hSw; (try dsimp only at hSw); go_split_ands; assumption) | (refine Or.inl ⟨by rfl, ?_⟩; intro w hSw; (try dsimp only at hSw); go_simp; done) | (refine Or.inl ⟨by rfl, ?_⟩; intro w hSw; (try dsimp only at hSw); go_simp; with_reducible rfl) | exact Or.inr ⟨by rfl, rfl⟩ | exact Or.inr ⟨by rfl, by rfl⟩); (try simp only [Act.put, List.setIfInBounds_toArray, List.set_cons_zero, List.set_cons_succ, List.getElem_toArray, List.getElem_cons_zero, List.getElem_cons_succ])) | (refine wpAnyH_take (i := 7) (v := ?_) rfl (by kernel_rfl) (by decide +kernel) (by decide +kernel) (fun _ _ _ h => h) ?_ (by assumption) ?_; rotate_left; (first | (refine yields_load (by rfl) rfl rfl ?_; intro w hSw; (try dsimp only at hSw); go_split_ands; assumption) | (refine Or.inl ⟨by rfl, ?_⟩; intro w hSw; (try dsimp only at hSw); go_simp; done) | (refine Or.inl ⟨by rfl, ?_⟩; intro w hSw; (try dsimp only at hSw); go_simp; with_reducible rfl) | exact Or.inr ⟨by rfl, rfl⟩ | exact Or.inr ⟨by rfl, by rfl⟩); (try simp only [Act.put, List.setIfInBounds_toArray, List.set_cons_zero, List.set_cons_succ, List.getElem_toArray, List.getElem_cons_zero, List.getElem_cons_succ])) | (refine wpAnyH_take (i := 8) (v := ?_) rfl (by kernel_rfl) (by decide +kernel) (by decide +kernel) (fun _ _ _ h => h) ?_ (by assumption) ?_; rotate_left; (first | (refine yields_load (by rfl) rfl rfl ?_; intro w hSw; (try dsimp only at hSw); go_split_ands; assumption) | (refine Or.inl ⟨by rfl, ?_⟩; intro w hSw; (try dsimp only at hSw); go_simp; done) | (refine Or.inl ⟨by rfl, ?_⟩; intro w hSw; (try dsimp only at hSw); go_simp; with_reducible rfl) | exact Or.inr ⟨by rfl, rfl⟩ | exact Or.inr ⟨by rfl, by rfl⟩); (try simp only [Act.put, List.setIfInBounds_toArray, List.set_cons_zero, List.set_cons_succ, List.getElem_toArray, List.getElem_cons_zero, List.getElem_cons_succ])) | (refine wpAnyH_take (i := 9) (v := ?_) rfl (by kernel_rfl) (by decide +kernel) (by decide +kernel) (fun _ _ _ h => h) ?_ (by assumption) ?_; rotate_left; (first | (refine yields_load (by rfl) rfl rfl ?_; intro w hSw; (try dsimp only at hSw); go_split_ands; assumption) | (refine Or.inl ⟨by rfl, ?_⟩; intro w hSw; (try dsimp only at hSw); go_simp; done) | (refine Or.inl ⟨by rfl, ?_⟩; intro w hSw; (try dsimp only at hSw); go_simp; with_reducible rfl) | exact Or.inr ⟨by rfl, rfl⟩ | exact Or.inr ⟨by rfl, by rfl⟩); (try simp only [Act.put, List.setIfInBounds_toArray, List.set_cons_zero, List.set_cons_succ, List.getElem_toArray, List.getElem_cons_zero, List.getElem_cons_succ])) | (refine wpAnyH_take (i := 10) (v := ?_) rfl (by kernel_rfl) (by decide +kernel) (by decide +kernel) (fun _ _ _ h => h) ?_ (by assumption) ?_; rotate_left; (first | (refine yields_load (by rfl) rfl rfl ?_; intro w hSw; (try dsimp only at hSw); go_split_ands; assumption) | (refine Or.inl ⟨by rfl, ?_⟩; intro w hSw; (try dsimp only at hSw); go_simp; done) | (refine Or.inl ⟨by rfl, ?_⟩; intro w hSw; (try dsimp only at hSw); go_simp; with_reducible rfl) | exact Or.inr ⟨by rfl, rfl⟩ | exact Or.inr ⟨by rfl, by rfl⟩); (try simp only [Act.put, List.setIfInBounds_toArray, List.set_cons_zero, List.set_cons_succ, List.getElem_toArray, List.getElem_cons_zero, List.getElem_cons_succ])) | (refine wpAnyH_take (i := 14) (v := ?_) rfl (by kernel_rfl) (by decide +kernel) (by decide +kernel) (fun _ _ _ h => h) ?_ (by assumption) ?_; rotate_left; (first | (refine yields_load (by rfl) rfl rfl ?_; intro w hSw; (try dsimp only at hSw); go_split_ands; assumption) | (refine Or.inl ⟨by rfl, ?_⟩; intro w hSw; (try dsimp only at hSw); go_simp; done) | (refine Or.inl ⟨by rfl, ?_⟩; intro w hSw; (try dsimp only at hSw); go_simp; with_reducible rfl) | exact Or.inr ⟨by rfl, rfl⟩ | exact Or.inr ⟨by rfl, by rfl⟩); (try simp only [Act.put, List.setIfInBounds_toArray, List.set_cons_zero, List.set_cons_succ, List.getElem_toArray, List.getElem_cons_zero, List.getElem_cons_succ])))
      refine wpAnyH_ready (rs := [12]) (by decide +kernel) (by simp) ?_; refine AllReadyH.cons rfl (fun K hK => ?_) AllReadyH.nil; go_simp
    · have M9 := hid (M8.out.alloc 4 #[.bool (decide (a = 16384) && (decide (b = 0) && (decide (c = 0) && decide (d = 16384)))), .bool (false), .bool false, .bool true, .bool false, .bool false])
      have hcell := M9.out.cell (.head _) t
      have hc := And.intro (run_load_agg (P := Try.prog) agg_mat (g := m) (off := 0) (vs := [.int .i16 a, .int .i16 b, .int .i16 c, .int .i16 d]) ((M9.out).heap (t := 32) (cs := #[.int .i16 a, .int .i16 b, .int .i16 c, .int .i16 d]) (by simp)) rfl rfl) (And.intro ((M9.out).cell (g := m) (t := 32) (cs := #[.int .i16 a, .int .i16 b, .int .i16 c, .int .i16 d]) (by simp) 0) ((M9.out).cell (g := m) (t := 32) (cs := #[.int .i16 a, .int .i16 b, .int .i16 c, .int .i16 d]) (by simp) 3))
      refine hK.out _ _ hc (fun hHeld => ?_); clear hK K; (try simp only [Act.put, List.setIfInBounds_toArray, List.set_cons_zero, List.set_cons_succ, List.getElem_toArray, List.getElem_cons_zero, List.getElem_cons_succ])
      rcases (by omega : t = 0 ∨ t = 1 ∨ t = 2 ∨ t = 3 ∨ t = 4 ∨ t = 5) with rfl | rfl | rfl | rfl | rfl | rfl
      all_goals
        repeat (first | (refine wpAnyH_take (i := 15) (v := ?_) rfl (by kernel_rfl) (by decide +kernel) (by decide +kernel) (fun _ _ _ h => h) ?_ (by assumption) ?_; rotate_left; (first | (refine yields_load (by rfl) rfl rfl ?_; intro w hSw; (try dsimp only at hSw); go_split_ands; assumption) | (refine Or.inl ⟨by rfl, ?_⟩; intro w hSw; (try dsimp only at hSw); go_simp; done) | (refine Or.inl ⟨by rfl, ?_⟩; intro w hSw; (try dsimp only at hSw); go_simp; with_reducible rfl) | exact Or.inr ⟨by rfl, rfl⟩ | exact Or.inr ⟨by rfl, by rfl⟩); (try simp only [Act.put, List.setIfInBounds_toArray, List.set_cons_zero, List.set_cons_succ, List.getElem_toArray, List.getElem_cons_zero, List.getElem_cons_succ])))
        refine wpAnyH_ready (rs := [16]) (by decide +kernel) (by simp) ?_; refine AllReadyH.cons rfl (fun K hK => ?_) AllReadyH.nil; go_simp
        refine hK.out _ _ hc (fun hHeld => ?_); clear hK K; (try simp only [Act.put, List.setIfInBounds_toArray, List.set_cons_zero, List.set_cons_succ, List.getElem_toArray, List.getElem_cons_zero, List.getElem_cons_succ])
        repeat (first | (refine wpAnyH_take (i := 17) (v := ?_) rfl (by kernel_rfl) (by decide +kernel) (by decide +kernel) (fun _ _ _ h => h) ?_ (by assumption) ?_; rotate_left; (first | (refine yields_load (by rfl) rfl rfl ?_; intro w hSw; (try dsimp only at hSw); go_split_ands; assumption) | (refine Or.inl ⟨by rfl, ?_⟩; intro w hSw; (try dsimp only at hSw); go_simp; done) | (refine Or.inl ⟨by rfl, ?_⟩; intro w hSw; (try dsimp only at hSw); go_simp; with_reducible rfl) | exact Or.inr ⟨by rfl, rfl⟩ | exact Or.inr ⟨by rfl, by rfl⟩); (try simp only [Act.put, List.setIfInBounds_toArray, List.set_cons_zero, List.set_cons_succ, List.getElem_toArray, List.getElem_cons_zero, List.getElem_cons_succ])))
        refine wpAnyH_done (by kernel_rfl) ?_ _
        go_wp2_with fail
        go_meet
        exact ⟨congrArg Value.bool (by rw [← htb.out]; first | (simp only [hMt.out.1, hMt.out.2.1, hMt.out.2.2.1, hMt.out.2.2.2.1, hMt.out.2.2.2.2.1, hMt.out.2.2.2.2.2]; done) | (simp only [hMt.out.1, hMt.out.2.1, hMt.out.2.2.1, hMt.out.2.2.2.1, hMt.out.2.2.2.2.1, hMt.out.2.2.2.2.2]; have hb1 := hb1.out; simp only [decide_eq_true_eq, decide_eq_false_iff_not] at hb1; rw [Bool.eq_iff_iff]; simp; try omega)), hid M9.out.tail⟩
    · have M9 := hid (M8.out.alloc 4 #[.bool (decide (a = 16384) && (decide (b = 0) && (decide (c = 0) && decide (d = 16384)))), .bool (a == d), .bool true, .bool true, .bool false, .bool false])
      have hcell := M9.out.cell (.head _) t
      have hc := And.intro (run_load_agg (P := Try.prog) agg_mat (g := m) (off := 0) (vs := [.int .i16 a, .int .i16 b, .int .i16 c, .int .i16 d]) ((M9.out).heap (t := 32) (cs := #[.int .i16 a, .int .i16 b, .int .i16 c, .int .i16 d]) (by simp)) rfl rfl) (And.intro ((M9.out).cell (g := m) (t := 32) (cs := #[.int .i16 a, .int .i16 b, .int .i16 c, .int .i16 d]) (by simp) 0) ((M9.out).cell (g := m) (t := 32) (cs := #[.int .i16 a, .int .i16 b, .int .i16 c, .int .i16 d]) (by simp) 3))
      refine hK.out _ _ hc (fun hHeld => ?_); clear hK K; (try simp only [Act.put, List.setIfInBounds_toArray, List.set_cons_zero, List.set_cons_succ, List.getElem_toArray, List.getElem_cons_zero, List.getElem_cons_succ])
      rcases (by omega : t = 0 ∨ t = 1 ∨ t = 2 ∨ t = 3 ∨ t = 4 ∨ t = 5) with rfl | rfl | rfl | rfl | rfl | rfl
      all_goals
        repeat (first | (refine wpAnyH_take (i := 15) (v := ?_) rfl (by kernel_rfl) (by decide +kernel) (by decide +kernel) (fun _ _ _ h => h) ?_ (by assumption) ?_; rotate_left; (first | (refine yields_load (by rfl) rfl rfl ?_; intro w hSw; (try dsimp only at hSw); go_split_ands; assumption) | (refine Or.inl ⟨by rfl, ?_⟩; intro w hSw; (try dsimp only at hSw); go_simp; done) | (refine Or.inl ⟨by rfl, ?_⟩; intro w hSw; (try dsimp only at hSw); go_simp; with_reducible rfl) | exact Or.inr ⟨by rfl, rfl⟩ | exact Or.inr ⟨by rfl, by rfl⟩); (try simp only [Act.put, List.setIfInBounds_toArray, List.set_cons_zero, List.set_cons_succ, List.getElem_toArray, List.getElem_cons_zero, List.getElem_cons_succ])))
        refine wpAnyH_ready (rs := [16]) (by decide +kernel) (by simp) ?_; refine AllReadyH.cons rfl (fun K hK => ?_) AllReadyH.nil; go_simp
        refine hK.out _ _ hc (fun hHeld => ?_); clear hK K; (try simp only [Act.put, List.setIfInBounds_toArray, List.set_cons_zero, List.set_cons_succ, List.getElem_toArray, List.getElem_cons_zero, List.getElem_cons_succ])
        repeat (first | (refine wpAnyH_take (i := 17) (v := ?_) rfl (by kernel_rfl) (by decide +kernel) (by decide +kernel) (fun _ _ _ h => h) ?_ (by assumption) ?_; rotate_left; (first | (refine yields_load (by rfl) rfl rfl ?_; intro w hSw; (try dsimp only at hSw); go_split_ands; assumption) | (refine Or.inl ⟨by rfl, ?_⟩; intro w hSw; (try dsimp only at hSw); go_simp; done) | (refine Or.inl ⟨by rfl, ?_⟩; intro w hSw; (try dsimp only at hSw); go_simp; with_reducible rfl) | exact Or.inr ⟨by rfl, rfl⟩ | exact Or.inr ⟨by rfl, by rfl⟩); (try simp only [Act.put, List.setIfInBounds_toArray, List.set_cons_zero, List.set_cons_succ, List.getElem_toArray, List.getElem_cons_zero, List.getElem_cons_succ])))
        refine wpAnyH_done (by kernel_rfl) ?_ _
        go_wp2_with fail
        go_meet
        exact ⟨congrArg Value.bool (by rw [← htb.out]; first | (simp only [hMt.out.1, hMt.out.2.1, hMt.out.2.2.1, hMt.out.2.2.2.1, hMt.out.2.2.2.2.1, hMt.out.2.2.2.2.2]; done) | (simp only [hMt.out.1, hMt.out.2.1, hMt.out.2.2.1, hMt.out.2.2.2.1, hMt.out.2.2.2.2.1, hMt.out.2.2.2.2.2]; have hb1 := hb1.out; simp only [decide_eq_true_eq, decide_eq_false_iff_not] at hb1; rw [Bool.eq_iff_iff]; simp; try omega)), hid M9.out.tail⟩
    -- three>
  obtain ⟨hs, hM⟩ := hcut
  subst hs
  have M9 := hid hM.out
  clear hM M7 hMt htb hb1
  go_upto_region 7 with fail
  go_cut [9] (fun s wx => s = .int .i64 ((16 + kS t : Nat) : Int) ∧ Hid (Own w wx [.blk n 29 (cA ⟨0, 0, 0, 0, [], []⟩ (.slice (some ⟨q, 0, none⟩) 1 1) (.slice none 0 0)), .blk q 35 (ptA (kP t a b c d)), .blk m 32 #[.int .i16 a, .int .i16 b, .int .i16 c, .int .i16 d]]))
  case first =>
    -- <four
    have MA := hid (M9.out.alloc 3 #[.int .i64 0, .int .i64 2, .int .i64 4, .int .i64 8, .int .i64 0, .int .i64 0])
    have hc := MA.out.cell (.head _) t
    clear hOk hR hL hor
    rcases (by omega : t = 0 ∨ t = 1 ∨ t = 2 ∨ t = 3 ∨ t = 4 ∨ t = 5) with rfl | rfl | rfl | rfl | rfl | rfl
    all_goals
      go_wp2
      go_meet
      exact ⟨rfl, hid MA.out.tail⟩
    -- four>
  obtain ⟨hs, hM⟩ := hcut
  subst hs
  have M10 := hid hM.out
  clear hM M9
  have hG := hid (show CAt _ (kG t a b c d) (.slice (some ⟨q, 0, none⟩) 1 1) (.slice none 0 0) from ⟨SliceAt.built M10.out (.tail _ (.head _)) 8 1 rfl (by unfold maxLen; omega), SliceAt.nil _ _ _⟩)
  cases tb
  · -- <five
    go_wp2_with (first
      | ((with_reducible refine gate (N := 58) rfl ?_); refine wpList_run rfl (exec_load_agg agg_cg rfl rfl M10.out (g := n) (t := 29) (cs := cA ⟨0, 0, 0, 0, [], []⟩ (.slice (some ⟨q, 0, none⟩) 1 1) (.slice none 0 0)) (vs := (cA ⟨0, 0, 0, 0, [], []⟩ (.slice (some ⟨q, 0, none⟩) 1 1) (.slice none 0 0)).toList) (by simp) rfl rfl) ?_)
      | (go_at_call 13; (refine (cBytes_no _ hOk.out hG.out hR.out).mono ?_); rintro _ w12 ⟨_, rfl, M⟩; obtain ⟨A12, c12, rfl⟩ := M.form (.head _); (have M12 := hid (M10.out.lift M)); (have hG12 := hid (hG.out.below M.below)); clear M)
      | ((with_reducible refine gate (N := 62) rfl ?_); refine wpList_run rfl (exec_load_agg agg_cg rfl rfl M12.out (g := n) (t := 29) (cs := cA ⟨0, 0, 0, 0, [], []⟩ (.slice (some ⟨q, 0, none⟩) 1 1) (.slice none 0 0)) (vs := (cA ⟨0, 0, 0, 0, [], []⟩ (.slice (some ⟨q, 0, none⟩) 1 1) (.slice none 0 0)).toList) (by simp) rfl rfl) ?_)
      | (go_at_call 12; (have hC := cRight_calls _ hOk.out hG12.out); rw [hR.out] at hC; ((refine hC.mono ?_); clear hC); rintro _ w13 ⟨_, rfl, rfl, hb⟩; (have M13 := hid (M12.out.keep hb)); clear hb))
    go_ret
    exact .mk ⟨rfl, M13.out.below⟩
    -- five>
  · -- <six
    have hl16 : 16 + kS t ≤ 24 := by
      rcases (by omega : t = 0 ∨ t = 1 ∨ t = 2 ∨ t = 3 ∨ t = 4 ∨ t = 5) with rfl | rfl | rfl | rfl | rfl | rfl <;> decide
    have hB := hid (bytes_cgB (g := kG t a b c d) bytes_nil)
    have hcp := hid (cpS_cgB hOk.out hR.out [])
    rw [List.append_nil] at hcp
    rw [hL.out] at hcp
    have hBy := hid (cBytes_yes _ hOk.out hG.out hR.out)
    rw [hL.out] at hBy
    generalize cgB (kG t a b c d) = LB at *
    go_upto_region 12 with (first
      | ((with_reducible refine gate (N := 58) rfl ?_); refine wpList_run rfl (exec_load_agg agg_cg rfl rfl M10.out (g := n) (t := 29) (cs := cA ⟨0, 0, 0, 0, [], []⟩ (.slice (some ⟨q, 0, none⟩) 1 1) (.slice none 0 0)) (vs := (cA ⟨0, 0, 0, 0, [], []⟩ (.slice (some ⟨q, 0, none⟩) 1 1) (.slice none 0 0)).toList) (by simp) rfl rfl) ?_)
      | (go_at_call 13; (refine hBy.out.mono ?_); rintro _ w12 ⟨_, rfl, M⟩; obtain ⟨A12, c12, rfl⟩ := M.form (.head _); (have M12 := hid (M10.out.lift M)); (have hG12 := hid (hG.out.below M.below)); clear M)
      | (go_at_call 23; (have hC := cParse_some w12 (V := .slice A12 (16 + kS t) c12) (l := LB) (M12.out.bytes (e := 5) (.head _) hL.out) hB.out (by rw [hL.out]; omega) hcp.out); ((refine hC.mono ?_); clear hC); rintro _ w13 ⟨_, rfl, vp, vg, -, rfl, M⟩; obtain ⟨Ap, cp, rfl⟩ := M.form (.head _); obtain ⟨Ag, cg, rfl⟩ := M.form (.tail _ (.head _)); obtain ⟨g3, rfl⟩ := M.row_at (.head _) (by simp); (have M13 := hid (M12.out.lift M)); (have hG13 := hid (hG12.out.below M.below)); clear M)
      | ((with_reducible refine gate (N := 11) rfl ?_); refine wpList_box_Own rfl (cs := cNil) (t := 29) (by first | (go_simp; done) | (go_simp; rfl)) M13.out ?_; intro r w14 M; (have M14 := hid M); clear M)
      | ((with_reducible refine gateSt (t := 29) (p := 11) rfl ?_); refine wpList_store_all (n := 6) (L1 := []) (mid := cNil.toList) (vs := (cA ⟨0, 0, 0, 0, [], []⟩ (.slice (some ⟨g3, 0, none⟩) 1 cp) (.slice Ag 0 cg)).toList) rfl rfl (by kernel_rfl) rfl rfl rfl rfl rfl (one_all rfl) M14.out ?_; intro w15 M; (have M15 := hid M); clear M))
    have MX := hid M15.out.drew
    clear M10 M12 M13 M14 M15 hG hG12 hG13 hBy hcp hL hB
    have hG := hid (show CAt w15.drew (kG t a b c d) (.slice (some ⟨q, 0, none⟩) 1 1) (.slice none 0 0) from ⟨SliceAt.built (t := 35) (cs := ptA (kP t a b c d)) MX.out (by simp) 8 1 rfl (by unfold maxLen; omega), SliceAt.nil _ _ _⟩)
    have hq := mat_cmp a b c d a b c d
    rw [decide_eq_true (show a = a ∧ b = b ∧ c = c ∧ d = d from ⟨rfl, rfl, rfl, rfl⟩)] at hq
    have hCR := cRight_calls w15.drew hOk.out hG.out
    rw [hR.out] at hCR
    replace hCR := hid hCR
    refine wp_region_held_drew (S := fun w' => (loadVar 29 ⟨n, 0, none⟩).run Try.prog w' = .ok (.agg (cA ⟨0, 0, 0, 0, [], []⟩ (.slice (some ⟨q, 0, none⟩) 1 1) (.slice none 0 0))) w' ∧ w'.cell? ⟨r, 4, none⟩ = some (.slice (some ⟨g3, 0, none⟩) 1 cp) ∧ (loadVar 32 ⟨g3, 4, none⟩).run Try.prog w' = .ok (.agg #[.int .i16 a, .int .i16 b, .int .i16 c, .int .i16 d]) w' ∧ (loadVar 32 ⟨m, 0, none⟩).run Try.prog w' = .ok (.agg #[.int .i16 a, .int .i16 b, .int .i16 c, .int .i16 d]) w') (by kernel_rfl) (And.intro (run_load_agg (P := Try.prog) agg_cg (g := n) (off := 0) (vs := (cA ⟨0, 0, 0, 0, [], []⟩ (.slice (some ⟨q, 0, none⟩) 1 1) (.slice none 0 0)).toList) (MX.out.heap (t := 29) (cs := cA ⟨0, 0, 0, 0, [], []⟩ (.slice (some ⟨q, 0, none⟩) 1 1) (.slice none 0 0)) (by simp)) rfl rfl) (And.intro (MX.out.cell (g := r) (t := 29) (cs := cA ⟨0, 0, 0, 0, [], []⟩ (.slice (some ⟨g3, 0, none⟩) 1 cp) (.slice Ag 0 cg)) (by simp) 4) (And.intro (row_mat MX.out (ps := [kP t a b c d]) (g := g3) (n := 1) (c := cp) (by simp) rfl (i := 0) (by omega)) (run_load_agg (P := Try.prog) agg_mat (g := m) (off := 0) (vs := [.int .i16 a, .int .i16 b, .int .i16 c, .int .i16 d]) (MX.out.heap (t := 32) (cs := #[.int .i16 a, .int .i16 b, .int .i16 c, .int .i16 d]) (by simp)) rfl rfl)))) (fun hHeld => ?_)
    repeat (first | (refine wpAnyH_take (i := 0) (v := ?_) rfl (by kernel_rfl) (by decide +kernel) (by decide +kernel) (fun _ _ _ h => h) ?_ (by assumption) ?_; rotate_left; (first | (refine yields_load (by rfl) rfl rfl ?_; intro w hSw; (try dsimp only at hSw); go_split_ands; assumption) | (refine Or.inl ⟨by rfl, ?_⟩; intro w hSw; (try dsimp only at hSw); go_simp; done) | (refine Or.inl ⟨by rfl, ?_⟩; intro w hSw; (try dsimp only at hSw); go_simp; with_reducible rfl) | exact Or.inr ⟨by rfl, rfl⟩ | exact Or.inr ⟨by rfl, by rfl⟩); (try simp only [Act.put, List.setIfInBounds_toArray, List.set_cons_zero, List.set_cons_succ, List.getElem_toArray, List.getElem_cons_zero, List.getElem_cons_succ])))
    refine wpAnyH_ready (rs := [1]) (by decide +kernel) (by simp) ?_; refine AllReadyH.cons rfl (fun K hK => ?_) AllReadyH.nil; go_simp
    refine hCR.out.mono ?_
    rintro _ w17 ⟨_, rfl, rfl, hb⟩
    have M17 := hid (MX.out.keep hb)
    clear hb
    go_wp2_with fail
    have hc := (And.intro (run_load_agg (P := Try.prog) agg_cg (g := n) (off := 0) (vs := (cA ⟨0, 0, 0, 0, [], []⟩ (.slice (some ⟨q, 0, none⟩) 1 1) (.slice none 0 0)).toList) (M17.out.heap (t := 29) (cs := cA ⟨0, 0, 0, 0, [], []⟩ (.slice (some ⟨q, 0, none⟩) 1 1) (.slice none 0 0)) (by simp)) rfl rfl) (And.intro (M17.out.cell (g := r) (t := 29) (cs := cA ⟨0, 0, 0, 0, [], []⟩ (.slice (some ⟨g3, 0, none⟩) 1 cp) (.slice Ag 0 cg)) (by simp) 4) (And.intro (row_mat M17.out (ps := [kP t a b c d]) (g := g3) (n := 1) (c := cp) (by simp) rfl (i := 0) (by omega)) (run_load_agg (P := Try.prog) agg_mat (g := m) (off := 0) (vs := [.int .i16 a, .int .i16 b, .int .i16 c, .int .i16 d]) (M17.out.heap (t := 32) (cs := #[.int .i16 a, .int .i16 b, .int .i16 c, .int .i16 d]) (by simp)) rfl rfl))))
    refine hK.out _ _ hc (fun hHeld => ?_); clear hK K; (try simp only [Act.put, List.setIfInBounds_toArray, List.set_cons_zero, List.set_cons_succ, List.getElem_toArray, List.getElem_cons_zero, List.getElem_cons_succ])
    clear hc
    repeat (first | (refine wpAnyH_take (i := 2) (v := ?_) rfl (by kernel_rfl) (by decide +kernel) (by decide +kernel) (fun _ _ _ h => h) ?_ (by assumption) ?_; rotate_left; (first | (refine yields_load (by rfl) rfl rfl ?_; intro w hSw; (try dsimp only at hSw); go_split_ands; assumption) | (refine Or.inl ⟨by rfl, ?_⟩; intro w hSw; (try dsimp only at hSw); go_simp; done) | (refine Or.inl ⟨by rfl, ?_⟩; intro w hSw; (try dsimp only at hSw); go_simp; with_reducible rfl) | exact Or.inr ⟨by rfl, rfl⟩ | exact Or.inr ⟨by rfl, by rfl⟩); (try simp only [Act.put, List.setIfInBounds_toArray, List.set_cons_zero, List.set_cons_succ, List.getElem_toArray, List.getElem_cons_zero, List.getElem_cons_succ])) | (refine wpAnyH_take (i := 3) (v := ?_) rfl (by kernel_rfl) (by decide +kernel) (by decide +kernel) (fun _ _ _ h => h) ?_ (by assumption) ?_; rotate_left; (first | (refine yields_load (by rfl) rfl rfl ?_; intro w hSw; (try dsimp only at hSw); go_split_ands; assumption) | (refine Or.inl ⟨by rfl, ?_⟩; intro w hSw; (try dsimp only at hSw); go_simp; done) | (refine Or.inl ⟨by rfl, ?_⟩; intro w hSw; (try dsimp only at hSw); go_simp; with_reducible rfl) | exact Or.inr ⟨by rfl, rfl⟩ | exact Or.inr ⟨by rfl, by rfl⟩); (try simp only [Act.put, List.setIfInBounds_toArray, List.set_cons_zero, List.set_cons_succ, List.getElem_toArray, List.getElem_cons_zero, List.getElem_cons_succ])) | (refine wpAnyH_take (i := 4) (v := ?_) rfl (by kernel_rfl) (by decide +kernel) (by decide +kernel) (fun _ _ _ h => h) ?_ (by assumption) ?_; rotate_left; (first | (refine yields_load (by rfl) rfl rfl ?_; intro w hSw; (try dsimp only at hSw); go_split_ands; assumption) | (refine Or.inl ⟨by rfl, ?_⟩; intro w hSw; (try dsimp only at hSw); go_simp; done) | (refine Or.inl ⟨by rfl, ?_⟩; intro w hSw; (try dsimp only at hSw); go_simp; with_reducible rfl) | exact Or.inr ⟨by rfl, rfl⟩ | exact Or.inr ⟨by rfl, by rfl⟩); (try simp only [Act.put, List.setIfInBounds_toArray, List.set_cons_zero, List.set_cons_succ, List.getElem_toArray, List.getElem_cons_zero, List.getElem_cons_succ])) | (refine wpAnyH_take (i := 5) (v := ?_) rfl (by kernel_rfl) (by decide +kernel) (by decide +kernel) (fun _ _ _ h => h) ?_ (by assumption) ?_; rotate_left; (first | (refine yields_load (by rfl) rfl rfl ?_; intro w hSw; (try dsimp only at hSw); go_split_ands; assumption) | (refine Or.inl ⟨by rfl, ?_⟩; intro w hSw; (try dsimp only at hSw); go_simp; done) | (refine Or.inl ⟨by rfl, ?_⟩; intro w hSw; (try dsimp only at hSw); go_simp; with_reducible rfl) | exact Or.inr ⟨by rfl, rfl⟩ | exact Or.inr ⟨by rfl, by rfl⟩); (try simp only [Act.put, List.setIfInBounds_toArray, List.set_cons_zero, List.set_cons_succ, List.getElem_toArray, List.getElem_cons_zero, List.getElem_cons_succ])) | (refine wpAnyH_take (i := 6) (v := ?_) rfl (by kernel_rfl) (by decide +kernel) (by decide +kernel) (fun _ _ _ h => h) ?_ (by assumption) ?_; rotate_left; (first | (refine yields_load (by rfl) rfl rfl ?_; intro w hSw; (try dsimp only at hSw); go_split_ands; assumption) | (refine Or.inl ⟨by rfl, ?_⟩; intro w hSw; (try dsimp only at hSw); go_simp; done) | (refine Or.inl ⟨by rfl, ?_⟩; intro w hSw; (try dsimp only at hSw); go_simp; with_reducible rfl) | exact Or.inr ⟨by rfl, rfl⟩ | exact Or.inr ⟨by rfl, by rfl⟩); (try simp only [Act.put, List.setIfInBounds_toArray, List.set_cons_zero, List.set_cons_succ, List.getElem_toArray, List.getElem_cons_zero, List.getElem_cons_succ])) | (refine wpAnyH_take (i := 7) (v := ?_) rfl (by kernel_rfl) (by decide +kernel) (by decide +kernel) (fun _ _ _ h => h) ?_ (by assumption) ?_; rotate_left; (first | (refine yields_load (by rfl) rfl rfl ?_; intro w hSw; (try dsimp only at hSw); go_split_ands; assumption) | (refine Or.inl ⟨by rfl, ?_⟩; intro w hSw; (try dsimp only at hSw); go_simp; done) | (refine Or.inl ⟨by rfl, ?_⟩; intro w hSw; (try dsimp only at hSw); go_simp; with_reducible rfl) | exact Or.inr ⟨by rfl, rfl⟩ | exact Or.inr ⟨by rfl, by rfl⟩); (try simp only [Act.put, List.setIfInBounds_toArray, List.set_cons_zero, List.set_cons_succ, List.getElem_toArray, List.getElem_cons_zero, List.getElem_cons_succ])) | (refine wpAnyH_take (i := 8) (v := ?_) rfl (by kernel_rfl) (by decide +kernel) (by decide +kernel) (fun _ _ _ h => h) ?_ (by assumption) ?_; rotate_left; (first | (refine yields_load (by rfl) rfl rfl ?_; intro w hSw; (try dsimp only at hSw); go_split_ands; assumption) | (refine Or.inl ⟨by rfl, ?_⟩; intro w hSw; (try dsimp only at hSw); go_simp; done) | (refine Or.inl ⟨by rfl, ?_⟩; intro w hSw; (try dsimp only at hSw); go_simp; with_reducible rfl) | exact Or.inr ⟨by rfl, rfl⟩ | exact Or.inr ⟨by rfl, by rfl⟩); (try simp only [Act.put, List.setIfInBounds_toArray, List.set_cons_zero, List.set_cons_succ, List.getElem_toArray, List.getElem_cons_zero, List.getElem_cons_succ])) | (refine wpAnyH_take (i := 9) (v := ?_) rfl (by kernel_rfl) (by decide +kernel) (by decide +kernel) (fun _ _ _ h => h) ?_ (by assumption) ?_; rotate_left; (first | (refine yields_load (by rfl) rfl rfl ?_; intro w hSw; (try dsimp only at hSw); go_split_ands; assumption) | (refine Or.inl ⟨by rfl, ?_⟩; intro w hSw; (try dsimp only at hSw); go_simp; done) | (refine Or.inl ⟨by rfl, ?_⟩; intro w hSw; (try dsimp only at hSw); go_simp; with_reducible rfl) | exact Or.inr ⟨by rfl, rfl⟩ | exact Or.inr ⟨by rfl, by rfl⟩); (try simp only [Act.put, List.setIfInBounds_toArray, List.set_cons_zero, List.set_cons_succ, List.getElem_toArray, List.getElem_cons_zero, List.getElem_cons_succ])) | (refine wpAnyH_take (i := 10) (v := ?_) rfl (by kernel_rfl) (by decide +kernel) (by decide +kernel) (fun _ _ _ h => h) ?_ (by assumption) ?_; rotate_left; (first | (refine yields_load (by rfl) rfl rfl ?_; intro w hSw; (try dsimp only at hSw); go_split_ands; assumption) | (refine Or.inl ⟨by rfl, ?_⟩; intro w hSw; (try dsimp only at hSw); go_simp; done) | (refine Or.inl ⟨by rfl, ?_⟩; intro w hSw; (try dsimp only at hSw); go_simp; with_reducible rfl) | exact Or.inr ⟨by rfl, rfl⟩ | exact Or.inr ⟨by rfl, by rfl⟩); (try simp only [Act.put, List.setIfInBounds_toArray, List.set_cons_zero, List.set_cons_succ, List.getElem_toArray, List.getElem_cons_zero, List.getElem_cons_succ])) | (refine wpAnyH_take (i := 11) (v := ?_) rfl (by kernel_rfl) (by decide +kernel) (by decide +kernel) (fun _ _ _ h => h) ?_ (by assumption) ?_; rotate_left; (first | (refine yields_load (by rfl) rfl rfl ?_; intro w hSw; (try dsimp only at hSw); go_split_ands; assumption) | (refine Or.inl ⟨by rfl, ?_⟩; intro w hSw; (try dsimp only at hSw); go_simp; done) | (refine Or.inl ⟨by rfl, ?_⟩; intro w hSw; (try dsimp only at hSw); go_simp; with_reducible rfl) | exact Or.inr ⟨by rfl, rfl⟩ | exact Or.inr ⟨by rfl, by rfl⟩); (try simp only [Act.put, List.setIfInBounds_toArray, List.set_cons_zero, List.set_cons_succ, List.getElem_toArray, List.getElem_cons_zero, List.getElem_cons_succ])) | (refine wpAnyH_take (i := 12) (v := ?_) rfl (by kernel_rfl) (by decide +kernel) (by decide +kernel) (fun _ _ _ h => h) ?_ (by assumption) ?_; rotate_left; (first | (refine yields_load (by rfl) rfl rfl ?_; intro w hSw; (try dsimp only at hSw); go_split_ands; assumption) | (refine Or.inl ⟨by rfl, ?_⟩; intro w hSw; (try dsimp only at hSw); go_simp; done) | (refine Or.inl ⟨by rfl, ?_⟩; intro w hSw; (try dsimp only at hSw); go_simp; with_reducible rfl) | exact Or.inr ⟨by rfl, rfl⟩ | exact Or.inr ⟨by rfl, by rfl⟩); (try simp only [Act.put, List.setIfInBounds_toArray, List.set_cons_zero, List.set_cons_succ, List.getElem_toArray, List.getElem_cons_zero, List.getElem_cons_succ])) | (refine wpAnyH_take (i := 13) (v := ?_) rfl (by kernel_rfl) (by decide +kernel) (by decide +kernel) (fun _ _ _ h => h) ?_ (by assumption) ?_; rotate_left; (first | (refine yields_load (by rfl) rfl rfl ?_; intro w hSw; (try dsimp only at hSw); go_split_ands; assumption) | (refine Or.inl ⟨by rfl, ?_⟩; intro w hSw; (try dsimp only at hSw); go_simp; done) | (refine Or.inl ⟨by rfl, ?_⟩; intro w hSw; (try dsimp only at hSw); go_simp; with_reducible rfl) | exact Or.inr ⟨by rfl, rfl⟩ | exact Or.inr ⟨by rfl, by rfl⟩); (try simp only [Act.put, List.setIfInBounds_toArray, List.set_cons_zero, List.set_cons_succ, List.getElem_toArray, List.getElem_cons_zero, List.getElem_cons_succ])) | (refine wpAnyH_take (i := 14) (v := ?_) rfl (by kernel_rfl) (by decide +kernel) (by decide +kernel) (fun _ _ _ h => h) ?_ (by assumption) ?_; rotate_left; (first | (refine yields_load (by rfl) rfl rfl ?_; intro w hSw; (try dsimp only at hSw); go_split_ands; assumption) | (refine Or.inl ⟨by rfl, ?_⟩; intro w hSw; (try dsimp only at hSw); go_simp; done) | (refine Or.inl ⟨by rfl, ?_⟩; intro w hSw; (try dsimp only at hSw); go_simp; with_reducible rfl) | exact Or.inr ⟨by rfl, rfl⟩ | exact Or.inr ⟨by rfl, by rfl⟩); (try simp only [Act.put, List.setIfInBounds_toArray, List.set_cons_zero, List.set_cons_succ, List.getElem_toArray, List.getElem_cons_zero, List.getElem_cons_succ])) | (refine wpAnyH_take (i := 15) (v := ?_) rfl (by kernel_rfl) (by decide +kernel) (by decide +kernel) (fun _ _ _ h => h) ?_ (by assumption) ?_; rotate_left; (first | (refine yields_load (by rfl) rfl rfl ?_; intro w hSw; (try dsimp only at hSw); go_split_ands; assumption) | (refine Or.inl ⟨by rfl, ?_⟩; intro w hSw; (try dsimp only at hSw); go_simp; done) | (refine Or.inl ⟨by rfl, ?_⟩; intro w hSw; (try dsimp only at hSw); go_simp; with_reducible rfl) | exact Or.inr ⟨by rfl, rfl⟩ | exact Or.inr ⟨by rfl, by rfl⟩); (try simp only [Act.put, List.setIfInBounds_toArray, List.set_cons_zero, List.set_cons_succ, List.getElem_toArray, List.getElem_cons_zero, List.getElem_cons_succ])) | (refine wpAnyH_take (i := 16) (v := ?_) rfl (by kernel_rfl) (by decide +kernel) (by decide +kernel) (fun _ _ _ h => h) ?_ (by assumption) ?_; rotate_left; (first | (refine yields_load (by rfl) rfl rfl ?_; intro w hSw; (try dsimp only at hSw); go_split_ands; assumption) | (refine Or.inl ⟨by rfl, ?_⟩; intro w hSw; (try dsimp only at hSw); go_simp; done) | (refine Or.inl ⟨by rfl, ?_⟩; intro w hSw; (try dsimp only at hSw); go_simp; with_reducible rfl) | exact Or.inr ⟨by rfl, rfl⟩ | exact Or.inr ⟨by rfl, by rfl⟩); (try simp only [Act.put, List.setIfInBounds_toArray, List.set_cons_zero, List.set_cons_succ, List.getElem_toArray, List.getElem_cons_zero, List.getElem_cons_succ])) | (refine wpAnyH_take (i := 17) (v := ?_) rfl (by kernel_rfl) (by decide +kernel) (by decide +kernel) (fun _ _ _ h => h) ?_ (by assumption) ?_; rotate_left; (first | (refine yields_load (by rfl) rfl rfl ?_; intro w hSw; (try dsimp only at hSw); go_split_ands; assumption) | (refine Or.inl ⟨by rfl, ?_⟩; intro w hSw; (try dsimp only at hSw); go_simp; done) | (refine Or.inl ⟨by rfl, ?_⟩; intro w hSw; (try dsimp only at hSw); go_simp; with_reducible rfl) | exact Or.inr ⟨by rfl, rfl⟩ | exact Or.inr ⟨by rfl, by rfl⟩); (try simp only [Act.put, List.setIfInBounds_toArray, List.set_cons_zero, List.set_cons_succ, List.getElem_toArray, List.getElem_cons_zero, List.getElem_cons_succ])) | (refine wpAnyH_take (i := 18) (v := ?_) rfl (by kernel_rfl) (by decide +kernel) (by decide +kernel) (fun _ _ _ h => h) ?_ (by assumption) ?_; rotate_left; (first | (refine yields_load (by rfl) rfl rfl ?_; intro w hSw; (try dsimp only at hSw); go_split_ands; assumption) | (refine Or.inl ⟨by rfl, ?_⟩; intro w hSw; (try dsimp only at hSw); go_simp; done) | (refine Or.inl ⟨by rfl, ?_⟩; intro w hSw; (try dsimp only at hSw); go_simp; with_reducible rfl) | exact Or.inr ⟨by rfl, rfl⟩ | exact Or.inr ⟨by rfl, by rfl⟩); (try simp only [Act.put, List.setIfInBounds_toArray, List.set_cons_zero, List.set_cons_succ, List.getElem_toArray, List.getElem_cons_zero, List.getElem_cons_succ])) | (refine wpAnyH_take (i := 19) (v := ?_) rfl (by kernel_rfl) (by decide +kernel) (by decide +kernel) (fun _ _ _ h => h) ?_ (by assumption) ?_; rotate_left; (first | (refine yields_load (by rfl) rfl rfl ?_; intro w hSw; (try dsimp only at hSw); go_split_ands; assumption) | (refine Or.inl ⟨by rfl, ?_⟩; intro w hSw; (try dsimp only at hSw); go_simp; done) | (refine Or.inl ⟨by rfl, ?_⟩; intro w hSw; (try dsimp only at hSw); go_simp; with_reducible rfl) | exact Or.inr ⟨by rfl, rfl⟩ | exact Or.inr ⟨by rfl, by rfl⟩); (try simp only [Act.put, List.setIfInBounds_toArray, List.set_cons_zero, List.set_cons_succ, List.getElem_toArray, List.getElem_cons_zero, List.getElem_cons_succ])) | (refine wpAnyH_take (i := 20) (v := ?_) rfl (by kernel_rfl) (by decide +kernel) (by decide +kernel) (fun _ _ _ h => h) ?_ (by assumption) ?_; rotate_left; (first | (refine yields_load (by rfl) rfl rfl ?_; intro w hSw; (try dsimp only at hSw); go_split_ands; assumption) | (refine Or.inl ⟨by rfl, ?_⟩; intro w hSw; (try dsimp only at hSw); go_simp; done) | (refine Or.inl ⟨by rfl, ?_⟩; intro w hSw; (try dsimp only at hSw); go_simp; with_reducible rfl) | exact Or.inr ⟨by rfl, rfl⟩ | exact Or.inr ⟨by rfl, by rfl⟩); (try simp only [Act.put, List.setIfInBounds_toArray, List.set_cons_zero, List.set_cons_succ, List.getElem_toArray, List.getElem_cons_zero, List.getElem_cons_succ])) | (refine wpAnyH_take (i := 21) (v := ?_) rfl (by kernel_rfl) (by decide +kernel) (by decide +kernel) (fun _ _ _ h => h) ?_ (by assumption) ?_; rotate_left; (first | (refine yields_load (by rfl) rfl rfl ?_; intro w hSw; (try dsimp only at hSw); go_split_ands; assumption) | (refine Or.inl ⟨by rfl, ?_⟩; intro w hSw; (try dsimp only at hSw); go_simp; done) | (refine Or.inl ⟨by rfl, ?_⟩; intro w hSw; (try dsimp only at hSw); go_simp; with_reducible rfl) | exact Or.inr ⟨by rfl, rfl⟩ | exact Or.inr ⟨by rfl, by rfl⟩); (try simp only [Act.put, List.setIfInBounds_toArray, List.set_cons_zero, List.set_cons_succ, List.getElem_toArray, List.getElem_cons_zero, List.getElem_cons_succ])))
    refine wpAnyH_done (by kernel_rfl) ?_ _
    go_wp2
    go_ret
    exact .mk ⟨rfl, M17.out.below⟩
    -- six>
end Go.Proofs.Yteoicpbfjkjogaa
