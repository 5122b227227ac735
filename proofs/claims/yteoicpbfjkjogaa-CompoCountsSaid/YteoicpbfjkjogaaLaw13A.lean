/- Layer 13: as many parts as there may be (CompoCounts). -/
import Derived.Test.YteoicpbfjkjogaaCompF
namespace Go.Proofs.Yteoicpbfjkjogaa
open Go Go.RowKit
set_option linter.unusedVariables false
set_option linter.unusedSimpArgs false
set_option maxRecDepth 100000

def q0 : Pt := ⟨2, 0, 0, 0, 16384, 0, 0, 16384⟩
def q1 : Pt := ⟨258, 0, 0, 0, 16384, 0, 0, 16384⟩
theorem q0_ok : q0.Ok := ⟨by decide, by decide, by decide, by decide, by decide, by decide, by decide, by decide⟩
theorem q1_ok : q1.Ok := ⟨by decide, by decide, by decide, by decide, by decide, by decide, by decide, by decide⟩
def P1 (n : Nat) : List Pt := List.replicate n q0
def P2 (n : Nat) (c : Bool) : List Pt := if 0 < n ∧ c = true then (P1 n).set (n - 1) q1 else P1 n
def P3 (n : Nat) (c e : Bool) : List Pt := if 1 < n ∧ e = true then (P2 n c).set 0 q1 else P2 n c
theorem P1_length (n : Nat) : (P1 n).length = n := by simp [P1]
theorem P2_length (n : Nat) (c : Bool) : (P2 n c).length = n := by unfold P2; split <;> simp [P1]
theorem P3_length (n : Nat) (c e : Bool) : (P3 n c e).length = n := by unfold P3; split <;> simp [P2_length]
theorem P3_at {n i : Nat} (c e : Bool) (h : i < n) : pAt (P3 n c e) i = if (1 < n ∧ e = true ∧ i = 0) ∨ (c = true ∧ i = n - 1) then q1 else q0 := by
  have h2 : pAt (P2 n c) i = if c = true ∧ i = n - 1 then q1 else q0 := by
    unfold P2
    by_cases hc : c = true
    · rw [if_pos ⟨by omega, hc⟩]
      by_cases hi : i = n - 1
      · rw [if_pos ⟨hc, hi⟩]; simp [pAt, List.getD, List.getElem?_set, P1, hi, show n - 1 < n by omega]
      · rw [if_neg (fun x => hi x.2)]; simp [pAt, List.getD, List.getElem?_set, P1, show ¬ n - 1 = i by omega, h]
    · rw [if_neg (fun x => hc x.2), if_neg (fun x => hc x.1)]; simp [pAt, List.getD, P1, h]
  unfold P3
  by_cases he : 1 < n ∧ e = true
  · rw [if_pos he]
    by_cases hi : i = 0
    · rw [if_pos (.inl ⟨he.1, he.2, hi⟩)]
      subst hi
      have : 0 < (P2 n c).length := by rw [P2_length]; omega
      simp [pAt, List.getD, List.getElem?_set, this]
    · have : pAt ((P2 n c).set 0 q1) i = pAt (P2 n c) i := by simp [pAt, List.getD, List.getElem?_set, show ¬ 0 = i by omega]
      rw [this, h2]
      by_cases hk : c = true ∧ i = n - 1
      · rw [if_pos hk, if_pos (.inr hk)]
      · rw [if_neg hk, if_neg (fun x => x.elim (fun y => hi y.2.2) hk)]
  · rw [if_neg he, h2]
    by_cases hk : c = true ∧ i = n - 1
    · rw [if_pos hk, if_pos (.inr hk)]
    · rw [if_neg hk, if_neg (fun x => x.elim (fun y => he ⟨y.1, y.2.1⟩) hk)]
theorem P3_off (n : Nat) (c : Bool) : P3 n c false = P2 n c := by unfold P3; rw [if_neg (by simp)]
abbrev cgN (n : Nat) (c e : Bool) (pr : List Int) : Cg := ⟨0, 0, 0, 0, P3 n c e, pr⟩
theorem cgN_ok (n : Nat) (c e : Bool) {pr : List Int} (h : Bytes pr) : (cgN n c e pr).Ok := ⟨(by decide : I16 0), (by decide : I16 0), (by decide : I16 0), (by decide : I16 0), fun p hp => by
  obtain ⟨i, hi, rfl⟩ := List.mem_iff_getElem.1 hp
  have hi' : i < n := by rw [← P3_length n c e]; exact hi
  have : (P3 n c e)[i] = pAt (P3 n c e) i := by simp [pAt, List.getD, hi]
  show Pt.Ok ((P3 n c e)[i])
  rw [this, P3_at c e hi']
  split
  · exact q1_ok
  · exact q0_ok, h⟩
theorem partB_q : partB q0 = true ∧ partB q1 = true ∧ hasB q0.f 256 = false ∧ hasB q1.f 256 = true := by decide
theorem cgN_R (n : Nat) (c e : Bool) {pr : List Int} (h : pr.length ≤ 20) :
    cgR (cgN n c e pr) = (decide (1 ≤ n) && (decide (n ≤ 200) && ((decide (n = 1) || !e) && (c || decide (pr.length = 0))))) := by
  obtain ⟨a0, a1, a2, a3⟩ := partB_q
  have hcode : ∀ j, j < n → hasB (pAt (P3 n c e) j).f 256 = decide ((1 < n ∧ e = true ∧ j = 0) ∨ (c = true ∧ j = n - 1)) := fun j hj => by
    rw [P3_at c e hj]
    by_cases hk : (1 < n ∧ e = true ∧ j = 0) ∨ (c = true ∧ j = n - 1)
    · rw [if_pos hk, a3, decide_eq_true hk]
    · rw [if_neg hk, a2, decide_eq_false hk]
  have hpart : ∀ j, j < n → partB (pAt (P3 n c e) j) = true := fun j hj => by
    rw [P3_at c e hj]
    split
    · exact a1
    · exact a0
  unfold cgR
  simp only [P3_length]
  rw [decide_eq_true (show pr.length ≤ 65535 by omega), Bool.true_and]
  by_cases h1 : 1 ≤ n
  · have hcn : codeB (P3 n c e) n = c := by
      obtain ⟨k, rfl⟩ : ∃ k, n = k + 1 := ⟨n - 1, by omega⟩
      show hasB (pAt (P3 (k + 1) c e) k).f 256 = c
      rw [hcode k (by omega), Bool.eq_iff_iff, decide_eq_true_eq]
      constructor
      · rintro (h | h)
        · omega
        · exact h.1
      · intro h; exact .inr ⟨h, by omega⟩
    have hall : partsB (P3 n c e) n = (decide (n = 1) || !e) := by
      by_cases hbad : 1 < n ∧ e = true
      · rw [partsB_no (k := 1) (.inl (by show hasB (pAt (P3 n c e) 0).f 256 = true; rw [hcode 0 (by omega)]; exact decide_eq_true (.inl ⟨hbad.1, hbad.2, rfl⟩))) hbad.1, decide_eq_false (show ¬ n = 1 by omega), hbad.2]; rfl
      · have : (decide (n = 1) || !e) = true := by
          by_cases hn : n = 1
          · rw [decide_eq_true hn]; rfl
          · have : e = false := by cases e with | false => rfl | true => exact absurd ⟨by omega, rfl⟩ hbad
            rw [this]; simp
        rw [this]
        refine decide_eq_true fun i hi => ⟨?_, hpart i hi⟩
        cases i with
        | zero => rfl
        | succ j =>
          show hasB (pAt (P3 n c e) j).f 256 = false
          rw [hcode j (by omega)]
          exact decide_eq_false fun x => x.elim (fun y => hbad ⟨y.1, y.2.1⟩) (fun y => by omega)
    rw [hcn, hall, decide_eq_true h1]
    cases decide (n = 1) || !e <;> simp
  · rw [decide_eq_false h1]; simp
theorem ptC_set {ps : List Pt} {i : Nat} (h : i < ps.length) (z : Int) : (ptC ps).set (i * 8) (.int .u16 z) = ptC (ps.set i { pAt ps i with f := z }) := by
  induction ps generalizing i with
  | nil => simp at h
  | cons p ps ih =>
    cases i with
    | zero => simp [ptC, pAt]
    | succ i =>
      rw [Nat.succ_mul]
      show (ptF p ++ ptC ps).set (i * 8 + 8) _ = ptF p ++ ptC (ps.set i { pAt ps i with f := z })
      rw [List.set_append_right _ _ (by simp), ← ih (by simpa using h)]
      simp
theorem ptC_f {ps : List Pt} {i : Nat} (h : i < ps.length) : (ptC ps)[i * 8]? = some (.int .u16 (pAt ps i).f) :=
  (rows_get (F := ptF) (m := 8) (fun _ => rfl) pt0 (show 0 < 8 by omega) ps i h).trans rfl
theorem sized_part : Sized Try.prog 27 35 8 16 := .mk' Try.underlying27 (.agg (ptA pt0)) (by kernel_rfl)
theorem c_free {W0 w : World} {L : List Ent} {m : Nat} {g : Cg} {vp vg : Value} (M : Own W0 w L) (h : .blk m 29 (cA g vp vg) ∈ L) :
    w.frozen? ⟨m, 4, none⟩ = false ∧ w.frozen? ⟨m, 5, none⟩ = false := ⟨M.free h 4, M.free h 5⟩
set_option maxHeartbeats 4000000 in
theorem compoCounts_calls (w : World) {n : Int} {c e : Bool} {V : Value} {xs : List Int} (n0 : 0 ≤ n) (n1 : n < 256) (h1 : BytesAt w V xs) (hB : Bytes xs) :
    Calls Try.prog 3 #[.int .u8 n, .bool c, .bool e, V] w (Ret fun r w' => r = .bool true ∧ Below w.heap.size w w') := by
  have M0 := hid (Own.start w)
  have hCut := hid (fun w1 (h : Below w.heap.size w w1) => cut_calls w1 20 (by omega) (h1.below h) (by omega))
  obtain ⟨A, cA_, rfl, -⟩ := h1
  have hpl : (xs.take 20).length ≤ 20 := by rw [List.length_take]; omega
  have hpB := hid (hB.take 20)
  obtain ⟨ng, hng⟩ : ∃ k, (xs.take 20).length = k := ⟨_, rfl⟩
  rw [hng] at hCut hpl
  generalize xs.take 20 = pr at *
  have hngH := hid hng
  obtain ⟨N, rfl⟩ : ∃ N : Nat, n = N := ⟨n.toNat, by omega⟩
  clear hB hng n0
  go_enter Try.func3, Try.ntmps3
  go_upto_region 4 with (first
    | (go_at_call 9; refine (awake_calls _).mono ?_; rintro _ w1 ⟨_, rfl, rfl, hb⟩; (have M1 := hid (M0.out.keep hb)); clear hb)
    | (go_at_call 10; refine (hCut.out _ M1.out.below).mono ?_; rintro _ w2 ⟨_, rfl, M⟩; obtain ⟨Ag, cg, rfl⟩ := M.form (.head _); (have M2 := hid (M1.out.lift M)); clear M)
    | ((with_reducible refine gate (N := 9) rfl ?_); refine wpList_box_Own rfl (cs := cA ⟨0, 0, 0, 0, [], []⟩ (.slice none 0 0) (.slice none 0 0)) (t := 29) (by first | (go_simp; done) | (go_simp; rfl)) M2.out ?_; intro m w3 M; (have M3 := hid M); clear M)
    | ((with_reducible refine gateSt (t := 29) (p := 9) rfl ?_); refine wpList_store_all (n := 6) (L1 := []) (mid := (cA ⟨0, 0, 0, 0, [], []⟩ (.slice none 0 0) (.slice none 0 0)).toList) (vs := (cA ⟨0, 0, 0, 0, [], []⟩ (.slice none 0 0) (.slice Ag ng cg)).toList) rfl rfl (by kernel_rfl) rfl rfl rfl rfl rfl (one_all rfl) M3.out ?_; intro w4 M; (have M4 := hid M); clear M))
  clear hCut M1 M2 M3
  go_wp2
  go_loopw [17] (fun i wr => ∃ (j : Nat), j ≤ N ∧ i = .int .u8 j ∧ Hid (∃ (Ap : Option Addr) (cp : Nat), Own w wr [.row 35 8 (.slice Ap j cp) j (ptC (P1 j)), .blk m 29 (cA ⟨0, 0, 0, 0, [], []⟩ (.slice Ap j cp) (.slice Ag ng cg)), .row 5 1 (.slice Ag ng cg) ng (ints .u8 pr)])) (fun i _ => N - (intOf i).toNat)
  case atStart => exact ⟨0, Nat.zero_le _, rfl, hid ⟨none, 0, M4.out.nil_row 35 8⟩⟩
  case round =>
    clear M4
    obtain ⟨j, hj, rfl, hM⟩ := hrel
    obtain ⟨Ap, cp, MR⟩ := hM.out
    clear hM
    replace MR := hid MR
    by_cases hlt : j < N
    · have hP := hid (show P1 (j + 1) = P1 j ++ [q0] from List.replicate_succ')
      go_upto_region 6 with fail
      have MW := hid MR.out.drew
      clear MR
      refine wp_region_until (S := fun w' => w'.cell? ⟨m, 4, none⟩ = some (.slice Ap j cp)) 7 (by kernel_rfl) (c_cells (m := m) (g := ⟨0, 0, 0, 0, [], []⟩) (vp := .slice Ap j cp) (vg := .slice Ag ng cg) MW.out (by simp)).1 (fun hHeld => ?_)
      revert MW hHeld
      generalize wr.drew = w6
      intro MW hHeld
      repeat (first | (refine wpAnyV_take (i := 0) (v := ?_) rfl (by kernel_rfl) (by decide +kernel) (by decide +kernel) [] (by decide +kernel) (by decide +kernel) (by decide) (fun _ _ _ h => h) ?_ (by assumption) ?_; rotate_left; (first | (refine yields_load (by rfl) rfl rfl ?_; intro w hSw; (try dsimp only at hSw); go_split_ands; assumption) | (refine Or.inl ⟨by rfl, ?_⟩; intro w hSw; (try dsimp only at hSw); go_simp; done) | (refine Or.inl ⟨by rfl, ?_⟩; intro w hSw; (try dsimp only at hSw); go_simp; with_reducible rfl) | exact Or.inr ⟨by rfl, rfl⟩ | exact Or.inr ⟨by rfl, by rfl⟩); (try simp only [Act.put, List.setIfInBounds_toArray, List.set_cons_zero, List.set_cons_succ, List.getElem_toArray, List.getElem_cons_zero, List.getElem_cons_succ])) | (refine wpAnyV_take (i := 1) (v := ?_) rfl (by kernel_rfl) (by decide +kernel) (by decide +kernel) [] (by decide +kernel) (by decide +kernel) (by decide) (fun _ _ _ h => h) ?_ (by assumption) ?_; rotate_left; (first | (refine yields_load (by rfl) rfl rfl ?_; intro w hSw; (try dsimp only at hSw); go_split_ands; assumption) | (refine Or.inl ⟨by rfl, ?_⟩; intro w hSw; (try dsimp only at hSw); go_simp; done) | (refine Or.inl ⟨by rfl, ?_⟩; intro w hSw; (try dsimp only at hSw); go_simp; with_reducible rfl) | exact Or.inr ⟨by rfl, rfl⟩ | exact Or.inr ⟨by rfl, by rfl⟩); (try simp only [Act.put, List.setIfInBounds_toArray, List.set_cons_zero, List.set_cons_succ, List.getElem_toArray, List.getElem_cons_zero, List.getElem_cons_succ])))
      refine wpAnyV_ready (rs := [2]) (by decide +kernel) (by simp) ?_; refine (AllReadyV.cons rfl (by decide) (fun K hK => ?_) AllReadyV.nil)
      go_simp
      refine (unit_calls _).mono ?_
      rintro _ w7 ⟨_, rfl, rfl, hb⟩
      have M7 := hid (MW.out.keep hb)
      clear hb
      go_wp2_with fail
      refine hK.out _ _ (c_cells (m := m) (g := ⟨0, 0, 0, 0, [], []⟩) (vp := .slice Ap j cp) (vg := .slice Ag ng cg) M7.out (by simp)).1 (fun hHeld => ?_); clear hK K; (try simp only [Act.put, List.setIfInBounds_toArray, List.set_cons_zero, List.set_cons_succ, List.getElem_toArray, List.getElem_cons_zero, List.getElem_cons_succ])
      repeat (first | (refine wpAnyV_take (i := 3) (v := ?_) rfl (by kernel_rfl) (by decide +kernel) (by decide +kernel) [] (by decide +kernel) (by decide +kernel) (by decide) (fun _ _ _ h => h) ?_ (by assumption) ?_; rotate_left; (first | (refine yields_load (by rfl) rfl rfl ?_; intro w hSw; (try dsimp only at hSw); go_split_ands; assumption) | (refine Or.inl ⟨by rfl, ?_⟩; intro w hSw; (try dsimp only at hSw); go_simp; done) | (refine Or.inl ⟨by rfl, ?_⟩; intro w hSw; (try dsimp only at hSw); go_simp; with_reducible rfl) | exact Or.inr ⟨by rfl, rfl⟩ | exact Or.inr ⟨by rfl, by rfl⟩); (try simp only [Act.put, List.setIfInBounds_toArray, List.set_cons_zero, List.set_cons_succ, List.getElem_toArray, List.getElem_cons_zero, List.getElem_cons_succ])))
      refine wpAnyV_ready (rs := [4]) (by decide +kernel) (by simp) ?_; refine (AllReadyV.cons rfl (by decide) (fun K hK => ?_) AllReadyV.nil)
      go_simp
      have M8 := hid (M7.out.alloc 35 (ptA q0))
      refine hK.out _ _ (c_cells (m := m) (g := ⟨0, 0, 0, 0, [], []⟩) (vp := .slice Ap j cp) (vg := .slice Ag ng cg) M8.out (by simp)).1 (fun hHeld => ?_); clear hK K; (try simp only [Act.put, List.setIfInBounds_toArray, List.set_cons_zero, List.set_cons_succ, List.getElem_toArray, List.getElem_cons_zero, List.getElem_cons_succ])
      refine wpAnyV_ready (rs := [5]) (by decide +kernel) (by simp) ?_; refine (AllReadyV.cons rfl (by decide) (fun K hK => ?_) AllReadyV.nil)
      refine step_append_Own (by rfl) (.tmp 20) (.tmp 23) _ rfl sized_part rfl rfl (L1 := [.blk w7.heap.size 35 (ptA q0)]) (L2 := [.blk m 29 (cA ⟨0, 0, 0, 0, [], []⟩ (.slice Ap j cp) (.slice Ag ng cg)), .row 5 1 (.slice Ag ng cg) ng (ints .u8 pr)]) M8.out (SliceAt.built M8.out (.head _) 8 1 rfl (by unfold maxLen; omega)) (one_all rfl) (by unfold maxLen; omega) (by omega) ?_
      intro v' w9 M'
      obtain ⟨A9, c9, rfl⟩ := M'.tail.form (.head _)
      have M9 := hid M'.tail
      clear M' M8 M7 MW
      refine hK.out _ _ (c_cells (m := m) (g := ⟨0, 0, 0, 0, [], []⟩) (vp := .slice Ap j cp) (vg := .slice Ag ng cg) M9.out (by simp)).1 (fun hHeld => ?_); clear hK K; (try simp only [Act.put, List.setIfInBounds_toArray, List.set_cons_zero, List.set_cons_succ, List.getElem_toArray, List.getElem_cons_zero, List.getElem_cons_succ])
      have cc4 := (c_cells (m := m) (g := ⟨0, 0, 0, 0, [], []⟩) (vp := .slice Ap j cp) (vg := .slice Ag ng cg) M9.out (by simp)).1
      have ff4 := (c_free (m := m) (g := ⟨0, 0, 0, 0, [], []⟩) (vp := .slice Ap j cp) (vg := .slice Ag ng cg) M9.out (by simp)).1
      repeat (first | (refine wpAnyV_take (i := 6) (v := ?_) rfl (by kernel_rfl) (by decide +kernel) (by decide +kernel) [] (by decide +kernel) (by decide +kernel) (by decide) (fun _ _ _ h => h) ?_ (by assumption) ?_; rotate_left; (first | (refine yields_load (by rfl) rfl rfl ?_; intro w hSw; (try dsimp only at hSw); go_split_ands; assumption) | (refine Or.inl ⟨by rfl, ?_⟩; intro w hSw; (try dsimp only at hSw); go_simp; done) | (refine Or.inl ⟨by rfl, ?_⟩; intro w hSw; (try dsimp only at hSw); go_simp; with_reducible rfl) | exact Or.inr ⟨by rfl, rfl⟩ | exact Or.inr ⟨by rfl, by rfl⟩); (try simp only [Act.put, List.setIfInBounds_toArray, List.set_cons_zero, List.set_cons_succ, List.getElem_toArray, List.getElem_cons_zero, List.getElem_cons_succ])))
      refine wpAnyV_ready (rs := [7]) (by decide +kernel) (by simp) ?_; refine AllReadyV.last rfl (fun K hK => ?_); go_simp
      refine hK.out _ _ (fun hHeld => ?_); clear hK K; (try simp only [Act.put, List.setIfInBounds_toArray, List.set_cons_zero, List.set_cons_succ, List.getElem_toArray, List.getElem_cons_zero, List.getElem_cons_succ])
      refine wpAnyH_done (by kernel_rfl) ?_ _
      go_wp2_with fail
      go_roundw
      case rel => exact ⟨j + 1, by omega, by go_num, hid ⟨A9, c9, by rw [hP.out, ptC_append]; exact M9.out.set (L1 := [_]) 4 (.slice A9 (j + 1) c9)⟩⟩
      case measure => simp [intOf] <;> omega
    · obtain rfl : j = N := by omega
      have hwj : IntKind.u8.wrap ((j : Int) - 1) = (j : Int) - 1 ∨ j = 0 := by
        by_cases h : j = 0
        · exact .inr h
        · exact .inl (by rw [IntKind.wrap_u8]; omega)
      replace hwj := hid hwj
      obtain ⟨b1, hb1⟩ : ∃ b, (decide (0 < j) && c) = b := ⟨_, rfl⟩
      obtain ⟨b2, hb2⟩ : ∃ b, (decide (1 < j) && e) = b := ⟨_, rfl⟩
      replace hb1 := hid hb1
      replace hb2 := hid hb2
      have hor : bits .or .u16 2 256 = 258 := by decide +kernel
      go_upto_region 8 with fail
      go_cut [31] (fun s wx => s = .bool b1 ∧ wr = wx)
      case first =>
        by_cases h : 0 < j
        · have h' : (j : Int) > 0 := by omega
          go_wp2
          go_meet
          exact ⟨congrArg Value.bool (by rw [← hb1.out, decide_eq_true h]; rfl), rfl⟩
        · have h' : ¬ (j : Int) > 0 := by omega
          go_wp2
          go_meet
          exact ⟨congrArg Value.bool (by rw [← hb1.out, decide_eq_false h]; rfl), rfl⟩
      obtain ⟨hs, hw⟩ := hcut
      subst hs hw
      go_upto_if 31 with fail
      go_cut [] (fun wx => Hid (Own w wx [.row 35 8 (.slice Ap j cp) j (ptC (P2 j c)), .blk m 29 (cA ⟨0, 0, 0, 0, [], []⟩ (.slice Ap j cp) (.slice Ag ng cg)), .row 5 1 (.slice Ag ng cg) ng (ints .u8 pr)]))
      case first =>
        cases b1
        · have hP : P2 j c = P1 j := by
            unfold P2
            refine if_neg fun h => ?_
            have := hb1.out
            rw [decide_eq_true h.1, h.2] at this
            cases this
          rw [← hP] at MR
          go_wp2
          go_meet
          exact MR
        · obtain ⟨h0, hc⟩ : 0 < j ∧ c = true := by
            have := hb1.out
            rw [Bool.and_eq_true, decide_eq_true_eq] at this
            exact this
          have hP : P2 j c = (P1 j).set (j - 1) q1 := by unfold P2; rw [if_pos ⟨h0, hc⟩]
          obtain ⟨t, rfl⟩ : ∃ t, j = t + 1 := ⟨j - 1, by omega⟩
          obtain ⟨g3, hg3⟩ := MR.out.row_at (.head _) h0
          subst hg3
          obtain ⟨c4, -⟩ := c_cells (m := m) (g := ⟨0, 0, 0, 0, [], []⟩) (vp := .slice (some ⟨g3, 0, none⟩) (t + 1) cp) (vg := .slice Ag ng cg) MR.out (by simp)
          obtain ⟨MS, kc, kf⟩ := Own.row_set (L1 := []) MR.out (t * 8) (by omega) (.int .u16 258)
          have hw1 : IntKind.u8.wrap ((t : Int) + 1 - 1) = t := by rw [IntKind.wrap_u8]; omega
          have hpt : pAt (P1 (t + 1)) t = q0 := by simp [pAt, P1, List.getD]
          rw [ptC_set (by rw [P1_length]; omega)] at MS
          rw [ptC_f (by rw [P1_length]; omega), hpt] at kc
          replace kc : wr.cell? ⟨g3, t * 8, none⟩ = some (.int .u16 2) := kc
          rw [show (P1 (t + 1)).set t { pAt (P1 (t + 1)) t with f := 258 } = P2 (t + 1) c by rw [hP, hpt]; rfl] at MS
          replace MS := hid MS
          clear hpt
          go_wp2
          go_meet
          exact MS
      have MR2 := hcut
      clear MR hcut
      clear hb1 b1
      go_upto_region 10 with fail
      go_cut [46] (fun s wx => s = .bool b2 ∧ wc = wx)
      case first =>
        by_cases h : 1 < j
        · have h' : (j : Int) > 1 := by omega
          go_wp2
          go_meet
          exact ⟨congrArg Value.bool (by rw [← hb2.out, decide_eq_true h]; rfl), rfl⟩
        · have h' : ¬ (j : Int) > 1 := by omega
          go_wp2
          go_meet
          exact ⟨congrArg Value.bool (by rw [← hb2.out, decide_eq_false h]; rfl), rfl⟩
      obtain ⟨hs, hw⟩ := hcut
      subst hs hw
      go_upto_if 46 with fail
      go_cut [] (fun wx => Hid (Own w wx [.row 35 8 (.slice Ap j cp) j (ptC (P3 j c e)), .blk m 29 (cA ⟨0, 0, 0, 0, [], []⟩ (.slice Ap j cp) (.slice Ag ng cg)), .row 5 1 (.slice Ag ng cg) ng (ints .u8 pr)]))
      case first =>
        cases b2
        · have hP : P3 j c e = P2 j c := by
            unfold P3
            refine if_neg fun h => ?_
            have := hb2.out
            rw [decide_eq_true h.1, h.2] at this
            cases this
          rw [← hP] at MR2
          go_wp2
          go_meet
          exact MR2
        · obtain ⟨h0, hc⟩ : 1 < j ∧ e = true := by
            have := hb2.out
            rw [Bool.and_eq_true, decide_eq_true_eq] at this
            exact this
          have hP : P3 j c e = (P2 j c).set 0 q1 := by unfold P3; rw [if_pos ⟨h0, hc⟩]
          obtain ⟨g3, hg3⟩ := MR2.out.row_at (.head _) (by omega)
          subst hg3
          obtain ⟨c4, -⟩ := c_cells (m := m) (g := ⟨0, 0, 0, 0, [], []⟩) (vp := .slice (some ⟨g3, 0, none⟩) j cp) (vg := .slice Ag ng cg) MR2.out (by simp)
          obtain ⟨MS, kc, kf⟩ := Own.row_set (L1 := []) MR2.out (0 * 8) (by omega) (.int .u16 258)
          have hpt : pAt (P2 j c) 0 = q0 := by
            have := P3_at (i := 0) c false (show 0 < j by omega)
            rw [P3_off] at this
            rw [this]
            exact if_neg (fun x => x.elim (fun y => by cases y.2.1) (fun y => by omega))
          rw [ptC_set (by rw [P2_length]; omega)] at MS
          rw [ptC_f (by rw [P2_length]; omega), hpt] at kc
          rw [Nat.zero_mul] at MS kc kf
          replace kc : wc.cell? ⟨g3, 0, none⟩ = some (.int .u16 2) := kc
          rw [show (P2 j c).set 0 { pAt (P2 j c) 0 with f := 258 } = P3 j c e by rw [hP, hpt]; rfl] at MS
          replace MS := hid MS
          clear hpt
          go_wp2
          go_meet
          exact MS
      have MR := hcut
      clear MR2 hcut hb2 b2 hwj hor
      obtain ⟨wt, hwt⟩ : ∃ b, (decide (1 ≤ j) && (decide (j ≤ 200) && ((decide (j = 1) || !e) && (c || decide (ng = 0))))) = b := ⟨_, rfl⟩
      have hcg := hid (show cgR (cgN j c e pr) = wt by rw [cgN_R j c e (by rw [hngH.out]; exact hpl), hngH.out]; exact hwt)
      replace hwt := hid hwt
      go_upto_region 12 with fail
      go_cut [10] (fun s wx => s = .bool wt ∧ wc = wx)
      case first =>
        obtain ⟨c4, c5⟩ := c_cells (m := m) (g := ⟨0, 0, 0, 0, [], []⟩) (vp := .slice Ap j cp) (vg := .slice Ag ng cg) MR.out (by simp)
        clear hcg MR
        by_cases a1 : 1 ≤ j
        · have a1' : (j : Int) ≥ 1 := by omega
          by_cases a2 : j ≤ 200
          · have a2' : (j : Int) ≤ 200 := by omega
            by_cases a3 : j = 1
            · have a3' : ((j : Int) == 1) = true := by rw [beq_iff_eq]; omega
              cases c
              · by_cases a4 : ng = 0
                · have a4' : ((ng : Int) == 0) = true := by rw [beq_iff_eq]; omega
                  go_wp2
                  go_meet
                  exact ⟨congrArg Value.bool (by rw [← hwt.out]; simp [*]), rfl⟩
                · have a4' : ((ng : Int) == 0) = false := by rw [beq_eq_false_iff_ne]; omega
                  go_wp2
                  go_meet
                  exact ⟨congrArg Value.bool (by rw [← hwt.out]; simp [*]), rfl⟩
              · go_wp2
                go_meet
                exact ⟨congrArg Value.bool (by rw [← hwt.out]; simp [*]), rfl⟩
            · have a3' : ((j : Int) == 1) = false := by rw [beq_eq_false_iff_ne]; omega
              cases e
              · cases c
                · by_cases a4 : ng = 0
                  · have a4' : ((ng : Int) == 0) = true := by rw [beq_iff_eq]; omega
                    go_wp2
                    go_meet
                    exact ⟨congrArg Value.bool (by rw [← hwt.out]; simp [*]), rfl⟩
                  · have a4' : ((ng : Int) == 0) = false := by rw [beq_eq_false_iff_ne]; omega
                    go_wp2
                    go_meet
                    exact ⟨congrArg Value.bool (by rw [← hwt.out]; simp [*]), rfl⟩
                · go_wp2
                  go_meet
                  exact ⟨congrArg Value.bool (by rw [← hwt.out]; simp [*]), rfl⟩
              · go_wp2
                go_meet
                exact ⟨congrArg Value.bool (by rw [← hwt.out]; simp [*]), rfl⟩
          · have a2' : ¬ (j : Int) ≤ 200 := by omega
            go_wp2
            go_meet
            exact ⟨congrArg Value.bool (by rw [← hwt.out]; simp [*]), rfl⟩
        · have a1' : ¬ (j : Int) ≥ 1 := by omega
          go_wp2
          go_meet
          exact ⟨congrArg Value.bool (by rw [← hwt.out]; simp [*]), rfl⟩
      obtain ⟨hs, hw⟩ := hcut
      subst hs hw
      have hG := hid (show CAt wc (cgN j c e pr) (.slice Ap j cp) (.slice Ag ng cg) from ⟨by
        have := MR.out.slice (e := 35) (sz := 8) (v := .slice Ap j cp) (n := j) (xs := ptC (P3 j c e)) (.head _)
        show SliceAt _ _ 8 _ (P3 j c e).length _
        rw [P3_length]; exact this, MR.out.bytes (e := 5) (n := ng) (by simp) hngH.out⟩)
      have hOk := hid (cgN_ok j c e hpB.out)
      have hRt := hid (cRight_calls wc hOk.out hG.out)
      rw [hcg.out] at hRt
      have hIs0 := hid (fun w1 => is_calls w1 (V := .slice none 0 0) (l := []) (SliceAt.nil _ _ _) bytes_nil (by simp))
      have hIs1 := hid (fun w1 (M : Own wc w1 []) => is_calls (w1.alloc (.cells #[.int .u8 127, .int .u8 255] 5 (0, 0))) (V := .slice (some ⟨w1.heap.size, 0, none⟩) 2 2) (l := [127, 255]) (SliceAt.built (M.alloc 5 #[.int .u8 127, .int .u8 255]) (.head _) 1 2 rfl (by unfold maxLen; omega)) (by intro x hx; simp only [List.mem_cons, List.not_mem_nil, or_false] at hx; omega) (by simp))
      have hIs2 := hid (fun w1 (M : Own wc w1 []) => is_calls (w1.alloc (.cells #[.int .u8 128, .int .u8 0] 5 (0, 0))) (V := .slice (some ⟨w1.heap.size, 0, none⟩) 2 2) (l := [128, 0]) (SliceAt.built (M.alloc 5 #[.int .u8 128, .int .u8 0]) (.head _) 1 2 rfl (by unfold maxLen; omega)) (by intro x hx; simp only [List.mem_cons, List.not_mem_nil, or_false] at hx; omega) (by simp))
      rw [show decide (sgn (n2 [] 0) < 0) = false by decide] at hIs0
      rw [show decide (sgn (n2 [127, 255] 0) < 0) = false by decide] at hIs1
      rw [show decide (sgn (n2 [128, 0] 0) < 0) = true by decide] at hIs2
      have hBel := hid MR.out.below
      have MQ := hid ((Own.start wc).keep (Below.refl _ wc))
      cases wt
      · have hBy := hid (fun w1 (h : Below wc.heap.size wc w1) => cBytes_no w1 hOk.out (hG.out.below h) hcg.out)
        go_wp2_with (first
          | ((with_reducible refine gate (N := 78) rfl ?_); refine wpList_run rfl (exec_load_agg agg_cg rfl rfl MR.out (g := m) (t := 29) (cs := cA ⟨0, 0, 0, 0, [], []⟩ (.slice Ap j cp) (.slice Ag ng cg)) (vs := (cA ⟨0, 0, 0, 0, [], []⟩ (.slice Ap j cp) (.slice Ag ng cg)).toList) (by simp) rfl rfl) ?_)
          | (go_at_call 12; (refine hRt.out.mono ?_); rintro _ w11 ⟨_, rfl, rfl, hb⟩; (have M11 := hid (MR.out.keep hb)); (have hb11 := hid hb); clear hb)
          | ((with_reducible refine gate (N := 83) rfl ?_); refine wpList_run rfl (exec_load_agg agg_cg rfl rfl M11.out (g := m) (t := 29) (cs := cA ⟨0, 0, 0, 0, [], []⟩ (.slice Ap j cp) (.slice Ag ng cg)) (vs := (cA ⟨0, 0, 0, 0, [], []⟩ (.slice Ap j cp) (.slice Ag ng cg)).toList) (by simp) rfl rfl) ?_)
          | (go_at_call 13; (refine (hBy.out _ hb11.out).mono ?_); rintro _ w12 ⟨_, rfl, M⟩; obtain ⟨A12, c12, rfl⟩ := M.form (.head _); (have hb12 := hid (((Own.start wc).keep hb11.out).keep M.below).below); clear M)
          | (go_at_call 14; (with_reducible refine (hIs0.out _).mono ?_); rintro _ w13 ⟨_, rfl, rfl, hb⟩; (have hb13 := hid (((Own.start wc).keep hb12.out).keep hb).below); clear hb)
          | (go_at_call 14; (refine (hIs1.out w13 ((Own.start wc).keep hb13.out)).mono ?_); rintro _ w14 ⟨_, rfl, rfl, hb⟩; (have hb14 := hid ((((Own.start wc).keep hb13.out).alloc 5 #[.int .u8 127, .int .u8 255]).keep hb).below); clear hb)
          | (go_at_call 14; (refine (hIs2.out w14 ((Own.start wc).keep hb14.out)).mono ?_); rintro _ w15 ⟨_, rfl, rfl, hb⟩; (have hb15 := hid ((((Own.start wc).keep hb14.out).alloc 5 #[.int .u8 128, .int .u8 0]).keep hb).below); clear hb))
        go_ret
        exact .mk ⟨rfl, (((MR.out.keep hb15.out)).below)⟩
      · have hlen : 0 < (cgB (cgN j c e pr)).length := by unfold cgB; simp only [List.length_append, b2_length]; omega
        have hBy := hid (fun w1 (h : Below wc.heap.size wc w1) => cBytes_yes w1 hOk.out (hG.out.below h) hcg.out)
        generalize cgB (cgN j c e pr) = LB at *
        have hlen' : ((LB.length : Nat) : Int) > 0 := by omega
        go_wp2_with (first
          | ((with_reducible refine gate (N := 78) rfl ?_); refine wpList_run rfl (exec_load_agg agg_cg rfl rfl MR.out (g := m) (t := 29) (cs := cA ⟨0, 0, 0, 0, [], []⟩ (.slice Ap j cp) (.slice Ag ng cg)) (vs := (cA ⟨0, 0, 0, 0, [], []⟩ (.slice Ap j cp) (.slice Ag ng cg)).toList) (by simp) rfl rfl) ?_)
          | (go_at_call 12; (refine hRt.out.mono ?_); rintro _ w11 ⟨_, rfl, rfl, hb⟩; (have M11 := hid (MR.out.keep hb)); (have hb11 := hid hb); clear hb)
          | ((with_reducible refine gate (N := 83) rfl ?_); refine wpList_run rfl (exec_load_agg agg_cg rfl rfl M11.out (g := m) (t := 29) (cs := cA ⟨0, 0, 0, 0, [], []⟩ (.slice Ap j cp) (.slice Ag ng cg)) (vs := (cA ⟨0, 0, 0, 0, [], []⟩ (.slice Ap j cp) (.slice Ag ng cg)).toList) (by simp) rfl rfl) ?_)
          | (go_at_call 13; (refine (hBy.out _ hb11.out).mono ?_); rintro _ w12 ⟨_, rfl, M⟩; obtain ⟨A12, c12, rfl⟩ := M.form (.head _); (have hb12 := hid (((Own.start wc).keep hb11.out).keep M.below).below); clear M)
          | (go_at_call 14; (with_reducible refine (hIs0.out _).mono ?_); rintro _ w13 ⟨_, rfl, rfl, hb⟩; (have hb13 := hid (((Own.start wc).keep hb12.out).keep hb).below); clear hb)
          | (go_at_call 14; (refine (hIs1.out w13 ((Own.start wc).keep hb13.out)).mono ?_); rintro _ w14 ⟨_, rfl, rfl, hb⟩; (have hb14 := hid ((((Own.start wc).keep hb13.out).alloc 5 #[.int .u8 127, .int .u8 255]).keep hb).below); clear hb)
          | (go_at_call 14; (refine (hIs2.out w14 ((Own.start wc).keep hb14.out)).mono ?_); rintro _ w15 ⟨_, rfl, rfl, hb⟩; (have hb15 := hid ((((Own.start wc).keep hb14.out).alloc 5 #[.int .u8 128, .int .u8 0]).keep hb).below); clear hb))
        go_ret
        exact .mk ⟨rfl, (((MR.out.keep hb15.out)).below)⟩
end Go.Proofs.Yteoicpbfjkjogaa
