/- Package compo: a part's bytes. -/
import Derived.Test.YteoicpbfjkjogaaCompC
namespace Go.Proofs.Yteoicpbfjkjogaa
open Go Go.RowKit
set_option linter.unusedVariables false
set_option linter.unusedSimpArgs false
set_option maxRecDepth 100000

theorem layF_bits {f : Int} (f0 : 0 ≤ f) (f1 : f < 8192) (h : f / 32 % 2 = 0) (last : Bool) :
    0 ≤ layF f last ∧ layF f last < 65536 ∧ hasB (layF f last) 1 = hasB f 1 ∧ kd (layF f last) = kd f := by
  unfold layF
  cases last
  · refine ⟨by simp; omega, by simp; omega, ?_, ?_⟩
    · have h1 : (f + 32) / 1 % 2 = f / 1 % 2 := by omega
      unfold hasB
      simp only [h1, Bool.false_eq_true, if_false]
    · unfold kd hasB
      have h8 : (f + 32) / 8 % 2 = f / 8 % 2 := by omega
      have h64 : (f + 32) / 64 % 2 = f / 64 % 2 := by omega
      have h128 : (f + 32) / 128 % 2 = f / 128 % 2 := by omega
      simp only [h8, h64, h128, Bool.false_eq_true, if_false]
  · exact ⟨f0, by simp; omega, rfl, rfl⟩
theorem words_ne {f : Int} (f0 : 0 ≤ f) (f1 : f < 65536) : ∃ K, bits .and .u16 f 1 = K ∧ ((hasB f 1 = true ∧ K = 1) ∨ (hasB f 1 = false ∧ K = 0)) := by
  refine ⟨_, and_1 f0 f1, ?_⟩
  unfold b01
  cases hasB f 1 <;> simp
section
variable {W0 w : World} {L1 L : List Ent} {b : Nat} {v : Value} {l : List Int}
set_option maxHeartbeats 4000000 in
theorem lay_calls {p : Pt} (hO : p.Ok) (hR : partB p = true) (last : Bool) (hl : l.length + 16 ≤ 140737488355328) (M : Own W0 w (L1 ++ (wrE b v l ++ L))) :
    Calls Try.prog 30 #[.agg (ptA p), .pointer (some ⟨b, 0, none⟩), .bool last] w (Ret fun r w' => ∃ v', Own W0 w' (L1 ++ (wrE b v' (l ++ layP p last) ++ L))) := by
  unfold partB at hR
  simp only [Bool.and_eq_true] at hR
  obtain ⟨-, hfl, hmt, -⟩ := hR
  obtain ⟨-, h32, -, h8192⟩ := flagB_iff.1 hfl
  obtain ⟨F0, F1, hF1, hFk⟩ := layF_bits hO.f.1 h8192 h32 last
  have ho : bits .or .u16 p.f 32 = p.f + 32 := by rw [or_32 hO.f.1 hO.f.2, b01_has, h32]; omega
  have hlay := hid (show layP p last = b2 (layF p.f last) ++ (b2 p.g ++ (xyB p ++ mB p)) from rfl)
  have hLF := hid (show layF p.f last = if last then p.f else p.f + 32 from rfl)
  obtain ⟨K1, hK1, hw1⟩ := words_ne F0 F1
  obtain ⟨K, hK, hKc⟩ := kd_cases F0 F1
  rw [hF1] at hw1
  rw [hFk] at hKc
  have hmt2 : kd p.f ≠ -1 := by intro h; unfold matB at hmt; rw [h] at hmt; simp at hmt
  have hxy := hid (show xyB p = if hasB p.f 1 then s2 p.x ++ s2 p.y else [p.x % 256, p.y % 256] from rfl)
  have hmB := hid (show mB p = if kd p.f = 4 then s2 p.a ++ (s2 p.b ++ (s2 p.c ++ s2 p.d)) else if kd p.f = 2 then s2 p.a ++ s2 p.d else if kd p.f = 1 then s2 p.a else [] from rfl)
  generalize layF p.f last = F at *
  have hbg := hO.g
  have hbx := hO.x
  have hby := hO.y
  have hba := hO.a
  have hbb := hO.b
  have hbc := hO.c
  have hbd := hO.d
  have hwx : IntKind.u8.wrap p.x = p.x % 256 := IntKind.wrap_u8 _
  have hwy : IntKind.u8.wrap p.y = p.y % 256 := IntKind.wrap_u8 _
  have M0 := hid M
  clear hfl hmt h32 h8192 hF1 hFk hO M
  go_enter Try.func30, Try.ntmps30
  go_upto_if 10 with (first
    | ((with_reducible refine gate (N := 3) rfl ?_); refine wpList_box_Own rfl (cs := ptA p) (t := 35) (by first | (go_simp; done) | (go_simp; rfl)) M0.out ?_; intro m w1 M; obtain ⟨e0, -, -, -, -, -, -, -⟩ := pt_cells (m := m) (p := p) M (by simp); (have M1 := hid M); clear M))
  have MA : Hid (Own W0 w1 ((.blk m 35 (ptA p) :: L1) ++ (wrE b v l ++ L))) := M1
  clear M1 M0
  go_cut [6] (fun s wx => s = .int .u16 F ∧ w1 = wx)
  case first =>
    cases last
    · have hF : F = p.f + 32 := hLF.out
      go_wp2
      go_meet
      exact ⟨by rw [hF], rfl⟩
    · have hF : F = p.f := hLF.out
      go_wp2
      go_meet
      exact ⟨by rw [hF], rfl⟩
  obtain ⟨h6, hw⟩ := hcut
  subst h6 hw
  clear e0 ho hLF
  have hlen : l.length + 16 ≤ 140737488355328 := hl
  go_upto_region 4 with fail
  have MW1 := hid MA.out.drew
  refine wp_region_held_drew (S := (fun w' => w'.cell? ⟨m, 0, none⟩ = some (.int .u16 p.f) ∧ w'.cell? ⟨m, 1, none⟩ = some (.int .u16 p.g) ∧ w'.cell? ⟨m, 2, none⟩ = some (.int .i16 p.x) ∧ w'.cell? ⟨m, 3, none⟩ = some (.int .i16 p.y) ∧ w'.cell? ⟨m, 4, none⟩ = some (.int .i16 p.a) ∧ w'.cell? ⟨m, 5, none⟩ = some (.int .i16 p.b) ∧ w'.cell? ⟨m, 6, none⟩ = some (.int .i16 p.c) ∧ w'.cell? ⟨m, 7, none⟩ = some (.int .i16 p.d))) (by kernel_rfl) (pt_cells (m := m) (p := p) MW1.out (by simp)) (fun hHeld => ?_)
  repeat (first | (refine wpAnyH_take (i := 0) (v := ?_) rfl (by kernel_rfl) (by decide +kernel) (by decide +kernel) (fun _ _ _ h => h) ?_ (by assumption) ?_; rotate_left; (first | (refine yields_load (by rfl) rfl rfl ?_; intro w hSw; (try dsimp only at hSw); go_split_ands; assumption) | (refine Or.inl ⟨by rfl, ?_⟩; intro w hSw; (try dsimp only at hSw); go_simp; done) | (refine Or.inl ⟨by rfl, ?_⟩; intro w hSw; (try dsimp only at hSw); go_simp; with_reducible rfl) | exact Or.inr ⟨by rfl, rfl⟩ | exact Or.inr ⟨by rfl, by rfl⟩); (try simp only [Act.put, List.setIfInBounds_toArray, List.set_cons_zero, List.set_cons_succ, List.getElem_toArray, List.getElem_cons_zero, List.getElem_cons_succ])) | (refine wpAnyH_take (i := 1) (v := ?_) rfl (by kernel_rfl) (by decide +kernel) (by decide +kernel) (fun _ _ _ h => h) ?_ (by assumption) ?_; rotate_left; (first | (refine yields_load (by rfl) rfl rfl ?_; intro w hSw; (try dsimp only at hSw); go_split_ands; assumption) | (refine Or.inl ⟨by rfl, ?_⟩; intro w hSw; (try dsimp only at hSw); go_simp; done) | (refine Or.inl ⟨by rfl, ?_⟩; intro w hSw; (try dsimp only at hSw); go_simp; with_reducible rfl) | exact Or.inr ⟨by rfl, rfl⟩ | exact Or.inr ⟨by rfl, by rfl⟩); (try simp only [Act.put, List.setIfInBounds_toArray, List.set_cons_zero, List.set_cons_succ, List.getElem_toArray, List.getElem_cons_zero, List.getElem_cons_succ])) | (refine wpAnyH_take (i := 3) (v := ?_) rfl (by kernel_rfl) (by decide +kernel) (by decide +kernel) (fun _ _ _ h => h) ?_ (by assumption) ?_; rotate_left; (first | (refine yields_load (by rfl) rfl rfl ?_; intro w hSw; (try dsimp only at hSw); go_split_ands; assumption) | (refine Or.inl ⟨by rfl, ?_⟩; intro w hSw; (try dsimp only at hSw); go_simp; done) | (refine Or.inl ⟨by rfl, ?_⟩; intro w hSw; (try dsimp only at hSw); go_simp; with_reducible rfl) | exact Or.inr ⟨by rfl, rfl⟩ | exact Or.inr ⟨by rfl, by rfl⟩); (try simp only [Act.put, List.setIfInBounds_toArray, List.set_cons_zero, List.set_cons_succ, List.getElem_toArray, List.getElem_cons_zero, List.getElem_cons_succ])) | (refine wpAnyH_take (i := 4) (v := ?_) rfl (by kernel_rfl) (by decide +kernel) (by decide +kernel) (fun _ _ _ h => h) ?_ (by assumption) ?_; rotate_left; (first | (refine yields_load (by rfl) rfl rfl ?_; intro w hSw; (try dsimp only at hSw); go_split_ands; assumption) | (refine Or.inl ⟨by rfl, ?_⟩; intro w hSw; (try dsimp only at hSw); go_simp; done) | (refine Or.inl ⟨by rfl, ?_⟩; intro w hSw; (try dsimp only at hSw); go_simp; with_reducible rfl) | exact Or.inr ⟨by rfl, rfl⟩ | exact Or.inr ⟨by rfl, by rfl⟩); (try simp only [Act.put, List.setIfInBounds_toArray, List.set_cons_zero, List.set_cons_succ, List.getElem_toArray, List.getElem_cons_zero, List.getElem_cons_succ])))
  refine wpAnyH_ready (rs := [2]) (by decide +kernel) (by simp) ?_; refine AllReadyH.cons rfl (fun K hK => ?_) AllReadyH.nil; go_simp
  refine (wr_U16 (L1 := .blk m 35 (ptA p) :: L1) F0 F1 (by omega) MW1.out).mono ?_
  rintro _ w2 ⟨_, rfl, rfl, v2, M⟩
  have M2 := hid M
  clear M
  go_wp2_with fail
  refine hK.out _ _ (pt_cells (m := m) (p := p) M2.out (by simp)) (fun hHeld => ?_); clear hK K; (try simp only [Act.put, List.setIfInBounds_toArray, List.set_cons_zero, List.set_cons_succ, List.getElem_toArray, List.getElem_cons_zero, List.getElem_cons_succ])
  refine wpAnyH_ready (rs := [5]) (by decide +kernel) (by simp) ?_; refine AllReadyH.cons rfl (fun K hK => ?_) AllReadyH.nil; go_simp
  refine (wr_U16 (L1 := .blk m 35 (ptA p) :: L1) hbg.1 hbg.2 (by simp only [List.length_append, b2_length] at hlen ⊢; omega) M2.out).mono ?_
  rintro _ w3 ⟨_, rfl, rfl, v3, M⟩
  have M3 := hid M
  clear M
  go_wp2_with fail
  refine hK.out _ _ (pt_cells (m := m) (p := p) M3.out (by simp)) (fun hHeld => ?_); clear hK K; (try simp only [Act.put, List.setIfInBounds_toArray, List.set_cons_zero, List.set_cons_succ, List.getElem_toArray, List.getElem_cons_zero, List.getElem_cons_succ])
  refine wpAnyH_done (by kernel_rfl) ?_ _
  have MB := M3
  clear MA
  go_upto_if 21 with fail
  go_cut [] (fun wx => ∃ v', Hid (Own W0 wx ((.blk m 35 (ptA p) :: L1) ++ (wrE b v' (l ++ b2 F ++ b2 p.g ++ xyB p) ++ L))))
  case first =>
    rcases hw1 with ⟨h1, rfl⟩ | ⟨h1, rfl⟩
    · rw [h1, if_pos rfl] at hxy
      go_upto_region 6 with fail
      have MW4 := hid MB.out.drew
      refine wp_region_held_drew (S := (fun w' => w'.cell? ⟨m, 0, none⟩ = some (.int .u16 p.f) ∧ w'.cell? ⟨m, 1, none⟩ = some (.int .u16 p.g) ∧ w'.cell? ⟨m, 2, none⟩ = some (.int .i16 p.x) ∧ w'.cell? ⟨m, 3, none⟩ = some (.int .i16 p.y) ∧ w'.cell? ⟨m, 4, none⟩ = some (.int .i16 p.a) ∧ w'.cell? ⟨m, 5, none⟩ = some (.int .i16 p.b) ∧ w'.cell? ⟨m, 6, none⟩ = some (.int .i16 p.c) ∧ w'.cell? ⟨m, 7, none⟩ = some (.int .i16 p.d))) (by kernel_rfl) (pt_cells (m := m) (p := p) MW4.out (by simp)) (fun hHeld => ?_)
      repeat (first | (refine wpAnyH_take (i := 0) (v := ?_) rfl (by kernel_rfl) (by decide +kernel) (by decide +kernel) (fun _ _ _ h => h) ?_ (by assumption) ?_; rotate_left; (first | (refine yields_load (by rfl) rfl rfl ?_; intro w hSw; (try dsimp only at hSw); go_split_ands; assumption) | (refine Or.inl ⟨by rfl, ?_⟩; intro w hSw; (try dsimp only at hSw); go_simp; done) | (refine Or.inl ⟨by rfl, ?_⟩; intro w hSw; (try dsimp only at hSw); go_simp; with_reducible rfl) | exact Or.inr ⟨by rfl, rfl⟩ | exact Or.inr ⟨by rfl, by rfl⟩); (try simp only [Act.put, List.setIfInBounds_toArray, List.set_cons_zero, List.set_cons_succ, List.getElem_toArray, List.getElem_cons_zero, List.getElem_cons_succ])) | (refine wpAnyH_take (i := 1) (v := ?_) rfl (by kernel_rfl) (by decide +kernel) (by decide +kernel) (fun _ _ _ h => h) ?_ (by assumption) ?_; rotate_left; (first | (refine yields_load (by rfl) rfl rfl ?_; intro w hSw; (try dsimp only at hSw); go_split_ands; assumption) | (refine Or.inl ⟨by rfl, ?_⟩; intro w hSw; (try dsimp only at hSw); go_simp; done) | (refine Or.inl ⟨by rfl, ?_⟩; intro w hSw; (try dsimp only at hSw); go_simp; with_reducible rfl) | exact Or.inr ⟨by rfl, rfl⟩ | exact Or.inr ⟨by rfl, by rfl⟩); (try simp only [Act.put, List.setIfInBounds_toArray, List.set_cons_zero, List.set_cons_succ, List.getElem_toArray, List.getElem_cons_zero, List.getElem_cons_succ])) | (refine wpAnyH_take (i := 2) (v := ?_) rfl (by kernel_rfl) (by decide +kernel) (by decide +kernel) (fun _ _ _ h => h) ?_ (by assumption) ?_; rotate_left; (first | (refine yields_load (by rfl) rfl rfl ?_; intro w hSw; (try dsimp only at hSw); go_split_ands; assumption) | (refine Or.inl ⟨by rfl, ?_⟩; intro w hSw; (try dsimp only at hSw); go_simp; done) | (refine Or.inl ⟨by rfl, ?_⟩; intro w hSw; (try dsimp only at hSw); go_simp; with_reducible rfl) | exact Or.inr ⟨by rfl, rfl⟩ | exact Or.inr ⟨by rfl, by rfl⟩); (try simp only [Act.put, List.setIfInBounds_toArray, List.set_cons_zero, List.set_cons_succ, List.getElem_toArray, List.getElem_cons_zero, List.getElem_cons_succ])) | (refine wpAnyH_take (i := 4) (v := ?_) rfl (by kernel_rfl) (by decide +kernel) (by decide +kernel) (fun _ _ _ h => h) ?_ (by assumption) ?_; rotate_left; (first | (refine yields_load (by rfl) rfl rfl ?_; intro w hSw; (try dsimp only at hSw); go_split_ands; assumption) | (refine Or.inl ⟨by rfl, ?_⟩; intro w hSw; (try dsimp only at hSw); go_simp; done) | (refine Or.inl ⟨by rfl, ?_⟩; intro w hSw; (try dsimp only at hSw); go_simp; with_reducible rfl) | exact Or.inr ⟨by rfl, rfl⟩ | exact Or.inr ⟨by rfl, by rfl⟩); (try simp only [Act.put, List.setIfInBounds_toArray, List.set_cons_zero, List.set_cons_succ, List.getElem_toArray, List.getElem_cons_zero, List.getElem_cons_succ])) | (refine wpAnyH_take (i := 5) (v := ?_) rfl (by kernel_rfl) (by decide +kernel) (by decide +kernel) (fun _ _ _ h => h) ?_ (by assumption) ?_; rotate_left; (first | (refine yields_load (by rfl) rfl rfl ?_; intro w hSw; (try dsimp only at hSw); go_split_ands; assumption) | (refine Or.inl ⟨by rfl, ?_⟩; intro w hSw; (try dsimp only at hSw); go_simp; done) | (refine Or.inl ⟨by rfl, ?_⟩; intro w hSw; (try dsimp only at hSw); go_simp; with_reducible rfl) | exact Or.inr ⟨by rfl, rfl⟩ | exact Or.inr ⟨by rfl, by rfl⟩); (try simp only [Act.put, List.setIfInBounds_toArray, List.set_cons_zero, List.set_cons_succ, List.getElem_toArray, List.getElem_cons_zero, List.getElem_cons_succ])))
      refine wpAnyH_ready (rs := [3]) (by decide +kernel) (by simp) ?_; refine AllReadyH.cons rfl (fun K hK => ?_) AllReadyH.nil; go_simp
      refine (wr_I16 (L1 := .blk m 35 (ptA p) :: L1) (n := p.x) hbx.1 hbx.2 (by simp only [List.length_append, b2_length] at hlen ⊢; omega) MW4.out).mono ?_
      rintro _ w5 ⟨_, rfl, rfl, v5, M⟩
      have M5 := hid M
      clear M
      go_wp2_with fail
      refine hK.out _ _ (pt_cells (m := m) (p := p) M5.out (by simp)) (fun hHeld => ?_); clear hK K; (try simp only [Act.put, List.setIfInBounds_toArray, List.set_cons_zero, List.set_cons_succ, List.getElem_toArray, List.getElem_cons_zero, List.getElem_cons_succ])
      refine wpAnyH_ready (rs := [6]) (by decide +kernel) (by simp) ?_; refine AllReadyH.cons rfl (fun K hK => ?_) AllReadyH.nil; go_simp
      refine (wr_I16 (L1 := .blk m 35 (ptA p) :: L1) (n := p.y) hby.1 hby.2 (by simp only [List.length_append, b2_length] at hlen ⊢; omega) M5.out).mono ?_
      rintro _ w6 ⟨_, rfl, rfl, v6, M⟩
      have M6 := hid M
      clear M
      go_wp2_with fail
      refine hK.out _ _ (pt_cells (m := m) (p := p) M6.out (by simp)) (fun hHeld => ?_); clear hK K; (try simp only [Act.put, List.setIfInBounds_toArray, List.set_cons_zero, List.set_cons_succ, List.getElem_toArray, List.getElem_cons_zero, List.getElem_cons_succ])
      refine wpAnyH_done (by kernel_rfl) ?_ _
      go_wp2
      go_meet
      exact ⟨_, hid (by have h := M6.out; rw [hxy.out]; unfold s2; rw [← List.append_assoc (l ++ b2 F ++ b2 p.g)]; exact h)⟩
    · rw [h1, if_neg (by simp)] at hxy
      go_upto_region 7 with fail
      have MW7 := hid MB.out.drew
      refine wp_region_held_drew (S := (fun w' => w'.cell? ⟨m, 0, none⟩ = some (.int .u16 p.f) ∧ w'.cell? ⟨m, 1, none⟩ = some (.int .u16 p.g) ∧ w'.cell? ⟨m, 2, none⟩ = some (.int .i16 p.x) ∧ w'.cell? ⟨m, 3, none⟩ = some (.int .i16 p.y) ∧ w'.cell? ⟨m, 4, none⟩ = some (.int .i16 p.a) ∧ w'.cell? ⟨m, 5, none⟩ = some (.int .i16 p.b) ∧ w'.cell? ⟨m, 6, none⟩ = some (.int .i16 p.c) ∧ w'.cell? ⟨m, 7, none⟩ = some (.int .i16 p.d))) (by kernel_rfl) (pt_cells (m := m) (p := p) MW7.out (by simp)) (fun hHeld => ?_)
      repeat (first | (refine wpAnyH_take (i := 0) (v := ?_) rfl (by kernel_rfl) (by decide +kernel) (by decide +kernel) (fun _ _ _ h => h) ?_ (by assumption) ?_; rotate_left; (first | (refine yields_load (by rfl) rfl rfl ?_; intro w hSw; (try dsimp only at hSw); go_split_ands; assumption) | (refine Or.inl ⟨by rfl, ?_⟩; intro w hSw; (try dsimp only at hSw); go_simp; done) | (refine Or.inl ⟨by rfl, ?_⟩; intro w hSw; (try dsimp only at hSw); go_simp; with_reducible rfl) | exact Or.inr ⟨by rfl, rfl⟩ | exact Or.inr ⟨by rfl, by rfl⟩); (try simp only [Act.put, List.setIfInBounds_toArray, List.set_cons_zero, List.set_cons_succ, List.getElem_toArray, List.getElem_cons_zero, List.getElem_cons_succ])) | (refine wpAnyH_take (i := 1) (v := ?_) rfl (by kernel_rfl) (by decide +kernel) (by decide +kernel) (fun _ _ _ h => h) ?_ (by assumption) ?_; rotate_left; (first | (refine yields_load (by rfl) rfl rfl ?_; intro w hSw; (try dsimp only at hSw); go_split_ands; assumption) | (refine Or.inl ⟨by rfl, ?_⟩; intro w hSw; (try dsimp only at hSw); go_simp; done) | (refine Or.inl ⟨by rfl, ?_⟩; intro w hSw; (try dsimp only at hSw); go_simp; with_reducible rfl) | exact Or.inr ⟨by rfl, rfl⟩ | exact Or.inr ⟨by rfl, by rfl⟩); (try simp only [Act.put, List.setIfInBounds_toArray, List.set_cons_zero, List.set_cons_succ, List.getElem_toArray, List.getElem_cons_zero, List.getElem_cons_succ])) | (refine wpAnyH_take (i := 2) (v := ?_) rfl (by kernel_rfl) (by decide +kernel) (by decide +kernel) (fun _ _ _ h => h) ?_ (by assumption) ?_; rotate_left; (first | (refine yields_load (by rfl) rfl rfl ?_; intro w hSw; (try dsimp only at hSw); go_split_ands; assumption) | (refine Or.inl ⟨by rfl, ?_⟩; intro w hSw; (try dsimp only at hSw); go_simp; done) | (refine Or.inl ⟨by rfl, ?_⟩; intro w hSw; (try dsimp only at hSw); go_simp; with_reducible rfl) | exact Or.inr ⟨by rfl, rfl⟩ | exact Or.inr ⟨by rfl, by rfl⟩); (try simp only [Act.put, List.setIfInBounds_toArray, List.set_cons_zero, List.set_cons_succ, List.getElem_toArray, List.getElem_cons_zero, List.getElem_cons_succ])) | (refine wpAnyH_take (i := 3) (v := ?_) rfl (by kernel_rfl) (by decide +kernel) (by decide +kernel) (fun _ _ _ h => h) ?_ (by assumption) ?_; rotate_left; (first | (refine yields_load (by rfl) rfl rfl ?_; intro w hSw; (try dsimp only at hSw); go_split_ands; assumption) | (refine Or.inl ⟨by rfl, ?_⟩; intro w hSw; (try dsimp only at hSw); go_simp; done) | (refine Or.inl ⟨by rfl, ?_⟩; intro w hSw; (try dsimp only at hSw); go_simp; with_reducible rfl) | exact Or.inr ⟨by rfl, rfl⟩ | exact Or.inr ⟨by rfl, by rfl⟩); (try simp only [Act.put, List.setIfInBounds_toArray, List.set_cons_zero, List.set_cons_succ, List.getElem_toArray, List.getElem_cons_zero, List.getElem_cons_succ])) | (refine wpAnyH_take (i := 5) (v := ?_) rfl (by kernel_rfl) (by decide +kernel) (by decide +kernel) (fun _ _ _ h => h) ?_ (by assumption) ?_; rotate_left; (first | (refine yields_load (by rfl) rfl rfl ?_; intro w hSw; (try dsimp only at hSw); go_split_ands; assumption) | (refine Or.inl ⟨by rfl, ?_⟩; intro w hSw; (try dsimp only at hSw); go_simp; done) | (refine Or.inl ⟨by rfl, ?_⟩; intro w hSw; (try dsimp only at hSw); go_simp; with_reducible rfl) | exact Or.inr ⟨by rfl, rfl⟩ | exact Or.inr ⟨by rfl, by rfl⟩); (try simp only [Act.put, List.setIfInBounds_toArray, List.set_cons_zero, List.set_cons_succ, List.getElem_toArray, List.getElem_cons_zero, List.getElem_cons_succ])) | (refine wpAnyH_take (i := 6) (v := ?_) rfl (by kernel_rfl) (by decide +kernel) (by decide +kernel) (fun _ _ _ h => h) ?_ (by assumption) ?_; rotate_left; (first | (refine yields_load (by rfl) rfl rfl ?_; intro w hSw; (try dsimp only at hSw); go_split_ands; assumption) | (refine Or.inl ⟨by rfl, ?_⟩; intro w hSw; (try dsimp only at hSw); go_simp; done) | (refine Or.inl ⟨by rfl, ?_⟩; intro w hSw; (try dsimp only at hSw); go_simp; with_reducible rfl) | exact Or.inr ⟨by rfl, rfl⟩ | exact Or.inr ⟨by rfl, by rfl⟩); (try simp only [Act.put, List.setIfInBounds_toArray, List.set_cons_zero, List.set_cons_succ, List.getElem_toArray, List.getElem_cons_zero, List.getElem_cons_succ])) | (refine wpAnyH_take (i := 7) (v := ?_) rfl (by kernel_rfl) (by decide +kernel) (by decide +kernel) (fun _ _ _ h => h) ?_ (by assumption) ?_; rotate_left; (first | (refine yields_load (by rfl) rfl rfl ?_; intro w hSw; (try dsimp only at hSw); go_split_ands; assumption) | (refine Or.inl ⟨by rfl, ?_⟩; intro w hSw; (try dsimp only at hSw); go_simp; done) | (refine Or.inl ⟨by rfl, ?_⟩; intro w hSw; (try dsimp only at hSw); go_simp; with_reducible rfl) | exact Or.inr ⟨by rfl, rfl⟩ | exact Or.inr ⟨by rfl, by rfl⟩); (try simp only [Act.put, List.setIfInBounds_toArray, List.set_cons_zero, List.set_cons_succ, List.getElem_toArray, List.getElem_cons_zero, List.getElem_cons_succ])))
      refine wpAnyH_ready (rs := [4]) (by decide +kernel) (by simp) ?_; refine AllReadyH.cons rfl (fun K hK => ?_) AllReadyH.nil; go_simp
      refine (wr_U8 (L1 := .blk m 35 (ptA p) :: L1) (n := p.x % 256) (by omega) (by omega) (by simp only [List.length_append, b2_length, List.length_cons, List.length_nil] at hlen ⊢; omega) MW7.out).mono ?_
      rintro _ w8 ⟨_, rfl, rfl, v8, M⟩
      have M8 := hid M
      clear M
      go_wp2_with fail
      refine hK.out _ _ (pt_cells (m := m) (p := p) M8.out (by simp)) (fun hHeld => ?_); clear hK K; (try simp only [Act.put, List.setIfInBounds_toArray, List.set_cons_zero, List.set_cons_succ, List.getElem_toArray, List.getElem_cons_zero, List.getElem_cons_succ])
      refine wpAnyH_ready (rs := [8]) (by decide +kernel) (by simp) ?_; refine AllReadyH.cons rfl (fun K hK => ?_) AllReadyH.nil; go_simp
      refine (wr_U8 (L1 := .blk m 35 (ptA p) :: L1) (n := p.y % 256) (by omega) (by omega) (by simp only [List.length_append, b2_length, List.length_cons, List.length_nil] at hlen ⊢; omega) M8.out).mono ?_
      rintro _ w9 ⟨_, rfl, rfl, v9, M⟩
      have M9 := hid M
      clear M
      go_wp2_with fail
      refine hK.out _ _ (pt_cells (m := m) (p := p) M9.out (by simp)) (fun hHeld => ?_); clear hK K; (try simp only [Act.put, List.setIfInBounds_toArray, List.set_cons_zero, List.set_cons_succ, List.getElem_toArray, List.getElem_cons_zero, List.getElem_cons_succ])
      refine wpAnyH_done (by kernel_rfl) ?_ _
      go_wp2
      go_meet
      exact ⟨_, hid (by have h := M9.out; rw [hxy.out, show [p.x % 256, p.y % 256] = [p.x % 256] ++ [p.y % 256] from rfl, ← List.append_assoc (l ++ b2 F ++ b2 p.g)]; exact h)⟩
  obtain ⟨v9, MC⟩ := hcut
  clear MB hw1 hK1 hwx hwy
  have hxl : (xyB p).length ≤ 4 := by unfold xyB; split <;> simp [s2_length]
  generalize xyB p = xy at *
  rcases hKc with ⟨rfl, hk⟩ | ⟨rfl, hk⟩ | ⟨rfl, hk⟩ | ⟨rfl, hk⟩ | ⟨k0, k1, k2, k3, hk⟩
  · rw [hk] at hmB
    go_wp2
    go_end0
    exact .mk ⟨v9, by have h := MC.out.tail; rw [hlay.out, hmB.out]; simpa [List.append_assoc] using h⟩
  · rw [hk] at hmB
    have hc := pt_cells (m := m) (p := p) MC.out (by simp)
    obtain ⟨-, -, -, -, e4, -, -, -⟩ := hc
    go_wp2_with (go_at_call 29; (have hC := wr_I16 (L1 := .blk m 35 (ptA p) :: L1) (n := p.a) hba.1 hba.2 (by simp only [List.length_append, b2_length] at hlen ⊢; omega) MC.out); ((with_reducible refine hC.mono ?_); clear hC); rintro _ w8 ⟨_, rfl, rfl, v8, M⟩; (have M8 := hid M); clear M)
    go_end0
    exact .mk ⟨v8, by have h := M8.out.tail; rw [hlay.out, hmB.out]; unfold s2; simpa [List.append_assoc] using h⟩
  · rw [hk] at hmB
    go_upto_region 12 with fail
    have MW10 := hid MC.out.drew
    refine wp_region_held_drew (S := (fun w' => w'.cell? ⟨m, 0, none⟩ = some (.int .u16 p.f) ∧ w'.cell? ⟨m, 1, none⟩ = some (.int .u16 p.g) ∧ w'.cell? ⟨m, 2, none⟩ = some (.int .i16 p.x) ∧ w'.cell? ⟨m, 3, none⟩ = some (.int .i16 p.y) ∧ w'.cell? ⟨m, 4, none⟩ = some (.int .i16 p.a) ∧ w'.cell? ⟨m, 5, none⟩ = some (.int .i16 p.b) ∧ w'.cell? ⟨m, 6, none⟩ = some (.int .i16 p.c) ∧ w'.cell? ⟨m, 7, none⟩ = some (.int .i16 p.d))) (by kernel_rfl) (pt_cells (m := m) (p := p) MW10.out (by simp)) (fun hHeld => ?_)
    repeat (first | (refine wpAnyH_take (i := 0) (v := ?_) rfl (by kernel_rfl) (by decide +kernel) (by decide +kernel) (fun _ _ _ h => h) ?_ (by assumption) ?_; rotate_left; (first | (refine yields_load (by rfl) rfl rfl ?_; intro w hSw; (try dsimp only at hSw); go_split_ands; assumption) | (refine Or.inl ⟨by rfl, ?_⟩; intro w hSw; (try dsimp only at hSw); go_simp; done) | (refine Or.inl ⟨by rfl, ?_⟩; intro w hSw; (try dsimp only at hSw); go_simp; with_reducible rfl) | exact Or.inr ⟨by rfl, rfl⟩ | exact Or.inr ⟨by rfl, by rfl⟩); (try simp only [Act.put, List.setIfInBounds_toArray, List.set_cons_zero, List.set_cons_succ, List.getElem_toArray, List.getElem_cons_zero, List.getElem_cons_succ])) | (refine wpAnyH_take (i := 1) (v := ?_) rfl (by kernel_rfl) (by decide +kernel) (by decide +kernel) (fun _ _ _ h => h) ?_ (by assumption) ?_; rotate_left; (first | (refine yields_load (by rfl) rfl rfl ?_; intro w hSw; (try dsimp only at hSw); go_split_ands; assumption) | (refine Or.inl ⟨by rfl, ?_⟩; intro w hSw; (try dsimp only at hSw); go_simp; done) | (refine Or.inl ⟨by rfl, ?_⟩; intro w hSw; (try dsimp only at hSw); go_simp; with_reducible rfl) | exact Or.inr ⟨by rfl, rfl⟩ | exact Or.inr ⟨by rfl, by rfl⟩); (try simp only [Act.put, List.setIfInBounds_toArray, List.set_cons_zero, List.set_cons_succ, List.getElem_toArray, List.getElem_cons_zero, List.getElem_cons_succ])) | (refine wpAnyH_take (i := 2) (v := ?_) rfl (by kernel_rfl) (by decide +kernel) (by decide +kernel) (fun _ _ _ h => h) ?_ (by assumption) ?_; rotate_left; (first | (refine yields_load (by rfl) rfl rfl ?_; intro w hSw; (try dsimp only at hSw); go_split_ands; assumption) | (refine Or.inl ⟨by rfl, ?_⟩; intro w hSw; (try dsimp only at hSw); go_simp; done) | (refine Or.inl ⟨by rfl, ?_⟩; intro w hSw; (try dsimp only at hSw); go_simp; with_reducible rfl) | exact Or.inr ⟨by rfl, rfl⟩ | exact Or.inr ⟨by rfl, by rfl⟩); (try simp only [Act.put, List.setIfInBounds_toArray, List.set_cons_zero, List.set_cons_succ, List.getElem_toArray, List.getElem_cons_zero, List.getElem_cons_succ])) | (refine wpAnyH_take (i := 3) (v := ?_) rfl (by kernel_rfl) (by decide +kernel) (by decide +kernel) (fun _ _ _ h => h) ?_ (by assumption) ?_; rotate_left; (first | (refine yields_load (by rfl) rfl rfl ?_; intro w hSw; (try dsimp only at hSw); go_split_ands; assumption) | (refine Or.inl ⟨by rfl, ?_⟩; intro w hSw; (try dsimp only at hSw); go_simp; done) | (refine Or.inl ⟨by rfl, ?_⟩; intro w hSw; (try dsimp only at hSw); go_simp; with_reducible rfl) | exact Or.inr ⟨by rfl, rfl⟩ | exact Or.inr ⟨by rfl, by rfl⟩); (try simp only [Act.put, List.setIfInBounds_toArray, List.set_cons_zero, List.set_cons_succ, List.getElem_toArray, List.getElem_cons_zero, List.getElem_cons_succ])) | (refine wpAnyH_take (i := 5) (v := ?_) rfl (by kernel_rfl) (by decide +kernel) (by decide +kernel) (fun _ _ _ h => h) ?_ (by assumption) ?_; rotate_left; (first | (refine yields_load (by rfl) rfl rfl ?_; intro w hSw; (try dsimp only at hSw); go_split_ands; assumption) | (refine Or.inl ⟨by rfl, ?_⟩; intro w hSw; (try dsimp only at hSw); go_simp; done) | (refine Or.inl ⟨by rfl, ?_⟩; intro w hSw; (try dsimp only at hSw); go_simp; with_reducible rfl) | exact Or.inr ⟨by rfl, rfl⟩ | exact Or.inr ⟨by rfl, by rfl⟩); (try simp only [Act.put, List.setIfInBounds_toArray, List.set_cons_zero, List.set_cons_succ, List.getElem_toArray, List.getElem_cons_zero, List.getElem_cons_succ])) | (refine wpAnyH_take (i := 6) (v := ?_) rfl (by kernel_rfl) (by decide +kernel) (by decide +kernel) (fun _ _ _ h => h) ?_ (by assumption) ?_; rotate_left; (first | (refine yields_load (by rfl) rfl rfl ?_; intro w hSw; (try dsimp only at hSw); go_split_ands; assumption) | (refine Or.inl ⟨by rfl, ?_⟩; intro w hSw; (try dsimp only at hSw); go_simp; done) | (refine Or.inl ⟨by rfl, ?_⟩; intro w hSw; (try dsimp only at hSw); go_simp; with_reducible rfl) | exact Or.inr ⟨by rfl, rfl⟩ | exact Or.inr ⟨by rfl, by rfl⟩); (try simp only [Act.put, List.setIfInBounds_toArray, List.set_cons_zero, List.set_cons_succ, List.getElem_toArray, List.getElem_cons_zero, List.getElem_cons_succ])) | (refine wpAnyH_take (i := 7) (v := ?_) rfl (by kernel_rfl) (by decide +kernel) (by decide +kernel) (fun _ _ _ h => h) ?_ (by assumption) ?_; rotate_left; (first | (refine yields_load (by rfl) rfl rfl ?_; intro w hSw; (try dsimp only at hSw); go_split_ands; assumption) | (refine Or.inl ⟨by rfl, ?_⟩; intro w hSw; (try dsimp only at hSw); go_simp; done) | (refine Or.inl ⟨by rfl, ?_⟩; intro w hSw; (try dsimp only at hSw); go_simp; with_reducible rfl) | exact Or.inr ⟨by rfl, rfl⟩ | exact Or.inr ⟨by rfl, by rfl⟩); (try simp only [Act.put, List.setIfInBounds_toArray, List.set_cons_zero, List.set_cons_succ, List.getElem_toArray, List.getElem_cons_zero, List.getElem_cons_succ])))
    refine wpAnyH_ready (rs := [4]) (by decide +kernel) (by simp) ?_; refine AllReadyH.cons rfl (fun K hK => ?_) AllReadyH.nil; go_simp
    refine (wr_I16 (L1 := .blk m 35 (ptA p) :: L1) (n := p.a) hba.1 hba.2 (by simp only [List.length_append, b2_length] at hlen ⊢; omega) MW10.out).mono ?_
    rintro _ w11 ⟨_, rfl, rfl, v11, M⟩
    have M11 := hid M
    clear M
    go_wp2_with fail
    refine hK.out _ _ (pt_cells (m := m) (p := p) M11.out (by simp)) (fun hHeld => ?_); clear hK K; (try simp only [Act.put, List.setIfInBounds_toArray, List.set_cons_zero, List.set_cons_succ, List.getElem_toArray, List.getElem_cons_zero, List.getElem_cons_succ])
    refine wpAnyH_ready (rs := [8]) (by decide +kernel) (by simp) ?_; refine AllReadyH.cons rfl (fun K hK => ?_) AllReadyH.nil; go_simp
    refine (wr_I16 (L1 := .blk m 35 (ptA p) :: L1) (n := p.d) hbd.1 hbd.2 (by simp only [List.length_append, b2_length] at hlen ⊢; omega) M11.out).mono ?_
    rintro _ w12 ⟨_, rfl, rfl, v12, M⟩
    have M12 := hid M
    clear M
    go_wp2_with fail
    refine hK.out _ _ (pt_cells (m := m) (p := p) M12.out (by simp)) (fun hHeld => ?_); clear hK K; (try simp only [Act.put, List.setIfInBounds_toArray, List.set_cons_zero, List.set_cons_succ, List.getElem_toArray, List.getElem_cons_zero, List.getElem_cons_succ])
    refine wpAnyH_done (by kernel_rfl) ?_ _
    go_wp2
    go_end0
    exact .mk ⟨_, by have h := M12.out.tail; rw [hlay.out, hmB.out]; unfold s2; simpa [List.append_assoc] using h⟩
  · rw [hk] at hmB
    go_upto_region 14 with fail
    have MW13 := hid MC.out.drew
    refine wp_region_held_drew (S := (fun w' => w'.cell? ⟨m, 0, none⟩ = some (.int .u16 p.f) ∧ w'.cell? ⟨m, 1, none⟩ = some (.int .u16 p.g) ∧ w'.cell? ⟨m, 2, none⟩ = some (.int .i16 p.x) ∧ w'.cell? ⟨m, 3, none⟩ = some (.int .i16 p.y) ∧ w'.cell? ⟨m, 4, none⟩ = some (.int .i16 p.a) ∧ w'.cell? ⟨m, 5, none⟩ = some (.int .i16 p.b) ∧ w'.cell? ⟨m, 6, none⟩ = some (.int .i16 p.c) ∧ w'.cell? ⟨m, 7, none⟩ = some (.int .i16 p.d))) (by kernel_rfl) (pt_cells (m := m) (p := p) MW13.out (by simp)) (fun hHeld => ?_)
    repeat (first | (refine wpAnyH_take (i := 0) (v := ?_) rfl (by kernel_rfl) (by decide +kernel) (by decide +kernel) (fun _ _ _ h => h) ?_ (by assumption) ?_; rotate_left; (first | (refine yields_load (by rfl) rfl rfl ?_; intro w hSw; (try dsimp only at hSw); go_split_ands; assumption) | (refine Or.inl ⟨by rfl, ?_⟩; intro w hSw; (try dsimp only at hSw); go_simp; done) | (refine Or.inl ⟨by rfl, ?_⟩; intro w hSw; (try dsimp only at hSw); go_simp; with_reducible rfl) | exact Or.inr ⟨by rfl, rfl⟩ | exact Or.inr ⟨by rfl, by rfl⟩); (try simp only [Act.put, List.setIfInBounds_toArray, List.set_cons_zero, List.set_cons_succ, List.getElem_toArray, List.getElem_cons_zero, List.getElem_cons_succ])) | (refine wpAnyH_take (i := 1) (v := ?_) rfl (by kernel_rfl) (by decide +kernel) (by decide +kernel) (fun _ _ _ h => h) ?_ (by assumption) ?_; rotate_left; (first | (refine yields_load (by rfl) rfl rfl ?_; intro w hSw; (try dsimp only at hSw); go_split_ands; assumption) | (refine Or.inl ⟨by rfl, ?_⟩; intro w hSw; (try dsimp only at hSw); go_simp; done) | (refine Or.inl ⟨by rfl, ?_⟩; intro w hSw; (try dsimp only at hSw); go_simp; with_reducible rfl) | exact Or.inr ⟨by rfl, rfl⟩ | exact Or.inr ⟨by rfl, by rfl⟩); (try simp only [Act.put, List.setIfInBounds_toArray, List.set_cons_zero, List.set_cons_succ, List.getElem_toArray, List.getElem_cons_zero, List.getElem_cons_succ])) | (refine wpAnyH_take (i := 2) (v := ?_) rfl (by kernel_rfl) (by decide +kernel) (by decide +kernel) (fun _ _ _ h => h) ?_ (by assumption) ?_; rotate_left; (first | (refine yields_load (by rfl) rfl rfl ?_; intro w hSw; (try dsimp only at hSw); go_split_ands; assumption) | (refine Or.inl ⟨by rfl, ?_⟩; intro w hSw; (try dsimp only at hSw); go_simp; done) | (refine Or.inl ⟨by rfl, ?_⟩; intro w hSw; (try dsimp only at hSw); go_simp; with_reducible rfl) | exact Or.inr ⟨by rfl, rfl⟩ | exact Or.inr ⟨by rfl, by rfl⟩); (try simp only [Act.put, List.setIfInBounds_toArray, List.set_cons_zero, List.set_cons_succ, List.getElem_toArray, List.getElem_cons_zero, List.getElem_cons_succ])) | (refine wpAnyH_take (i := 3) (v := ?_) rfl (by kernel_rfl) (by decide +kernel) (by decide +kernel) (fun _ _ _ h => h) ?_ (by assumption) ?_; rotate_left; (first | (refine yields_load (by rfl) rfl rfl ?_; intro w hSw; (try dsimp only at hSw); go_split_ands; assumption) | (refine Or.inl ⟨by rfl, ?_⟩; intro w hSw; (try dsimp only at hSw); go_simp; done) | (refine Or.inl ⟨by rfl, ?_⟩; intro w hSw; (try dsimp only at hSw); go_simp; with_reducible rfl) | exact Or.inr ⟨by rfl, rfl⟩ | exact Or.inr ⟨by rfl, by rfl⟩); (try simp only [Act.put, List.setIfInBounds_toArray, List.set_cons_zero, List.set_cons_succ, List.getElem_toArray, List.getElem_cons_zero, List.getElem_cons_succ])) | (refine wpAnyH_take (i := 5) (v := ?_) rfl (by kernel_rfl) (by decide +kernel) (by decide +kernel) (fun _ _ _ h => h) ?_ (by assumption) ?_; rotate_left; (first | (refine yields_load (by rfl) rfl rfl ?_; intro w hSw; (try dsimp only at hSw); go_split_ands; assumption) | (refine Or.inl ⟨by rfl, ?_⟩; intro w hSw; (try dsimp only at hSw); go_simp; done) | (refine Or.inl ⟨by rfl, ?_⟩; intro w hSw; (try dsimp only at hSw); go_simp; with_reducible rfl) | exact Or.inr ⟨by rfl, rfl⟩ | exact Or.inr ⟨by rfl, by rfl⟩); (try simp only [Act.put, List.setIfInBounds_toArray, List.set_cons_zero, List.set_cons_succ, List.getElem_toArray, List.getElem_cons_zero, List.getElem_cons_succ])) | (refine wpAnyH_take (i := 6) (v := ?_) rfl (by kernel_rfl) (by decide +kernel) (by decide +kernel) (fun _ _ _ h => h) ?_ (by assumption) ?_; rotate_left; (first | (refine yields_load (by rfl) rfl rfl ?_; intro w hSw; (try dsimp only at hSw); go_split_ands; assumption) | (refine Or.inl ⟨by rfl, ?_⟩; intro w hSw; (try dsimp only at hSw); go_simp; done) | (refine Or.inl ⟨by rfl, ?_⟩; intro w hSw; (try dsimp only at hSw); go_simp; with_reducible rfl) | exact Or.inr ⟨by rfl, rfl⟩ | exact Or.inr ⟨by rfl, by rfl⟩); (try simp only [Act.put, List.setIfInBounds_toArray, List.set_cons_zero, List.set_cons_succ, List.getElem_toArray, List.getElem_cons_zero, List.getElem_cons_succ])) | (refine wpAnyH_take (i := 7) (v := ?_) rfl (by kernel_rfl) (by decide +kernel) (by decide +kernel) (fun _ _ _ h => h) ?_ (by assumption) ?_; rotate_left; (first | (refine yields_load (by rfl) rfl rfl ?_; intro w hSw; (try dsimp only at hSw); go_split_ands; assumption) | (refine Or.inl ⟨by rfl, ?_⟩; intro w hSw; (try dsimp only at hSw); go_simp; done) | (refine Or.inl ⟨by rfl, ?_⟩; intro w hSw; (try dsimp only at hSw); go_simp; with_reducible rfl) | exact Or.inr ⟨by rfl, rfl⟩ | exact Or.inr ⟨by rfl, by rfl⟩); (try simp only [Act.put, List.setIfInBounds_toArray, List.set_cons_zero, List.set_cons_succ, List.getElem_toArray, List.getElem_cons_zero, List.getElem_cons_succ])) | (refine wpAnyH_take (i := 9) (v := ?_) rfl (by kernel_rfl) (by decide +kernel) (by decide +kernel) (fun _ _ _ h => h) ?_ (by assumption) ?_; rotate_left; (first | (refine yields_load (by rfl) rfl rfl ?_; intro w hSw; (try dsimp only at hSw); go_split_ands; assumption) | (refine Or.inl ⟨by rfl, ?_⟩; intro w hSw; (try dsimp only at hSw); go_simp; done) | (refine Or.inl ⟨by rfl, ?_⟩; intro w hSw; (try dsimp only at hSw); go_simp; with_reducible rfl) | exact Or.inr ⟨by rfl, rfl⟩ | exact Or.inr ⟨by rfl, by rfl⟩); (try simp only [Act.put, List.setIfInBounds_toArray, List.set_cons_zero, List.set_cons_succ, List.getElem_toArray, List.getElem_cons_zero, List.getElem_cons_succ])) | (refine wpAnyH_take (i := 10) (v := ?_) rfl (by kernel_rfl) (by decide +kernel) (by decide +kernel) (fun _ _ _ h => h) ?_ (by assumption) ?_; rotate_left; (first | (refine yields_load (by rfl) rfl rfl ?_; intro w hSw; (try dsimp only at hSw); go_split_ands; assumption) | (refine Or.inl ⟨by rfl, ?_⟩; intro w hSw; (try dsimp only at hSw); go_simp; done) | (refine Or.inl ⟨by rfl, ?_⟩; intro w hSw; (try dsimp only at hSw); go_simp; with_reducible rfl) | exact Or.inr ⟨by rfl, rfl⟩ | exact Or.inr ⟨by rfl, by rfl⟩); (try simp only [Act.put, List.setIfInBounds_toArray, List.set_cons_zero, List.set_cons_succ, List.getElem_toArray, List.getElem_cons_zero, List.getElem_cons_succ])) | (refine wpAnyH_take (i := 11) (v := ?_) rfl (by kernel_rfl) (by decide +kernel) (by decide +kernel) (fun _ _ _ h => h) ?_ (by assumption) ?_; rotate_left; (first | (refine yields_load (by rfl) rfl rfl ?_; intro w hSw; (try dsimp only at hSw); go_split_ands; assumption) | (refine Or.inl ⟨by rfl, ?_⟩; intro w hSw; (try dsimp only at hSw); go_simp; done) | (refine Or.inl ⟨by rfl, ?_⟩; intro w hSw; (try dsimp only at hSw); go_simp; with_reducible rfl) | exact Or.inr ⟨by rfl, rfl⟩ | exact Or.inr ⟨by rfl, by rfl⟩); (try simp only [Act.put, List.setIfInBounds_toArray, List.set_cons_zero, List.set_cons_succ, List.getElem_toArray, List.getElem_cons_zero, List.getElem_cons_succ])) | (refine wpAnyH_take (i := 13) (v := ?_) rfl (by kernel_rfl) (by decide +kernel) (by decide +kernel) (fun _ _ _ h => h) ?_ (by assumption) ?_; rotate_left; (first | (refine yields_load (by rfl) rfl rfl ?_; intro w hSw; (try dsimp only at hSw); go_split_ands; assumption) | (refine Or.inl ⟨by rfl, ?_⟩; intro w hSw; (try dsimp only at hSw); go_simp; done) | (refine Or.inl ⟨by rfl, ?_⟩; intro w hSw; (try dsimp only at hSw); go_simp; with_reducible rfl) | exact Or.inr ⟨by rfl, rfl⟩ | exact Or.inr ⟨by rfl, by rfl⟩); (try simp only [Act.put, List.setIfInBounds_toArray, List.set_cons_zero, List.set_cons_succ, List.getElem_toArray, List.getElem_cons_zero, List.getElem_cons_succ])) | (refine wpAnyH_take (i := 14) (v := ?_) rfl (by kernel_rfl) (by decide +kernel) (by decide +kernel) (fun _ _ _ h => h) ?_ (by assumption) ?_; rotate_left; (first | (refine yields_load (by rfl) rfl rfl ?_; intro w hSw; (try dsimp only at hSw); go_split_ands; assumption) | (refine Or.inl ⟨by rfl, ?_⟩; intro w hSw; (try dsimp only at hSw); go_simp; done) | (refine Or.inl ⟨by rfl, ?_⟩; intro w hSw; (try dsimp only at hSw); go_simp; with_reducible rfl) | exact Or.inr ⟨by rfl, rfl⟩ | exact Or.inr ⟨by rfl, by rfl⟩); (try simp only [Act.put, List.setIfInBounds_toArray, List.set_cons_zero, List.set_cons_succ, List.getElem_toArray, List.getElem_cons_zero, List.getElem_cons_succ])) | (refine wpAnyH_take (i := 15) (v := ?_) rfl (by kernel_rfl) (by decide +kernel) (by decide +kernel) (fun _ _ _ h => h) ?_ (by assumption) ?_; rotate_left; (first | (refine yields_load (by rfl) rfl rfl ?_; intro w hSw; (try dsimp only at hSw); go_split_ands; assumption) | (refine Or.inl ⟨by rfl, ?_⟩; intro w hSw; (try dsimp only at hSw); go_simp; done) | (refine Or.inl ⟨by rfl, ?_⟩; intro w hSw; (try dsimp only at hSw); go_simp; with_reducible rfl) | exact Or.inr ⟨by rfl, rfl⟩ | exact Or.inr ⟨by rfl, by rfl⟩); (try simp only [Act.put, List.setIfInBounds_toArray, List.set_cons_zero, List.set_cons_succ, List.getElem_toArray, List.getElem_cons_zero, List.getElem_cons_succ])))
    refine wpAnyH_ready (rs := [4]) (by decide +kernel) (by simp) ?_; refine AllReadyH.cons rfl (fun K hK => ?_) AllReadyH.nil; go_simp
    refine (wr_I16 (L1 := .blk m 35 (ptA p) :: L1) (n := p.a) hba.1 hba.2 (by simp only [List.length_append, b2_length] at hlen ⊢; omega) MW13.out).mono ?_
    rintro _ w14 ⟨_, rfl, rfl, v14, M⟩
    have M14 := hid M
    clear M
    go_wp2_with fail
    refine hK.out _ _ (pt_cells (m := m) (p := p) M14.out (by simp)) (fun hHeld => ?_); clear hK K; (try simp only [Act.put, List.setIfInBounds_toArray, List.set_cons_zero, List.set_cons_succ, List.getElem_toArray, List.getElem_cons_zero, List.getElem_cons_succ])
    refine wpAnyH_ready (rs := [8]) (by decide +kernel) (by simp) ?_; refine AllReadyH.cons rfl (fun K hK => ?_) AllReadyH.nil; go_simp
    refine (wr_I16 (L1 := .blk m 35 (ptA p) :: L1) (n := p.b) hbb.1 hbb.2 (by simp only [List.length_append, b2_length] at hlen ⊢; omega) M14.out).mono ?_
    rintro _ w15 ⟨_, rfl, rfl, v15, M⟩
    have M15 := hid M
    clear M
    go_wp2_with fail
    refine hK.out _ _ (pt_cells (m := m) (p := p) M15.out (by simp)) (fun hHeld => ?_); clear hK K; (try simp only [Act.put, List.setIfInBounds_toArray, List.set_cons_zero, List.set_cons_succ, List.getElem_toArray, List.getElem_cons_zero, List.getElem_cons_succ])
    refine wpAnyH_ready (rs := [12]) (by decide +kernel) (by simp) ?_; refine AllReadyH.cons rfl (fun K hK => ?_) AllReadyH.nil; go_simp
    refine (wr_I16 (L1 := .blk m 35 (ptA p) :: L1) (n := p.c) hbc.1 hbc.2 (by simp only [List.length_append, b2_length] at hlen ⊢; omega) M15.out).mono ?_
    rintro _ w16 ⟨_, rfl, rfl, v16, M⟩
    have M16 := hid M
    clear M
    go_wp2_with fail
    refine hK.out _ _ (pt_cells (m := m) (p := p) M16.out (by simp)) (fun hHeld => ?_); clear hK K; (try simp only [Act.put, List.setIfInBounds_toArray, List.set_cons_zero, List.set_cons_succ, List.getElem_toArray, List.getElem_cons_zero, List.getElem_cons_succ])
    refine wpAnyH_ready (rs := [16]) (by decide +kernel) (by simp) ?_; refine AllReadyH.cons rfl (fun K hK => ?_) AllReadyH.nil; go_simp
    refine (wr_I16 (L1 := .blk m 35 (ptA p) :: L1) (n := p.d) hbd.1 hbd.2 (by simp only [List.length_append, b2_length] at hlen ⊢; omega) M16.out).mono ?_
    rintro _ w17 ⟨_, rfl, rfl, v17, M⟩
    have M17 := hid M
    clear M
    go_wp2_with fail
    refine hK.out _ _ (pt_cells (m := m) (p := p) M17.out (by simp)) (fun hHeld => ?_); clear hK K; (try simp only [Act.put, List.setIfInBounds_toArray, List.set_cons_zero, List.set_cons_succ, List.getElem_toArray, List.getElem_cons_zero, List.getElem_cons_succ])
    refine wpAnyH_done (by kernel_rfl) ?_ _
    go_wp2
    go_end0
    exact .mk ⟨_, by have h := M17.out.tail; rw [hlay.out, hmB.out]; unfold s2; simpa [List.append_assoc] using h⟩
  · exact absurd hk hmt2
end
end Go.Proofs.Yteoicpbfjkjogaa
