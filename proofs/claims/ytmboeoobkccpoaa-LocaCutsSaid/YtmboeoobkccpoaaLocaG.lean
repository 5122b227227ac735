/- Package loca: a glyph is cut out. -/
import Derived.Test.YtmboeoobkccpoaaLocaA
import Derived.Test.YtmboeoobkccpoaaHeld
import Derived.Deep.RegionWith
import Derived.Deep.DeepCutAuto
import Derived.Deep.RegionHeld3
namespace Go.Proofs.Ytmboeoobkccpoaa
open Go Go.RowKit
set_option linter.unusedVariables false
set_option linter.unusedSimpArgs false
set_option maxRecDepth 100000

theorem BytesAt.cut {w : World} {A : Option Addr} {c n a b : Nat} {l : List Int} (h : BytesAt w (.slice A n c) l) (hab : a ≤ b) (hb : b ≤ l.length) :
    SliceAt w w.heap.size 1 (.slice (if c = a then A else A.map (·.add a)) (b - a) (c - a)) (b - a) (ints .u8 ((l.drop a).take (b - a))) := by
  obtain ⟨A', c', he, hnc, hcm, hA, hr⟩ := h
  injection he with he1 he2 he3
  subst he1; subst he3
  have h1 := Reads.cut hr (i := a) (j := b) (cap := c) hab hb hnc
  simp only [Nat.mul_one] at h1
  rw [ints_cut] at h1
  refine ⟨_, c - a, rfl, by omega, by omega, fun hx => ?_, h1⟩
  by_cases hc : c = a
  · omega
  · rw [if_neg hc] at hx
    cases A with
    | none => have := hA rfl; omega
    | some ad => cases hx

set_option maxHeartbeats 4000000 in
theorem locaCut_yes (w : World) {D P : Value} {l ps : List Int} {n i a b : Nat} (hD : BytesAt w D l) (hP : SliceAt w w.heap.size 1 P (n + 1) (ints .i64 ps)) (hpl : ps.length = n + 1) (hi : i < n) (ha : ps.getD i 0 = a) (hb : ps.getD (i + 1) 0 = b) (hab : a ≤ b) (hbl : b ≤ l.length) (hl : l.length ≤ 140737488355328) :
    Calls Try.prog 15 #[D, P, .int .i64 i] w (Ret fun r w' => Own w w' [.row 5 1 r (b - a) (ints .u8 ((l.drop a).take (b - a)))]) := by
  have hDH := hid hD
  obtain ⟨A1, c1, rfl, hc1, hm1, -, -⟩ := hD
  obtain ⟨A2, c2, rfl, hc2, hm2, -, hr2⟩ := hP
  have hr2H := hid hr2
  obtain ⟨a2, rfl, k0⟩ := hr2.cell (ints_get .i64 ps i (by omega))
  obtain ⟨a2', he, k1⟩ := hr2.cell (ints_get .i64 ps (i + 1) (by omega))
  injection he with he
  subst he
  rw [ha] at k0
  rw [hb] at k1
  have k1s : w.cell? ⟨a2.block, a2.off + (i + 1), none⟩ = some (.int .i64 b) := by simpa [Addr.add] using k1
  have hcell := hid (fun w' (h : Below w.heap.size w w') => show w'.cell? (a2.add i) = some (.int .i64 a) ∧ w'.cell? ⟨a2.block, a2.off + (i + 1), none⟩ = some (.int .i64 b) from by
    have hr := hr2H.out.keep (w' := w') fun k hk _ => h.block k hk
    obtain ⟨a3, he, q0⟩ := hr.cell (ints_get .i64 ps i (by omega))
    injection he with he
    subst he
    obtain ⟨a3', he, q1⟩ := hr.cell (ints_get .i64 ps (i + 1) (by omega))
    injection he with he
    subst he
    rw [ha] at q0
    rw [hb] at q1
    exact ⟨q0, by simpa [Addr.add] using q1⟩)
  unfold maxLen at hm1 hm2
  clear hr2 hpl ha hb hr2H
  have i0 : ¬ ((i : Int) < 0) := by omega
  have i1 : ¬ ((i : Int) ≥ n) := by omega
  have i2 : ¬ ((a : Int) < 0) := by omega
  have i3 : ¬ ((b : Int) < a) := by omega
  have i4 : ¬ ((b : Int) > l.length) := by omega
  have i5 : IntKind.i64.wrap ((i : Int) + 1) = ((i + 1 : Nat) : Int) := IntWalk.i64_in _ (by omega)
  have i6 : i + 1 < n + 1 := by omega
  have i7 : (i : Int) + 1 < (n : Int) + 1 := by omega
  have i8 : ((i : Int) + 1).toNat = i + 1 := by omega
  have i9 : 0 ≤ (i : Int) + 1 := by omega
  have i10 : i < n + 1 := by omega
  have i11 : (i : Int) < (n : Int) + 1 := by omega
  have i12 : i ≤ n := by omega
  have j1 : (a : Int) ≤ b := by omega
  have j2 : (b : Int) ≤ c1 := by omega
  have j3 : b ≤ c1 := by omega
  have j4 : a ≤ c1 := by omega
  have j5 : 0 ≤ (b : Int) := by omega
  have j6 : 0 ≤ (a : Int) := by omega
  go_enter Try.func15, Try.ntmps15
  go_upto_region 1 with fail
  go_quiet (fail)
  go_upto_region 3 with fail
  refine wp_region_held_drew (S := fun w' => w'.cell? (a2.add i) = some (.int .i64 a) ∧ w'.cell? ⟨a2.block, a2.off + (i + 1), none⟩ = some (.int .i64 b)) (by kernel_rfl) ⟨k0, k1s⟩ (fun hHeld => ?_)
  repeat (first | (refine wpAnyH_take (i := 0) (v := ?_) rfl (by kernel_rfl) (by decide +kernel) (by decide +kernel) (fun _ _ _ h => h) ?_ (by assumption) ?_; rotate_left; (first | (refine yields_load (by rfl) rfl rfl ?_; intro w hSw; (try dsimp only at hSw); go_split_ands; assumption) | (refine Or.inl ⟨by rfl, ?_⟩; intro w hSw; (try dsimp only at hSw); go_simp; done) | (refine Or.inl ⟨by rfl, ?_⟩; intro w hSw; (try dsimp only at hSw); go_simp; with_reducible rfl) | exact Or.inr ⟨by rfl, rfl⟩); (try simp only [Act.put, List.setIfInBounds_toArray, List.set_cons_zero, List.set_cons_succ, List.getElem_toArray, List.getElem_cons_zero, List.getElem_cons_succ])) | (refine wpAnyH_take (i := 1) (v := ?_) rfl (by kernel_rfl) (by decide +kernel) (by decide +kernel) (fun _ _ _ h => h) ?_ (by assumption) ?_; rotate_left; (first | (refine yields_load (by rfl) rfl rfl ?_; intro w hSw; (try dsimp only at hSw); go_split_ands; assumption) | (refine Or.inl ⟨by rfl, ?_⟩; intro w hSw; (try dsimp only at hSw); go_simp; done) | (refine Or.inl ⟨by rfl, ?_⟩; intro w hSw; (try dsimp only at hSw); go_simp; with_reducible rfl) | exact Or.inr ⟨by rfl, rfl⟩); (try simp only [Act.put, List.setIfInBounds_toArray, List.set_cons_zero, List.set_cons_succ, List.getElem_toArray, List.getElem_cons_zero, List.getElem_cons_succ])) | (refine wpAnyH_take (i := 2) (v := ?_) rfl (by kernel_rfl) (by decide +kernel) (by decide +kernel) (fun _ _ _ h => h) ?_ (by assumption) ?_; rotate_left; (first | (refine yields_load (by rfl) rfl rfl ?_; intro w hSw; (try dsimp only at hSw); go_split_ands; assumption) | (refine Or.inl ⟨by rfl, ?_⟩; intro w hSw; (try dsimp only at hSw); go_simp; done) | (refine Or.inl ⟨by rfl, ?_⟩; intro w hSw; (try dsimp only at hSw); go_simp; with_reducible rfl) | exact Or.inr ⟨by rfl, rfl⟩); (try simp only [Act.put, List.setIfInBounds_toArray, List.set_cons_zero, List.set_cons_succ, List.getElem_toArray, List.getElem_cons_zero, List.getElem_cons_succ])) | (refine wpAnyH_take (i := 3) (v := ?_) rfl (by kernel_rfl) (by decide +kernel) (by decide +kernel) (fun _ _ _ h => h) ?_ (by assumption) ?_; rotate_left; (first | (refine yields_load (by rfl) rfl rfl ?_; intro w hSw; (try dsimp only at hSw); go_split_ands; assumption) | (refine Or.inl ⟨by rfl, ?_⟩; intro w hSw; (try dsimp only at hSw); go_simp; done) | (refine Or.inl ⟨by rfl, ?_⟩; intro w hSw; (try dsimp only at hSw); go_simp; with_reducible rfl) | exact Or.inr ⟨by rfl, rfl⟩); (try simp only [Act.put, List.setIfInBounds_toArray, List.set_cons_zero, List.set_cons_succ, List.getElem_toArray, List.getElem_cons_zero, List.getElem_cons_succ])) | (refine wpAnyH_take (i := 4) (v := ?_) rfl (by kernel_rfl) (by decide +kernel) (by decide +kernel) (fun _ _ _ h => h) ?_ (by assumption) ?_; rotate_left; (first | (refine yields_load (by rfl) rfl rfl ?_; intro w hSw; (try dsimp only at hSw); go_split_ands; assumption) | (refine Or.inl ⟨by rfl, ?_⟩; intro w hSw; (try dsimp only at hSw); go_simp; done) | (refine Or.inl ⟨by rfl, ?_⟩; intro w hSw; (try dsimp only at hSw); go_simp; with_reducible rfl) | exact Or.inr ⟨by rfl, rfl⟩); (try simp only [Act.put, List.setIfInBounds_toArray, List.set_cons_zero, List.set_cons_succ, List.getElem_toArray, List.getElem_cons_zero, List.getElem_cons_succ])) | (refine wpAnyH_take (i := 5) (v := ?_) rfl (by kernel_rfl) (by decide +kernel) (by decide +kernel) (fun _ _ _ h => h) ?_ (by assumption) ?_; rotate_left; (first | (refine yields_load (by rfl) rfl rfl ?_; intro w hSw; (try dsimp only at hSw); go_split_ands; assumption) | (refine Or.inl ⟨by rfl, ?_⟩; intro w hSw; (try dsimp only at hSw); go_simp; done) | (refine Or.inl ⟨by rfl, ?_⟩; intro w hSw; (try dsimp only at hSw); go_simp; with_reducible rfl) | exact Or.inr ⟨by rfl, rfl⟩); (try simp only [Act.put, List.setIfInBounds_toArray, List.set_cons_zero, List.set_cons_succ, List.getElem_toArray, List.getElem_cons_zero, List.getElem_cons_succ])) | (refine wpAnyH_take (i := 6) (v := ?_) rfl (by kernel_rfl) (by decide +kernel) (by decide +kernel) (fun _ _ _ h => h) ?_ (by assumption) ?_; rotate_left; (first | (refine yields_load (by rfl) rfl rfl ?_; intro w hSw; (try dsimp only at hSw); go_split_ands; assumption) | (refine Or.inl ⟨by rfl, ?_⟩; intro w hSw; (try dsimp only at hSw); go_simp; done) | (refine Or.inl ⟨by rfl, ?_⟩; intro w hSw; (try dsimp only at hSw); go_simp; with_reducible rfl) | exact Or.inr ⟨by rfl, rfl⟩); (try simp only [Act.put, List.setIfInBounds_toArray, List.set_cons_zero, List.set_cons_succ, List.getElem_toArray, List.getElem_cons_zero, List.getElem_cons_succ])) | (refine wpAnyH_take (i := 7) (v := ?_) rfl (by kernel_rfl) (by decide +kernel) (by decide +kernel) (fun _ _ _ h => h) ?_ (by assumption) ?_; rotate_left; (first | (refine yields_load (by rfl) rfl rfl ?_; intro w hSw; (try dsimp only at hSw); go_split_ands; assumption) | (refine Or.inl ⟨by rfl, ?_⟩; intro w hSw; (try dsimp only at hSw); go_simp; done) | (refine Or.inl ⟨by rfl, ?_⟩; intro w hSw; (try dsimp only at hSw); go_simp; with_reducible rfl) | exact Or.inr ⟨by rfl, rfl⟩); (try simp only [Act.put, List.setIfInBounds_toArray, List.set_cons_zero, List.set_cons_succ, List.getElem_toArray, List.getElem_cons_zero, List.getElem_cons_succ])) | (refine wpAnyH_take (i := 8) (v := ?_) rfl (by kernel_rfl) (by decide +kernel) (by decide +kernel) (fun _ _ _ h => h) ?_ (by assumption) ?_; rotate_left; (first | (refine yields_load (by rfl) rfl rfl ?_; intro w hSw; (try dsimp only at hSw); go_split_ands; assumption) | (refine Or.inl ⟨by rfl, ?_⟩; intro w hSw; (try dsimp only at hSw); go_simp; done) | (refine Or.inl ⟨by rfl, ?_⟩; intro w hSw; (try dsimp only at hSw); go_simp; with_reducible rfl) | exact Or.inr ⟨by rfl, rfl⟩); (try simp only [Act.put, List.setIfInBounds_toArray, List.set_cons_zero, List.set_cons_succ, List.getElem_toArray, List.getElem_cons_zero, List.getElem_cons_succ])) | (refine wpAnyH_take (i := 9) (v := ?_) rfl (by kernel_rfl) (by decide +kernel) (by decide +kernel) (fun _ _ _ h => h) ?_ (by assumption) ?_; rotate_left; (first | (refine yields_load (by rfl) rfl rfl ?_; intro w hSw; (try dsimp only at hSw); go_split_ands; assumption) | (refine Or.inl ⟨by rfl, ?_⟩; intro w hSw; (try dsimp only at hSw); go_simp; done) | (refine Or.inl ⟨by rfl, ?_⟩; intro w hSw; (try dsimp only at hSw); go_simp; with_reducible rfl) | exact Or.inr ⟨by rfl, rfl⟩); (try simp only [Act.put, List.setIfInBounds_toArray, List.set_cons_zero, List.set_cons_succ, List.getElem_toArray, List.getElem_cons_zero, List.getElem_cons_succ])) | (refine wpAnyH_take (i := 10) (v := ?_) rfl (by kernel_rfl) (by decide +kernel) (by decide +kernel) (fun _ _ _ h => h) ?_ (by assumption) ?_; rotate_left; (first | (refine yields_load (by rfl) rfl rfl ?_; intro w hSw; (try dsimp only at hSw); go_split_ands; assumption) | (refine Or.inl ⟨by rfl, ?_⟩; intro w hSw; (try dsimp only at hSw); go_simp; done) | (refine Or.inl ⟨by rfl, ?_⟩; intro w hSw; (try dsimp only at hSw); go_simp; with_reducible rfl) | exact Or.inr ⟨by rfl, rfl⟩); (try simp only [Act.put, List.setIfInBounds_toArray, List.set_cons_zero, List.set_cons_succ, List.getElem_toArray, List.getElem_cons_zero, List.getElem_cons_succ])))
  generalize hV : (if c1 = a then A1 else Option.map (fun x : Addr => x.add a) A1) = AV
  replace hV := hid hV
  refine wpAnyH_ready (rs := [11]) (by decide +kernel) (by simp) ?_; refine AllReadyH.cons rfl (fun K hK => ?_) AllReadyH.nil; go_simp
  have hb1 := (((Own.start w).drewN nq).drew).below
  have hC := BytesAt.cut (hDH.out.below hb1) hab hbl
  rw [hV.out] at hC
  (refine (clone_calls _ hC (ints_one _ _) (by omega)).mono ?_)
  clear hC
  rintro vC w2 ⟨_, rfl, M⟩
  have M2 := hid ((((Own.start w).drewN nq).drew).lift M)
  clear M
  go_wp2_with fail
  obtain ⟨q0, q1⟩ := hcell.out _ M2.out.below
  refine hK.out _ _ ⟨q0, q1⟩ (fun hHeld => ?_); clear hK K; (try simp only [Act.put, List.setIfInBounds_toArray, List.set_cons_zero, List.set_cons_succ, List.getElem_toArray, List.getElem_cons_zero, List.getElem_cons_succ])
  repeat (first | (refine wpAnyH_take (i := 12) (v := ?_) rfl (by kernel_rfl) (by decide +kernel) (by decide +kernel) (fun _ _ _ h => h) ?_ (by assumption) ?_; rotate_left; (first | (refine yields_load (by rfl) rfl rfl ?_; intro w hSw; (try dsimp only at hSw); go_split_ands; assumption) | (refine Or.inl ⟨by rfl, ?_⟩; intro w hSw; (try dsimp only at hSw); go_simp; done) | (refine Or.inl ⟨by rfl, ?_⟩; intro w hSw; (try dsimp only at hSw); go_simp; with_reducible rfl) | exact Or.inr ⟨by rfl, rfl⟩); (try simp only [Act.put, List.setIfInBounds_toArray, List.set_cons_zero, List.set_cons_succ, List.getElem_toArray, List.getElem_cons_zero, List.getElem_cons_succ])))
  refine wpAnyH_done (by kernel_rfl) ?_ _
  go_wp2_with fail
  go_ret
  exact .mk M2.out.head1
theorem locaCut_nil (w : World) {D P : Value} {l : List Int} {ps : List Int} {m : Nat} {z : Int} (hD : BytesAt w D l) (hP : SliceAt w w.heap.size 1 P m (ints .i64 ps)) (hpl : ps.length = m) (z0 : -9223372036854775808 ≤ z) (z1 : z < 9223372036854775808) (hz : z < 0 ∨ z ≥ (m : Int) - 1) :
    Calls Try.prog 15 #[D, P, .int .i64 z] w (Ret fun r w' => r = .slice none 0 0 ∧ Below w.heap.size w w') := by
  obtain ⟨A1, c1, rfl, hc1, hm1, -, -⟩ := hD
  obtain ⟨A2, c2, rfl, hc2, hm2, -, -⟩ := hP
  unfold maxLen at hm1 hm2
  have i5 : IntKind.i64.wrap ((m : Int) - 1) = (m : Int) - 1 := IntWalk.i64_in _ (by omega)
  by_cases i0 : z < 0
  · clear hz
    go_enter Try.func15, Try.ntmps15
    go_upto_region 1 with fail
    go_quiet (fail)
    go_wp2_with fail
    go_ret
    exact .mk ⟨rfl, ((Own.start w).drewN _).below⟩
  · have i1 : z ≥ (m : Int) - 1 := by omega
    have i2 : (m : Int) - 1 ≤ z := by omega
    clear hz
    go_enter Try.func15, Try.ntmps15
    go_upto_region 1 with fail
    go_quiet (fail)
    go_wp2_with fail
    go_ret
    exact .mk ⟨rfl, ((Own.start w).drewN _).below⟩
theorem locaCut_bad (w : World) {D P : Value} {l : List Int} {a b : Int} (hD : BytesAt w D l) (hP : SliceAt w w.heap.size 1 P 2 (ints .i64 [a, b])) (hab : a < 0 ∨ (¬ a < 0 ∧ b < a) ∨ (¬ a < 0 ∧ ¬ b < a ∧ b > l.length)) :
    Calls Try.prog 15 #[D, P, .int .i64 0] w (Ret fun r w' => r = .slice none 0 0 ∧ Below w.heap.size w w') := by
  obtain ⟨A1, c1, rfl, hc1, hm1, -, -⟩ := hD
  obtain ⟨A2, c2, rfl, hc2, hm2, -, hr2⟩ := hP
  obtain ⟨a2, rfl, k0⟩ := hr2.cell (ints_get .i64 [a, b] 0 (by simp))
  obtain ⟨a2', he, k1⟩ := hr2.cell (ints_get .i64 [a, b] 1 (by simp))
  injection he with he
  subst he
  have q0 : w.cell? a2 = some (.int .i64 a) := by simpa [Addr.add] using k0
  have q1 : w.cell? ⟨a2.block, a2.off + 1, none⟩ = some (.int .i64 b) := by simpa [Addr.add] using k1
  unfold maxLen at hm1 hm2
  clear hr2 k0 k1
  rcases hab with h1 | ⟨h1, h2⟩ | ⟨h1, h2, h3⟩
  all_goals
    go_enter Try.func15, Try.ntmps15
    go_upto_region 1 with fail
    go_quiet (fail)
    go_wp2_with fail
    go_ret
    exact .mk ⟨rfl, ((Own.start w).drewN _).below⟩
end Go.Proofs.Ytmboeoobkccpoaa
