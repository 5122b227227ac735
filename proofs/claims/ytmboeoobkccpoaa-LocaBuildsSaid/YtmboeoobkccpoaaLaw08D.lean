/- Layer 8: LocaBuilds. -/
import Derived.Test.YtmboeoobkccpoaaLocaC
import Derived.Test.YtmboeoobkccpoaaDec08
import Derived.Test.YtmboeoobkccpoaaHeld
import Derived.Test.YtmboeoobkccpoaaLaw08C
import Derived.Deep.RegionWith
import Derived.Deep.DeepCutAuto
import Derived.Deep.RegionHeld3
namespace Go.Proofs.Ytmboeoobkccpoaa
open Go Go.RowKit
set_option linter.unusedVariables false
set_option linter.unusedSimpArgs false
set_option maxRecDepth 100000

theorem psum_len (l : List Int) : psum l l.length = l.sum := by unfold psum; rw [List.take_length]
theorem sum_snoc (l : List Int) (x : Int) : (l ++ [x]).sum = l.sum + x := by rw [List.sum_append]; simp
theorem sum_bd {l : List Int} (h : ∀ x ∈ l, 0 ≤ x ∧ x < 65536) : 0 ≤ l.sum ∧ l.sum ≤ 65536 * l.length := by
  induction l with
  | nil => simp
  | cons y l ih =>
    have h1 := h y (by simp)
    have h2 := ih fun x hx => h x (by simp [hx])
    rw [List.sum_cons, List.length_cons]; omega

theorem ints_set (k : IntKind) (l : List Int) (i : Nat) (x : Int) : (ints k l).set i (.int k x) = ints k (l.set i x) := by simp [ints, List.map_set]

set_option maxHeartbeats 8000000 in
theorem locaBuilds_calls (w : World) {V : Value} {xs : List Int} (h1 : SliceAt w w.heap.size 1 V xs.length (ints .u16 xs)) (wx : ∀ x ∈ xs, 0 ≤ x ∧ x < 65536) {big : Int} (b0 : 0 ≤ big) (b1 : big < 4294967296) :
    Calls Try.prog 5 #[V, .int .u32 big] w (Ret fun r w' => r = .bool true ∧ Below w.heap.size w w') := by
  have M0 := hid (Own.start w)
  obtain ⟨A1, c1, rfl, hc1, hm1, hA1, hr1⟩ := h1
  unfold maxLen at hm1
  have hr1H := hid hr1
  have hget := hid (fun k (hk : k < xs.length) => ints_get .u16 xs k hk)
  have hxb := hid (fun k (hk : k < xs.length) => show 0 ≤ xs.getD k 0 ∧ xs.getD k 0 < 65536 from by
    have : xs.getD k 0 = xs[k] := by simp [List.getD, hk]
    rw [this]; exact wx _ (List.getElem_mem hk))
  have hsb := hid (fun k => show 0 ≤ ((xs.take k).take 30).sum ∧ ((xs.take k).take 30).sum ≤ 65536 * 30 from by
    have h1 := sum_bd (l := (xs.take k).take 30) fun x hx => wx x (List.mem_of_mem_take (List.mem_of_mem_take hx))
    have h2 : ((xs.take k).take 30).length ≤ 30 := by rw [List.length_take]; omega
    omega)
  have hlb := hid (fun k => show ((xs.take k).take 30).length ≤ 30 by rw [List.length_take]; omega)
  have wH := hid (fun x (hx : x ∈ xs.take 30) => wx x (List.mem_of_mem_take hx))
  clear hr1 hA1 wx
  go_enter Try.func5, Try.ntmps5
  go_wp2_with (go_at_call 8; refine (awake_calls _).mono ?_; rintro _ w2 ⟨_, rfl, rfl, hb⟩; (have M2 := hid (M0.out.keep hb)); clear hb)
  go_loopw [5, 6, 21] (fun o s i wr => ∃ (k : Nat) (A : Option Addr) (m c : Nat), k ≤ xs.length ∧ i = .int .i64 k ∧ s = .int .i64 ((xs.take k).take 30).sum ∧ o = .slice A m c ∧ Hid (m = ((xs.take k).take 30).length) ∧ Hid (Own w wr [.row 3 1 (.slice A m c) m (ints .i64 ((xs.take k).take 30))])) (fun _ _ i _ => xs.length - (intOf i).toNat)
  case atStart => exact ⟨0, none, 0, 0, Nat.zero_le _, rfl, by simp, rfl, hid (by simp), hid (by simpa [ints] using M2.out.nil_row 3 1)⟩
  case round =>
    clear M2
    obtain ⟨k, A, m, c, hk, rfl, rfl, rfl, hm, MH⟩ := hrel
    by_cases hlt : k < xs.length
    · obtain ⟨a1, rfl, hcell1⟩ := (hr1H.out.keep (w' := wr) fun k hk _ => MH.out.below.block k hk).cell (hget.out k hlt)
      by_cases hkm : k < 30
      · have hx := take_take_succ hlt hkm
        obtain ⟨x0, x1⟩ := hxb.out k hlt
        have hxH := hid hx
        obtain ⟨s0, s1⟩ := hsb.out k
        have hl0 := hlb.out k
        rw [← hm.out] at hl0
        have hsum := hid (show ((xs.take (k + 1)).take 30).sum = ((xs.take k).take 30).sum + xs.getD k 0 by rw [hx, sum_snoc])
        have hlen := hid (show ((xs.take (k + 1)).take 30).length = m + 1 by rw [hx, List.length_append, hm.out]; rfl)
        generalize xs.getD k 0 = x at *
        obtain ⟨s, hs⟩ : ∃ s, ((xs.take k).take 30).sum = s := ⟨_, rfl⟩
        rw [hs] at hsum s0 s1 ⊢
        clear hx hs
        go_wp2_with (at_builtin; refine wpList_append_Own rfl (.tmp 28) (.tmp 31) _ rfl sized_int rfl rfl (L1 := [.blk wr.heap.size 3 #[.int .i64 x]]) (MH.out.alloc _ _) (SliceAt.built (MH.out.alloc _ _) (.head _) 1 1 rfl (by unfold maxLen; omega)) (ints_one .i64 [x]) (by unfold maxLen; omega) (by omega) ?_; intro v' w' M'; obtain ⟨A7, c7, rfl⟩ := M'.tail.form (.head _); (have M7 := hid M'.tail); clear M')
        go_roundw
        case rel => exact ⟨k + 1, A7, _, c7, by omega, by go_num, by rw [hsum.out], rfl, hid hlen.out.symm, by rw [hxH.out, ints_append]; exact M7⟩
        case measure => simp [intOf] <;> omega
      · have hx : (xs.take (k + 1)).take 30 = (xs.take k).take 30 := by
          rw [List.take_take, List.take_take, Nat.min_eq_left (by omega), Nat.min_eq_left (by omega)]
        have hxH := hid hx
        generalize xs.getD k 0 = x at *
        clear hx
        go_wp2
        go_roundw
        case rel => exact ⟨k + 1, A, m, c, by omega, by go_num, by rw [hxH.out], rfl, hid (by rw [hxH.out]; exact hm.out), by rw [hxH.out]; exact MH⟩
        case measure => simp [intOf] <;> omega
    · obtain rfl : k = xs.length := by omega
      have hL : (xs.take xs.length).take 30 = xs.take 30 := by rw [List.take_length]
      obtain ⟨s0, s1⟩ := hsb.out xs.length
      have hl0 := hlb.out xs.length
      rw [hL] at hm MH s0 s1 hl0 ⊢
      rw [← hm.out] at hl0
      clear hL hsb hlb hxb hget hr1H
      have hps := hid (psum_len (xs.take 30))
      generalize xs.take 30 = L at *
      by_cases hpos : m > 0
      · obtain ⟨ad, rfl⟩ := MH.out.row_at (.head _) hpos
        have hg0 := ints_get .i64 L 0 (by rw [← hm.out]; exact hpos)
        have hx0 := wH.out (L.getD 0 0) (by
          have : L.getD 0 0 = L[0]'(by rw [← hm.out]; exact hpos) := by simp [List.getD, show 0 < L.length by rw [← hm.out]; exact hpos]
          rw [this]; exact List.getElem_mem _)
        obtain ⟨MS, kc, kf⟩ := Own.row_set (L1 := []) (L2 := []) MH.out 0 (by omega) (.int .i64 (L.getD 0 0 + big % 1048576))
        rw [hg0] at kc
        rw [ints_set] at MS
        have hQl := hid (show (L.set 0 (L.getD 0 0 + big % 1048576)).length = m by rw [List.length_set, hm.out])
        have hQb := hid (fun x (hx : x ∈ L.set 0 (L.getD 0 0 + big % 1048576)) => show 0 ≤ x ∧ x ≤ 2000000 from by
          rcases List.mem_or_eq_of_mem_set hx with hx | rfl
          · have := wH.out x hx; omega
          · omega)
        have hQs := hid (show psum (L.set 0 (L.getD 0 0 + big % 1048576)) (L.set 0 (L.getD 0 0 + big % 1048576)).length = L.sum + big % 1048576 by
          rw [psum_len]
          cases L with
          | nil => have h := hm.out; rw [List.length_nil] at h; omega
          | cons y L => simp; omega)
        have MQ := hid MS
        obtain ⟨x, hx⟩ : ∃ x, L.getD 0 0 = x := ⟨_, rfl⟩
        rw [hx] at kc hx0 hQl hQb hQs MQ
        obtain ⟨x0, x1⟩ := hx0
        clear MS hg0 hx hps wH
        go_upto_region 12 with fail
        go_upto_region 13 with fail
        obtain ⟨Q, hQ⟩ : ∃ Q, L.set 0 (x + big % 1048576) = Q := ⟨_, rfl⟩
        rw [hQ] at hQl hQb hQs MQ
        generalize (some (⟨ad, 0, none⟩ : Addr)) = AQ at MQ ⊢
        simp only [List.nil_append, List.append_nil] at MQ
        obtain ⟨S, hSS⟩ : ∃ S, L.sum + big % 1048576 = S := ⟨_, rfl⟩
        have S0 : 0 ≤ S := by omega
        have S1 : S ≤ 4000000 := by omega
        rw [hSS] at hQs ⊢
        clear hQ hSS kc kf hm s0 s1 MH
        have gQ := hid (good_small (m := 0) (l := Q) (by rw [hQl.out]; omega) hQb.out)
        have hB := hid (fun w V (h : SliceAt w w.heap.size 1 V m (ints .i64 Q)) => locaBuild_yes w (l := Q) (hQl.out ▸ h) gQ.out)
        have hR := hid (fun w V (h : SliceAt w w.heap.size 1 V m (ints .i64 Q)) => refBuild_calls w (l := Q) (hQl.out ▸ h) gQ.out)
        have hq4 := hid (show (locB Q).length ≤ 140737488355328 by
          rw [locB_len, hQl.out]
          have := locS_le (locL Q)
          exact Nat.le_trans (Nat.mul_le_mul this (show m + 1 ≤ 31 by omega)) (by omega))
        have hF : Fine (locL Q) (locB Q) m S := by have := fine_locB gQ.out; rw [hQs.out, hQl.out] at this; exact this
        have hpn : pns (locL Q) (locB Q) (m + 1) = plc Q := by have := pns_locB gQ.out; rw [hQl.out] at this; exact this
        have hP := hid (fun w V (h : BytesAt w V (locB Q)) => parse_yes w (locL Q) h (bytes_locB Q) hq4.out (G := m) (by omega) (size := S) (by omega) (by omega) hF)
        rw [hpn] at hP
        have hpk := hid (fun k (hk : k ≤ m) => show (plc Q).getD k 0 = psum Q k from plcK_get Q (by rw [hQl.out]; exact hk))
        have hpl := hid (show (plc Q).length = m + 1 by rw [plc_length, hQl.out])
        have hsu := hid (fun k (hk : k < m) => psum_succ (l := Q) (k := k) (by rw [hQl.out]; exact hk))
        have hsb := hid (fun k (hk : k ≤ m) => gQ.out.bd (k := k) (by rw [hQl.out]; exact hk))
        have hQs' := hid (show psum Q m = S by rw [← hQl.out]; exact hQs.out)
        clear hF hpn hq4 gQ
        generalize locB Q = q at *
        generalize locL Q = lg at *
        generalize plc Q = ps at *
        go_wp2_with (first
          | (go_at_call 9; refine (hB.out _ _ (MQ.out.slice (e := 3) (.head _))).mono ?_; rintro _ w3 ⟨_, rfl, v, rfl, M⟩; obtain ⟨A3, c3, rfl⟩ := M.form (.head _); (have M3 := hid (MQ.out.lift M)); clear M)
          | (go_at_call 10; refine (hR.out _ _ (M3.out.slice (e := 3) (v := .slice AQ m c) (n := m) (xs := ints .i64 Q) (by simp))).mono ?_; rintro _ w4 ⟨_, rfl, v4, rfl, M⟩; obtain ⟨A4, c4, rfl⟩ := M.form (.head _); (have M4 := hid (M3.out.lift M)); clear M)
          | (go_at_call 12; refine (hP.out _ _ (M4.out.slice (e := 5) (v := .slice A3 q.length c3) (n := q.length) (xs := ints .u8 q) (by simp))).mono ?_; rintro _ w5 ⟨_, rfl, v5, rfl, M⟩; obtain ⟨A5, c5, rfl⟩ := M.form (.head _); (have M5 := hid (M4.out.lift M)); clear M)
          | (go_at_call 11; (refine (same_calls _ (M5.out.slice (e := 5) (n := q.length) (xs := ints .u8 q) (v := .slice A3 q.length c3) (by simp)) (M5.out.slice (e := 5) (n := q.length) (xs := ints .u8 q) (v := .slice A4 q.length c4) (by simp))).mono ?_); rw [decide_eq_true (rfl : q = q)]; rintro _ w6 ⟨_, rfl, rfl, hb⟩; (have M6 := hid (M5.out.keep hb)); clear hb))
        have M7 := hid (M6.out.sub (L' := [.row 3 1 (.slice A5 (m + 1) c5) (m + 1) (ints .i64 ps), .row 3 1 (.slice AQ m c) m (ints .i64 Q)]) (by simp))
        clear M6 hB hR hP
        go_loopw [98] (fun i wr => ∃ k : Nat, k ≤ m ∧ i = .int .i64 k ∧ Hid (Own w wr [.row 3 1 (.slice A5 (m + 1) c5) (m + 1) (ints .i64 ps), .row 3 1 (.slice AQ m c) m (ints .i64 Q)])) (fun i _ => m - (intOf i).toNat)
        case atStart => exact ⟨0, Nat.zero_le _, rfl, M7⟩
        case round =>
          clear M7
          obtain ⟨k, hk, rfl, MR⟩ := hrel
          obtain ⟨A8, c8, he, hc8, hm8, -, hr8⟩ := MR.out.slice (e := 3) (sz := 1) (v := .slice A5 (m + 1) c5) (n := m + 1) (xs := ints .i64 ps) (.head _)
          injection he with he1 he2 he3
          subst he1 he3
          clear he2
          unfold maxLen at hm8
          by_cases hlt : k < m
          · obtain ⟨A9, c9, he, hc9, hm9, -, hr9⟩ := MR.out.slice (e := 3) (sz := 1) (v := .slice AQ m c) (n := m) (xs := ints .i64 Q) (by simp)
            injection he with he1 he2 he3
            subst he1 he3
            clear he2
            unfold maxLen at hm9
            obtain ⟨a9, rfl, k9⟩ := hr9.cell (ints_get .i64 Q k (by rw [hQl.out]; exact hlt))
            obtain ⟨a8, rfl, k8⟩ := hr8.cell (ints_get .i64 ps k (by rw [hpl.out]; omega))
            obtain ⟨a8', he, k8'⟩ := hr8.cell (ints_get .i64 ps (k + 1) (by rw [hpl.out]; omega))
            injection he with he
            subst he
            clear hr9 hr8
            rw [hpk.out k hk] at k8
            rw [hpk.out (k + 1) hlt] at k8'
            have hsx := hsu.out k hlt
            obtain ⟨s0, s1⟩ := hsb.out k hk
            obtain ⟨t0, t1⟩ := hsb.out (k + 1) hlt
            generalize Q.getD k 0 = x at *
            generalize psum Q k = s at *
            generalize psum Q (k + 1) = t at *
            have hd : t - s = x := by omega
            have hwk : IntKind.i64.wrap ((k : Int) + 1) = ((k + 1 : Nat) : Int) := IntWalk.i64_in _ (by omega)
            have hw64 : IntKind.i64.wrap (t - s) = t - s := IntWalk.i64_in _ (by omega)
            have hwx : IntKind.i64.wrap x = x := IntWalk.i64_in _ (by omega)
            have hne : (t - s != x) = false := by rw [hd]; simp
            have hne2 : (x != x) = false := by simp
            have hx0 : -67108864 ≤ x := by omega
            have hx1 : x ≤ 67108864 := by omega
            clear hsx
            have k8s : wr.cell? ⟨a8.block, a8.off + (k + 1), none⟩ = some (.int .i64 t) := by simpa [Addr.add] using k8'
            have i1 : ((k : Int) + 1).toNat = k + 1 := by omega
            have i2 : k + 1 < m + 1 := by omega
            have i3 : (k : Int) + 1 < (m : Int) + 1 := by omega
            have i4 : ¬ ((k : Int) + 1 < 0) := by omega
            have i5 : 0 ≤ (k : Int) + 1 := by omega
            have i6 : k < m + 1 := by omega
            have i7 : (k : Int) < (m : Int) + 1 := by omega
            have i8 : k ≤ m := by omega
            go_upto_region 21 with fail
            refine wp_region_held_drew (S := fun w' => w'.cell? (a8.add k) = some (.int .i64 s) ∧ w'.cell? ⟨a8.block, a8.off + (k + 1), none⟩ = some (.int .i64 t)) (by kernel_rfl) ⟨k8, k8s⟩ (fun hHeld => ?_)
            repeat (first | (refine wpAnyH_take (i := 0) (v := ?_) rfl (by kernel_rfl) (by decide +kernel) (by decide +kernel) (fun _ _ _ h => h) ?_ (by assumption) ?_; rotate_left; (first | (refine yields_load (by rfl) rfl rfl ?_; intro w hSw; (try dsimp only at hSw); go_split_ands; assumption) | (refine Or.inl ⟨by rfl, ?_⟩; intro w hSw; (try dsimp only at hSw); go_simp; done) | (refine Or.inl ⟨by rfl, ?_⟩; intro w hSw; (try dsimp only at hSw); go_simp; with_reducible rfl) | exact Or.inr ⟨by rfl, rfl⟩); (try simp only [Act.put, List.setIfInBounds_toArray, List.set_cons_zero, List.set_cons_succ, List.getElem_toArray, List.getElem_cons_zero, List.getElem_cons_succ])) | (refine wpAnyH_take (i := 1) (v := ?_) rfl (by kernel_rfl) (by decide +kernel) (by decide +kernel) (fun _ _ _ h => h) ?_ (by assumption) ?_; rotate_left; (first | (refine yields_load (by rfl) rfl rfl ?_; intro w hSw; (try dsimp only at hSw); go_split_ands; assumption) | (refine Or.inl ⟨by rfl, ?_⟩; intro w hSw; (try dsimp only at hSw); go_simp; done) | (refine Or.inl ⟨by rfl, ?_⟩; intro w hSw; (try dsimp only at hSw); go_simp; with_reducible rfl) | exact Or.inr ⟨by rfl, rfl⟩); (try simp only [Act.put, List.setIfInBounds_toArray, List.set_cons_zero, List.set_cons_succ, List.getElem_toArray, List.getElem_cons_zero, List.getElem_cons_succ])) | (refine wpAnyH_take (i := 2) (v := ?_) rfl (by kernel_rfl) (by decide +kernel) (by decide +kernel) (fun _ _ _ h => h) ?_ (by assumption) ?_; rotate_left; (first | (refine yields_load (by rfl) rfl rfl ?_; intro w hSw; (try dsimp only at hSw); go_split_ands; assumption) | (refine Or.inl ⟨by rfl, ?_⟩; intro w hSw; (try dsimp only at hSw); go_simp; done) | (refine Or.inl ⟨by rfl, ?_⟩; intro w hSw; (try dsimp only at hSw); go_simp; with_reducible rfl) | exact Or.inr ⟨by rfl, rfl⟩); (try simp only [Act.put, List.setIfInBounds_toArray, List.set_cons_zero, List.set_cons_succ, List.getElem_toArray, List.getElem_cons_zero, List.getElem_cons_succ])) | (refine wpAnyH_take (i := 3) (v := ?_) rfl (by kernel_rfl) (by decide +kernel) (by decide +kernel) (fun _ _ _ h => h) ?_ (by assumption) ?_; rotate_left; (first | (refine yields_load (by rfl) rfl rfl ?_; intro w hSw; (try dsimp only at hSw); go_split_ands; assumption) | (refine Or.inl ⟨by rfl, ?_⟩; intro w hSw; (try dsimp only at hSw); go_simp; done) | (refine Or.inl ⟨by rfl, ?_⟩; intro w hSw; (try dsimp only at hSw); go_simp; with_reducible rfl) | exact Or.inr ⟨by rfl, rfl⟩); (try simp only [Act.put, List.setIfInBounds_toArray, List.set_cons_zero, List.set_cons_succ, List.getElem_toArray, List.getElem_cons_zero, List.getElem_cons_succ])) | (refine wpAnyH_take (i := 4) (v := ?_) rfl (by kernel_rfl) (by decide +kernel) (by decide +kernel) (fun _ _ _ h => h) ?_ (by assumption) ?_; rotate_left; (first | (refine yields_load (by rfl) rfl rfl ?_; intro w hSw; (try dsimp only at hSw); go_split_ands; assumption) | (refine Or.inl ⟨by rfl, ?_⟩; intro w hSw; (try dsimp only at hSw); go_simp; done) | (refine Or.inl ⟨by rfl, ?_⟩; intro w hSw; (try dsimp only at hSw); go_simp; with_reducible rfl) | exact Or.inr ⟨by rfl, rfl⟩); (try simp only [Act.put, List.setIfInBounds_toArray, List.set_cons_zero, List.set_cons_succ, List.getElem_toArray, List.getElem_cons_zero, List.getElem_cons_succ])) | (refine wpAnyH_take (i := 5) (v := ?_) rfl (by kernel_rfl) (by decide +kernel) (by decide +kernel) (fun _ _ _ h => h) ?_ (by assumption) ?_; rotate_left; (first | (refine yields_load (by rfl) rfl rfl ?_; intro w hSw; (try dsimp only at hSw); go_split_ands; assumption) | (refine Or.inl ⟨by rfl, ?_⟩; intro w hSw; (try dsimp only at hSw); go_simp; done) | (refine Or.inl ⟨by rfl, ?_⟩; intro w hSw; (try dsimp only at hSw); go_simp; with_reducible rfl) | exact Or.inr ⟨by rfl, rfl⟩); (try simp only [Act.put, List.setIfInBounds_toArray, List.set_cons_zero, List.set_cons_succ, List.getElem_toArray, List.getElem_cons_zero, List.getElem_cons_succ])) | (refine wpAnyH_take (i := 6) (v := ?_) rfl (by kernel_rfl) (by decide +kernel) (by decide +kernel) (fun _ _ _ h => h) ?_ (by assumption) ?_; rotate_left; (first | (refine yields_load (by rfl) rfl rfl ?_; intro w hSw; (try dsimp only at hSw); go_split_ands; assumption) | (refine Or.inl ⟨by rfl, ?_⟩; intro w hSw; (try dsimp only at hSw); go_simp; done) | (refine Or.inl ⟨by rfl, ?_⟩; intro w hSw; (try dsimp only at hSw); go_simp; with_reducible rfl) | exact Or.inr ⟨by rfl, rfl⟩); (try simp only [Act.put, List.setIfInBounds_toArray, List.set_cons_zero, List.set_cons_succ, List.getElem_toArray, List.getElem_cons_zero, List.getElem_cons_succ])) | (refine wpAnyH_take (i := 7) (v := ?_) rfl (by kernel_rfl) (by decide +kernel) (by decide +kernel) (fun _ _ _ h => h) ?_ (by assumption) ?_; rotate_left; (first | (refine yields_load (by rfl) rfl rfl ?_; intro w hSw; (try dsimp only at hSw); go_split_ands; assumption) | (refine Or.inl ⟨by rfl, ?_⟩; intro w hSw; (try dsimp only at hSw); go_simp; done) | (refine Or.inl ⟨by rfl, ?_⟩; intro w hSw; (try dsimp only at hSw); go_simp; with_reducible rfl) | exact Or.inr ⟨by rfl, rfl⟩); (try simp only [Act.put, List.setIfInBounds_toArray, List.set_cons_zero, List.set_cons_succ, List.getElem_toArray, List.getElem_cons_zero, List.getElem_cons_succ])) | (refine wpAnyH_take (i := 8) (v := ?_) rfl (by kernel_rfl) (by decide +kernel) (by decide +kernel) (fun _ _ _ h => h) ?_ (by assumption) ?_; rotate_left; (first | (refine yields_load (by rfl) rfl rfl ?_; intro w hSw; (try dsimp only at hSw); go_split_ands; assumption) | (refine Or.inl ⟨by rfl, ?_⟩; intro w hSw; (try dsimp only at hSw); go_simp; done) | (refine Or.inl ⟨by rfl, ?_⟩; intro w hSw; (try dsimp only at hSw); go_simp; with_reducible rfl) | exact Or.inr ⟨by rfl, rfl⟩); (try simp only [Act.put, List.setIfInBounds_toArray, List.set_cons_zero, List.set_cons_succ, List.getElem_toArray, List.getElem_cons_zero, List.getElem_cons_succ])) | (refine wpAnyH_take (i := 9) (v := ?_) rfl (by kernel_rfl) (by decide +kernel) (by decide +kernel) (fun _ _ _ h => h) ?_ (by assumption) ?_; rotate_left; (first | (refine yields_load (by rfl) rfl rfl ?_; intro w hSw; (try dsimp only at hSw); go_split_ands; assumption) | (refine Or.inl ⟨by rfl, ?_⟩; intro w hSw; (try dsimp only at hSw); go_simp; done) | (refine Or.inl ⟨by rfl, ?_⟩; intro w hSw; (try dsimp only at hSw); go_simp; with_reducible rfl) | exact Or.inr ⟨by rfl, rfl⟩); (try simp only [Act.put, List.setIfInBounds_toArray, List.set_cons_zero, List.set_cons_succ, List.getElem_toArray, List.getElem_cons_zero, List.getElem_cons_succ])) | (refine wpAnyH_take (i := 10) (v := ?_) rfl (by kernel_rfl) (by decide +kernel) (by decide +kernel) (fun _ _ _ h => h) ?_ (by assumption) ?_; rotate_left; (first | (refine yields_load (by rfl) rfl rfl ?_; intro w hSw; (try dsimp only at hSw); go_split_ands; assumption) | (refine Or.inl ⟨by rfl, ?_⟩; intro w hSw; (try dsimp only at hSw); go_simp; done) | (refine Or.inl ⟨by rfl, ?_⟩; intro w hSw; (try dsimp only at hSw); go_simp; with_reducible rfl) | exact Or.inr ⟨by rfl, rfl⟩); (try simp only [Act.put, List.setIfInBounds_toArray, List.set_cons_zero, List.set_cons_succ, List.getElem_toArray, List.getElem_cons_zero, List.getElem_cons_succ])) | (refine wpAnyH_take (i := 11) (v := ?_) rfl (by kernel_rfl) (by decide +kernel) (by decide +kernel) (fun _ _ _ h => h) ?_ (by assumption) ?_; rotate_left; (first | (refine yields_load (by rfl) rfl rfl ?_; intro w hSw; (try dsimp only at hSw); go_split_ands; assumption) | (refine Or.inl ⟨by rfl, ?_⟩; intro w hSw; (try dsimp only at hSw); go_simp; done) | (refine Or.inl ⟨by rfl, ?_⟩; intro w hSw; (try dsimp only at hSw); go_simp; with_reducible rfl) | exact Or.inr ⟨by rfl, rfl⟩); (try simp only [Act.put, List.setIfInBounds_toArray, List.set_cons_zero, List.set_cons_succ, List.getElem_toArray, List.getElem_cons_zero, List.getElem_cons_succ])))
            refine wpAnyH_done (by kernel_rfl) ?_ _
            go_wp2
            go_roundw
            case rel => exact ⟨k + 1, by omega, by go_num, hid MR.out.drew⟩
            case measure => simp [intOf] <;> omega
          · obtain rfl : k = m := by omega
            obtain ⟨a8, rfl, k8⟩ := hr8.cell (ints_get .i64 ps 0 (by rw [hpl.out]; omega))
            obtain ⟨a8', he, k8'⟩ := hr8.cell (ints_get .i64 ps k (by rw [hpl.out]; omega))
            injection he with he
            subst he
            clear hr8
            rw [hpk.out 0 (by omega), psum_zero] at k8
            rw [hpk.out k hk, hQs'.out] at k8'
            have k8z : wr.cell? a8 = some (.int .i64 0) := by simpa [Addr.add] using k8
            have i1 : k < k + 1 := by omega
            have i2 : (k : Int) < (k : Int) + 1 := by omega
            have i3 : 0 < k + 1 := by omega
            have i4 : (0 : Int) < (k : Int) + 1 := by omega
            go_wp2
            go_ret
            exact .mk ⟨rfl, MR.out.below⟩
      · have hQl := hid hm.out.symm
        have hQb := hid (fun x (hx : x ∈ L) => show 0 ≤ x ∧ x ≤ 2000000 from by have := wH.out x hx; omega)
        have hQs := hps
        have MQ := hid MH.out
        obtain ⟨S, hSS⟩ : ∃ S, L.sum = S := ⟨_, rfl⟩
        have S0 : 0 ≤ S := by omega
        have S1 : S ≤ 4000000 := by omega
        rw [hSS] at hQs ⊢
        clear hSS hm s0 s1 MH wH hps
        go_upto_region 13 with fail
        have gQ := hid (good_small (m := 0) (l := L) (by rw [hQl.out]; omega) hQb.out)
        have hB := hid (fun w V (h : SliceAt w w.heap.size 1 V m (ints .i64 L)) => locaBuild_yes w (l := L) (hQl.out ▸ h) gQ.out)
        have hR := hid (fun w V (h : SliceAt w w.heap.size 1 V m (ints .i64 L)) => refBuild_calls w (l := L) (hQl.out ▸ h) gQ.out)
        have hq4 := hid (show (locB L).length ≤ 140737488355328 by
          rw [locB_len, hQl.out]
          have := locS_le (locL L)
          exact Nat.le_trans (Nat.mul_le_mul this (show m + 1 ≤ 31 by omega)) (by omega))
        have hF : Fine (locL L) (locB L) m S := by have := fine_locB gQ.out; rw [hQs.out, hQl.out] at this; exact this
        have hpn : pns (locL L) (locB L) (m + 1) = plc L := by have := pns_locB gQ.out; rw [hQl.out] at this; exact this
        have hP := hid (fun w V (h : BytesAt w V (locB L)) => parse_yes w (locL L) h (bytes_locB L) hq4.out (G := m) (by omega) (size := S) (by omega) (by omega) hF)
        rw [hpn] at hP
        have hpk := hid (fun k (hk : k ≤ m) => show (plc L).getD k 0 = psum L k from plcK_get L (by rw [hQl.out]; exact hk))
        have hpl := hid (show (plc L).length = m + 1 by rw [plc_length, hQl.out])
        have hsu := hid (fun k (hk : k < m) => psum_succ (l := L) (k := k) (by rw [hQl.out]; exact hk))
        have hsb := hid (fun k (hk : k ≤ m) => gQ.out.bd (k := k) (by rw [hQl.out]; exact hk))
        have hQs' := hid (show psum L m = S by rw [← hQl.out]; exact hQs.out)
        clear hF hpn hq4 gQ
        generalize locB L = q at *
        generalize locL L = lg at *
        generalize plc L = ps at *
        go_wp2_with (first
          | (go_at_call 9; refine (hB.out _ _ (MQ.out.slice (e := 3) (.head _))).mono ?_; rintro _ w3 ⟨_, rfl, v, rfl, M⟩; obtain ⟨A3, c3, rfl⟩ := M.form (.head _); (have M3 := hid (MQ.out.lift M)); clear M)
          | (go_at_call 10; refine (hR.out _ _ (M3.out.slice (e := 3) (v := .slice A m c) (n := m) (xs := ints .i64 L) (by simp))).mono ?_; rintro _ w4 ⟨_, rfl, v4, rfl, M⟩; obtain ⟨A4, c4, rfl⟩ := M.form (.head _); (have M4 := hid (M3.out.lift M)); clear M)
          | (go_at_call 12; refine (hP.out _ _ (M4.out.slice (e := 5) (v := .slice A3 q.length c3) (n := q.length) (xs := ints .u8 q) (by simp))).mono ?_; rintro _ w5 ⟨_, rfl, v5, rfl, M⟩; obtain ⟨A5, c5, rfl⟩ := M.form (.head _); (have M5 := hid (M4.out.lift M)); clear M)
          | (go_at_call 11; (refine (same_calls _ (M5.out.slice (e := 5) (n := q.length) (xs := ints .u8 q) (v := .slice A3 q.length c3) (by simp)) (M5.out.slice (e := 5) (n := q.length) (xs := ints .u8 q) (v := .slice A4 q.length c4) (by simp))).mono ?_); rw [decide_eq_true (rfl : q = q)]; rintro _ w6 ⟨_, rfl, rfl, hb⟩; (have M6 := hid (M5.out.keep hb)); clear hb))
        have M7 := hid (M6.out.sub (L' := [.row 3 1 (.slice A5 (m + 1) c5) (m + 1) (ints .i64 ps), .row 3 1 (.slice A m c) m (ints .i64 L)]) (by simp))
        clear M6 hB hR hP
        go_loopw [98] (fun i wr => ∃ k : Nat, k ≤ m ∧ i = .int .i64 k ∧ Hid (Own w wr [.row 3 1 (.slice A5 (m + 1) c5) (m + 1) (ints .i64 ps), .row 3 1 (.slice A m c) m (ints .i64 L)])) (fun i _ => m - (intOf i).toNat)
        case atStart => exact ⟨0, Nat.zero_le _, rfl, M7⟩
        case round =>
          clear M7
          obtain ⟨k, hk, rfl, MR⟩ := hrel
          obtain ⟨A8, c8, he, hc8, hm8, -, hr8⟩ := MR.out.slice (e := 3) (sz := 1) (v := .slice A5 (m + 1) c5) (n := m + 1) (xs := ints .i64 ps) (.head _)
          injection he with he1 he2 he3
          subst he1 he3
          clear he2
          unfold maxLen at hm8
          by_cases hlt : k < m
          · obtain ⟨A9, c9, he, hc9, hm9, -, hr9⟩ := MR.out.slice (e := 3) (sz := 1) (v := .slice A m c) (n := m) (xs := ints .i64 L) (by simp)
            injection he with he1 he2 he3
            subst he1 he3
            clear he2
            unfold maxLen at hm9
            obtain ⟨a9, rfl, k9⟩ := hr9.cell (ints_get .i64 L k (by rw [hQl.out]; exact hlt))
            obtain ⟨a8, rfl, k8⟩ := hr8.cell (ints_get .i64 ps k (by rw [hpl.out]; omega))
            obtain ⟨a8', he, k8'⟩ := hr8.cell (ints_get .i64 ps (k + 1) (by rw [hpl.out]; omega))
            injection he with he
            subst he
            clear hr9 hr8
            rw [hpk.out k hk] at k8
            rw [hpk.out (k + 1) hlt] at k8'
            have hsx := hsu.out k hlt
            obtain ⟨s0, s1⟩ := hsb.out k hk
            obtain ⟨t0, t1⟩ := hsb.out (k + 1) hlt
            generalize L.getD k 0 = x at *
            generalize psum L k = s at *
            generalize psum L (k + 1) = t at *
            have hd : t - s = x := by omega
            have hwk : IntKind.i64.wrap ((k : Int) + 1) = ((k + 1 : Nat) : Int) := IntWalk.i64_in _ (by omega)
            have hw64 : IntKind.i64.wrap (t - s) = t - s := IntWalk.i64_in _ (by omega)
            have hwx : IntKind.i64.wrap x = x := IntWalk.i64_in _ (by omega)
            have hne : (t - s != x) = false := by rw [hd]; simp
            have hne2 : (x != x) = false := by simp
            have hx0 : -67108864 ≤ x := by omega
            have hx1 : x ≤ 67108864 := by omega
            clear hsx
            have k8s : wr.cell? ⟨a8.block, a8.off + (k + 1), none⟩ = some (.int .i64 t) := by simpa [Addr.add] using k8'
            have i1 : ((k : Int) + 1).toNat = k + 1 := by omega
            have i2 : k + 1 < m + 1 := by omega
            have i3 : (k : Int) + 1 < (m : Int) + 1 := by omega
            have i4 : ¬ ((k : Int) + 1 < 0) := by omega
            have i5 : 0 ≤ (k : Int) + 1 := by omega
            have i6 : k < m + 1 := by omega
            have i7 : (k : Int) < (m : Int) + 1 := by omega
            have i8 : k ≤ m := by omega
            go_upto_region 21 with fail
            refine wp_region_held_drew (S := fun w' => w'.cell? (a8.add k) = some (.int .i64 s) ∧ w'.cell? ⟨a8.block, a8.off + (k + 1), none⟩ = some (.int .i64 t)) (by kernel_rfl) ⟨k8, k8s⟩ (fun hHeld => ?_)
            repeat (first | (refine wpAnyH_take (i := 0) (v := ?_) rfl (by kernel_rfl) (by decide +kernel) (by decide +kernel) (fun _ _ _ h => h) ?_ (by assumption) ?_; rotate_left; (first | (refine yields_load (by rfl) rfl rfl ?_; intro w hSw; (try dsimp only at hSw); go_split_ands; assumption) | (refine Or.inl ⟨by rfl, ?_⟩; intro w hSw; (try dsimp only at hSw); go_simp; done) | (refine Or.inl ⟨by rfl, ?_⟩; intro w hSw; (try dsimp only at hSw); go_simp; with_reducible rfl) | exact Or.inr ⟨by rfl, rfl⟩); (try simp only [Act.put, List.setIfInBounds_toArray, List.set_cons_zero, List.set_cons_succ, List.getElem_toArray, List.getElem_cons_zero, List.getElem_cons_succ])) | (refine wpAnyH_take (i := 1) (v := ?_) rfl (by kernel_rfl) (by decide +kernel) (by decide +kernel) (fun _ _ _ h => h) ?_ (by assumption) ?_; rotate_left; (first | (refine yields_load (by rfl) rfl rfl ?_; intro w hSw; (try dsimp only at hSw); go_split_ands; assumption) | (refine Or.inl ⟨by rfl, ?_⟩; intro w hSw; (try dsimp only at hSw); go_simp; done) | (refine Or.inl ⟨by rfl, ?_⟩; intro w hSw; (try dsimp only at hSw); go_simp; with_reducible rfl) | exact Or.inr ⟨by rfl, rfl⟩); (try simp only [Act.put, List.setIfInBounds_toArray, List.set_cons_zero, List.set_cons_succ, List.getElem_toArray, List.getElem_cons_zero, List.getElem_cons_succ])) | (refine wpAnyH_take (i := 2) (v := ?_) rfl (by kernel_rfl) (by decide +kernel) (by decide +kernel) (fun _ _ _ h => h) ?_ (by assumption) ?_; rotate_left; (first | (refine yields_load (by rfl) rfl rfl ?_; intro w hSw; (try dsimp only at hSw); go_split_ands; assumption) | (refine Or.inl ⟨by rfl, ?_⟩; intro w hSw; (try dsimp only at hSw); go_simp; done) | (refine Or.inl ⟨by rfl, ?_⟩; intro w hSw; (try dsimp only at hSw); go_simp; with_reducible rfl) | exact Or.inr ⟨by rfl, rfl⟩); (try simp only [Act.put, List.setIfInBounds_toArray, List.set_cons_zero, List.set_cons_succ, List.getElem_toArray, List.getElem_cons_zero, List.getElem_cons_succ])) | (refine wpAnyH_take (i := 3) (v := ?_) rfl (by kernel_rfl) (by decide +kernel) (by decide +kernel) (fun _ _ _ h => h) ?_ (by assumption) ?_; rotate_left; (first | (refine yields_load (by rfl) rfl rfl ?_; intro w hSw; (try dsimp only at hSw); go_split_ands; assumption) | (refine Or.inl ⟨by rfl, ?_⟩; intro w hSw; (try dsimp only at hSw); go_simp; done) | (refine Or.inl ⟨by rfl, ?_⟩; intro w hSw; (try dsimp only at hSw); go_simp; with_reducible rfl) | exact Or.inr ⟨by rfl, rfl⟩); (try simp only [Act.put, List.setIfInBounds_toArray, List.set_cons_zero, List.set_cons_succ, List.getElem_toArray, List.getElem_cons_zero, List.getElem_cons_succ])) | (refine wpAnyH_take (i := 4) (v := ?_) rfl (by kernel_rfl) (by decide +kernel) (by decide +kernel) (fun _ _ _ h => h) ?_ (by assumption) ?_; rotate_left; (first | (refine yields_load (by rfl) rfl rfl ?_; intro w hSw; (try dsimp only at hSw); go_split_ands; assumption) | (refine Or.inl ⟨by rfl, ?_⟩; intro w hSw; (try dsimp only at hSw); go_simp; done) | (refine Or.inl ⟨by rfl, ?_⟩; intro w hSw; (try dsimp only at hSw); go_simp; with_reducible rfl) | exact Or.inr ⟨by rfl, rfl⟩); (try simp only [Act.put, List.setIfInBounds_toArray, List.set_cons_zero, List.set_cons_succ, List.getElem_toArray, List.getElem_cons_zero, List.getElem_cons_succ])) | (refine wpAnyH_take (i := 5) (v := ?_) rfl (by kernel_rfl) (by decide +kernel) (by decide +kernel) (fun _ _ _ h => h) ?_ (by assumption) ?_; rotate_left; (first | (refine yields_load (by rfl) rfl rfl ?_; intro w hSw; (try dsimp only at hSw); go_split_ands; assumption) | (refine Or.inl ⟨by rfl, ?_⟩; intro w hSw; (try dsimp only at hSw); go_simp; done) | (refine Or.inl ⟨by rfl, ?_⟩; intro w hSw; (try dsimp only at hSw); go_simp; with_reducible rfl) | exact Or.inr ⟨by rfl, rfl⟩); (try simp only [Act.put, List.setIfInBounds_toArray, List.set_cons_zero, List.set_cons_succ, List.getElem_toArray, List.getElem_cons_zero, List.getElem_cons_succ])) | (refine wpAnyH_take (i := 6) (v := ?_) rfl (by kernel_rfl) (by decide +kernel) (by decide +kernel) (fun _ _ _ h => h) ?_ (by assumption) ?_; rotate_left; (first | (refine yields_load (by rfl) rfl rfl ?_; intro w hSw; (try dsimp only at hSw); go_split_ands; assumption) | (refine Or.inl ⟨by rfl, ?_⟩; intro w hSw; (try dsimp only at hSw); go_simp; done) | (refine Or.inl ⟨by rfl, ?_⟩; intro w hSw; (try dsimp only at hSw); go_simp; with_reducible rfl) | exact Or.inr ⟨by rfl, rfl⟩); (try simp only [Act.put, List.setIfInBounds_toArray, List.set_cons_zero, List.set_cons_succ, List.getElem_toArray, List.getElem_cons_zero, List.getElem_cons_succ])) | (refine wpAnyH_take (i := 7) (v := ?_) rfl (by kernel_rfl) (by decide +kernel) (by decide +kernel) (fun _ _ _ h => h) ?_ (by assumption) ?_; rotate_left; (first | (refine yields_load (by rfl) rfl rfl ?_; intro w hSw; (try dsimp only at hSw); go_split_ands; assumption) | (refine Or.inl ⟨by rfl, ?_⟩; intro w hSw; (try dsimp only at hSw); go_simp; done) | (refine Or.inl ⟨by rfl, ?_⟩; intro w hSw; (try dsimp only at hSw); go_simp; with_reducible rfl) | exact Or.inr ⟨by rfl, rfl⟩); (try simp only [Act.put, List.setIfInBounds_toArray, List.set_cons_zero, List.set_cons_succ, List.getElem_toArray, List.getElem_cons_zero, List.getElem_cons_succ])) | (refine wpAnyH_take (i := 8) (v := ?_) rfl (by kernel_rfl) (by decide +kernel) (by decide +kernel) (fun _ _ _ h => h) ?_ (by assumption) ?_; rotate_left; (first | (refine yields_load (by rfl) rfl rfl ?_; intro w hSw; (try dsimp only at hSw); go_split_ands; assumption) | (refine Or.inl ⟨by rfl, ?_⟩; intro w hSw; (try dsimp only at hSw); go_simp; done) | (refine Or.inl ⟨by rfl, ?_⟩; intro w hSw; (try dsimp only at hSw); go_simp; with_reducible rfl) | exact Or.inr ⟨by rfl, rfl⟩); (try simp only [Act.put, List.setIfInBounds_toArray, List.set_cons_zero, List.set_cons_succ, List.getElem_toArray, List.getElem_cons_zero, List.getElem_cons_succ])) | (refine wpAnyH_take (i := 9) (v := ?_) rfl (by kernel_rfl) (by decide +kernel) (by decide +kernel) (fun _ _ _ h => h) ?_ (by assumption) ?_; rotate_left; (first | (refine yields_load (by rfl) rfl rfl ?_; intro w hSw; (try dsimp only at hSw); go_split_ands; assumption) | (refine Or.inl ⟨by rfl, ?_⟩; intro w hSw; (try dsimp only at hSw); go_simp; done) | (refine Or.inl ⟨by rfl, ?_⟩; intro w hSw; (try dsimp only at hSw); go_simp; with_reducible rfl) | exact Or.inr ⟨by rfl, rfl⟩); (try simp only [Act.put, List.setIfInBounds_toArray, List.set_cons_zero, List.set_cons_succ, List.getElem_toArray, List.getElem_cons_zero, List.getElem_cons_succ])) | (refine wpAnyH_take (i := 10) (v := ?_) rfl (by kernel_rfl) (by decide +kernel) (by decide +kernel) (fun _ _ _ h => h) ?_ (by assumption) ?_; rotate_left; (first | (refine yields_load (by rfl) rfl rfl ?_; intro w hSw; (try dsimp only at hSw); go_split_ands; assumption) | (refine Or.inl ⟨by rfl, ?_⟩; intro w hSw; (try dsimp only at hSw); go_simp; done) | (refine Or.inl ⟨by rfl, ?_⟩; intro w hSw; (try dsimp only at hSw); go_simp; with_reducible rfl) | exact Or.inr ⟨by rfl, rfl⟩); (try simp only [Act.put, List.setIfInBounds_toArray, List.set_cons_zero, List.set_cons_succ, List.getElem_toArray, List.getElem_cons_zero, List.getElem_cons_succ])) | (refine wpAnyH_take (i := 11) (v := ?_) rfl (by kernel_rfl) (by decide +kernel) (by decide +kernel) (fun _ _ _ h => h) ?_ (by assumption) ?_; rotate_left; (first | (refine yields_load (by rfl) rfl rfl ?_; intro w hSw; (try dsimp only at hSw); go_split_ands; assumption) | (refine Or.inl ⟨by rfl, ?_⟩; intro w hSw; (try dsimp only at hSw); go_simp; done) | (refine Or.inl ⟨by rfl, ?_⟩; intro w hSw; (try dsimp only at hSw); go_simp; with_reducible rfl) | exact Or.inr ⟨by rfl, rfl⟩); (try simp only [Act.put, List.setIfInBounds_toArray, List.set_cons_zero, List.set_cons_succ, List.getElem_toArray, List.getElem_cons_zero, List.getElem_cons_succ])))
            refine wpAnyH_done (by kernel_rfl) ?_ _
            go_wp2
            go_roundw
            case rel => exact ⟨k + 1, by omega, by go_num, hid MR.out.drew⟩
            case measure => simp [intOf] <;> omega
          · obtain rfl : k = m := by omega
            obtain ⟨a8, rfl, k8⟩ := hr8.cell (ints_get .i64 ps 0 (by rw [hpl.out]; omega))
            obtain ⟨a8', he, k8'⟩ := hr8.cell (ints_get .i64 ps k (by rw [hpl.out]; omega))
            injection he with he
            subst he
            clear hr8
            rw [hpk.out 0 (by omega), psum_zero] at k8
            rw [hpk.out k hk, hQs'.out] at k8'
            have k8z : wr.cell? a8 = some (.int .i64 0) := by simpa [Addr.add] using k8
            have i1 : k < k + 1 := by omega
            have i2 : (k : Int) < (k : Int) + 1 := by omega
            have i3 : 0 < k + 1 := by omega
            have i4 : (0 : Int) < (k : Int) + 1 := by omega
            go_wp2
            go_ret
            exact .mk ⟨rfl, MR.out.below⟩
end Go.Proofs.Ytmboeoobkccpoaa
