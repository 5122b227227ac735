/- Layer 8: LocaCuts. -/
import Derived.Test.YtmboeoobkccpoaaLocaG
import Derived.Test.YtmboeoobkccpoaaDec08B
import Derived.Test.YtmboeoobkccpoaaLaw08C
import Derived.Test.YtmboeoobkccpoaaHeld
import Derived.Deep.RegionWith
import Derived.Deep.DeepCutAuto
import Derived.Deep.RegionHeld3
namespace Go.Proofs.Ytmboeoobkccpoaa
open Go Go.RowKit
set_option linter.unusedVariables false
set_option linter.unusedSimpArgs false
set_option maxRecDepth 100000

theorem Own.and1 {W0 w : World} {x : Ent} {L : List Ent} (M : Own W0 w (x :: L)) (y : Ent) (h : y ∈ L) : Own W0 w [x, y] := M.sub (List.cons_sublist_cons.2 (List.singleton_sublist.2 h))
theorem szs_snoc (gs : List (List Int)) (g : List Int) : szs (gs ++ [g]) = szs gs ++ [(g.length : Int)] := by simp [szs]

theorem gK_get {ls : List (List Int)} {n k : Nat} (hk : k < (gK ls n).length) (hl : k < ls.length) : (gK ls n)[k] = (ls[k]).take 40 := by
  simp [gK]
theorem szs_length (gs : List (List Int)) : (szs gs).length = gs.length := by simp [szs]
theorem szs_small {gs : List (List Int)} (h : ∀ g ∈ gs, g.length ≤ 40) : ∀ x ∈ szs gs, 0 ≤ x ∧ x ≤ 2000000 := by
  intro x hx
  obtain ⟨g, hg, rfl⟩ := List.mem_map.1 hx
  have := h g hg
  omega

set_option maxHeartbeats 8000000 in
theorem locaCuts_calls (w : World) {V : Value} {vs : List Value} {ls : List (List Int)} (h1 : SliceAt w w.heap.size 1 V vs.length vs) (ha : AllAt w vs ls) (hb : ∀ l ∈ ls, Bytes l) {z : Int} (z0 : -9223372036854775808 ≤ z) (z1 : z < 9223372036854775808) :
    Calls Try.prog 6 #[V, .int .i64 z] w (Ret fun r w' => r = .bool true ∧ Below w.heap.size w w') := by
  have M0 := hid (Own.start w)
  obtain ⟨A1, c1, rfl, hc1, hm1, hA1, hr1⟩ := h1
  unfold maxLen at hm1
  have hr1H := hid hr1
  have haH := hid ha
  have hbH := hid hb
  clear hr1 hA1 ha hb
  generalize hvn : vs.length = n at *
  have hln := hid (show ls.length = n from by rw [← haH.out.1]; exact hvn)
  have hvnH := hid hvn
  clear hvn
  have hgb := hid (fun k => gK_bytes hbH.out k)
  have hgl := hid (fun k => show (gK ls k).flatten.length ≤ 480 from by
    have h1 := flat_bd (gK_le ls k)
    have h2 : (gK ls k).length ≤ 12 := by rw [gK_length]; omega
    omega)
  have hgn := hid (fun k => show (gK ls k).length ≤ 12 from by rw [gK_length]; omega)
  go_enter Try.func6, Try.ntmps6
  go_wp2_with (go_at_call 8; refine (awake_calls _).mono ?_; rintro _ w2 ⟨_, rfl, rfl, hb⟩; (have M2 := hid (M0.out.keep hb)); clear hb)
  go_loopw [5, 6, 18] (fun d s i wr => ∃ (k : Nat) (A B : Option Addr) (p q c e : Nat), k ≤ n ∧ i = .int .i64 k ∧ d = .slice A p c ∧ s = .slice B q e ∧ Hid (p = (gK ls k).flatten.length) ∧ Hid (q = (gK ls k).length) ∧ Hid (Own w wr [.row 5 1 (.slice A p c) p (ints .u8 (gK ls k).flatten), .row 3 1 (.slice B q e) q (ints .i64 (szs (gK ls k)))])) (fun _ _ i _ => n - (intOf i).toNat)
  case atStart => exact ⟨0, none, none, 0, 0, 0, 0, Nat.zero_le _, rfl, rfl, rfl, hid (by simp [gK]), hid (by simp [gK]), hid (by simpa [gK, szs, ints] using (M2.out.nil_row 3 1).nil_row 5 1)⟩
  case round =>
    clear M2
    obtain ⟨k, A, B, p, q, c, e, hk, rfl, rfl, rfl, hp, hq, MH⟩ := hrel
    by_cases hlt : k < n
    · have hkv : k < vs.length := by rw [hvnH.out]; exact hlt
      have hkl : k < ls.length := by rw [hln.out]; exact hlt
      obtain ⟨a1, rfl, hcell1⟩ := (hr1H.out.keep (w' := wr) fun k hk _ => MH.out.below.block k hk).cell (List.getElem?_eq_getElem hkv)
      have hbt := (haH.out.below MH.out.below).2 k _ _ (List.getElem?_eq_getElem hkv) (List.getElem?_eq_getElem hkl)
      by_cases h12 : k < 12
      · have hgs := hid (gK_succ hkl h12)
        have hl40 := hid (show ((ls[k]).take 40).length ≤ 40 by rw [List.length_take]; omega)
        have hCut := hid (cut_calls wr 40 (by omega) hbt (by omega))
        have hpk := hgl.out k
        have hqk := hgn.out k
        rw [← hp.out] at hpk
        rw [← hq.out] at hqk
        generalize (ls[k]).take 40 = g at *
        generalize vs[k] = u at *
        obtain ⟨Au, cu, rfl, -⟩ := hbt
        have he := hid (show [(gK ls k).flatten, g].flatten = (gK ls (k + 1)).flatten by rw [hgs.out]; simp)
        have hel := hid (show ([(gK ls k).flatten, g].flatten).length = p + g.length by rw [hp.out]; simp)
        have hsz := hid (szs_snoc (gK ls k) g)
        rw [← hgs.out] at hsz
        have hq1 := hid (show q + 1 = (gK ls (k + 1)).length by rw [hgs.out, List.length_append, hq.out]; rfl)
        go_wp2_with (first
          | (go_at_call 13; refine hCut.out.mono ?_; rintro _ w5 ⟨_, rfl, M⟩; obtain ⟨A2, c2, rfl⟩ := M.form (.head _); (have M5 := hid ((MH.out.lift M).alloc 24 #[.slice A p c, .slice A2 g.length c2])); clear M)
          | (go_at_call 14; (refine (join_calls _ (vs := [.slice A p c, .slice A2 g.length c2]) (ls := [(gK ls k).flatten, g]) (SliceAt.built M5.out (.head _) 1 2 rfl (by unfold maxLen; omega)) (.cons (M5.out.bytes (e := 5) (n := p) (by simp) hp.out.symm) (.cons (M5.out.slice (e := 5) (n := g.length) (xs := ints .u8 g) (by simp)) (.nil _))) (by rw [hel.out]; have := hl40.out; omega)).mono ?_); rw [hel.out, he.out]; rintro _ w6 ⟨_, rfl, M⟩; obtain ⟨A4, c4, rfl⟩ := M.form (.head _); (have M6 := hid ((M5.out.lift M).and1 (.row 3 1 (.slice B q e) q (ints .i64 (szs (gK ls k)))) (by simp))); clear M M5)
          | (at_builtin; refine wpList_append_Own rfl (.tmp 31) (.tmp 34) _ rfl sized_int rfl rfl (L1 := [.blk w6.heap.size 3 #[.int .i64 g.length], .row 5 1 (.slice A4 (p + g.length) c4) (p + g.length) (ints .u8 (gK ls (k + 1)).flatten)]) (L2 := []) (M6.out.alloc _ _) (SliceAt.built (M6.out.alloc _ _) (.head _) 1 1 rfl (by unfold maxLen; omega)) (ints_one .i64 [(g.length : Int)]) (by unfold maxLen; omega) (by omega) ?_; intro v' w' M'; obtain ⟨A7, c7, rfl⟩ := M'.tail.form (.tail _ (.head _)); (have M7 := hid M'.tail); clear M' M6))
        go_roundw
        case rel => exact ⟨k + 1, A4, A7, _, _, c4, c7, by omega, by go_num, rfl, rfl, hid (by rw [← he.out, hel.out]), hid hq1.out, by rw [hsz.out, ints_append]; exact M7⟩
        case measure => simp [intOf] <;> omega
      · have hgs := hid (gK_same (ls := ls) h12)
        generalize vs[k] = u at *
        obtain ⟨Au, cu, rfl, -⟩ := hbt
        go_wp2
        go_roundw
        case rel => exact ⟨k + 1, A, B, p, q, c, e, by omega, by go_num, rfl, rfl, hid (by rw [hgs.out]; exact hp.out), hid (by rw [hgs.out]; exact hq.out), by rw [hgs.out]; exact MH⟩
        case measure => simp [intOf] <;> omega
    · obtain rfl : k = n := by omega
      have hkm := hid (show q ≤ 12 by rw [hq.out]; exact hgn.out k)
      have hqn := hid (show q ≤ k by rw [hq.out, gK_length]; omega)
      have hql := hid (show ∀ j, j < q → (hj : j < ls.length) → ∃ hG : j < (gK ls k).length, (gK ls k)[j] = (ls[j]).take 40 from fun j hj hl => ⟨by rw [← hq.out]; exact hj, gK_get _ hl⟩)
      have hle := hid (gK_le ls k)
      have hGb := hid (hgb.out k)
      have hp480 := hgl.out k
      rw [← hp.out] at hp480
      clear hgb hgl hgn hlt hk
      generalize gK ls k = G at *
      have gS := hid (good_small (m := 0) (l := szs G) (by rw [szs_length, ← hq.out]; have := hkm.out; omega) (szs_small hle.out))
      have hSl := hid (show (szs G).length = q by rw [szs_length, hq.out])
      have hB := hid (fun w V (h : SliceAt w w.heap.size 1 V q (ints .i64 (szs G))) => locaBuild_yes w (l := szs G) (hSl.out ▸ h) gS.out)
      have hq4 := hid (show (locB (szs G)).length ≤ 140737488355328 by
        rw [locB_len, hSl.out]
        have h1 := locS_le (locL (szs G))
        have h2 := hkm.out
        exact Nat.le_trans (Nat.mul_le_mul h1 (show q + 1 ≤ 13 by omega)) (by omega))
      have hpt := hid (show psum (szs G) (szs G).length = (p : Int) by rw [szs_take, hp.out, szs_length, List.take_length])
      have hF : Fine (locL (szs G)) (locB (szs G)) q p := by have := fine_locB gS.out; rw [hpt.out, hSl.out] at this; exact this
      have hpn : pns (locL (szs G)) (locB (szs G)) (q + 1) = plc (szs G) := by have := pns_locB gS.out; rw [hSl.out] at this; exact this
      have hq12 := hkm.out
      have hP := hid (fun w V (h : BytesAt w V (locB (szs G))) => parse_yes w (locL (szs G)) h (bytes_locB (szs G)) hq4.out (G := q) (by omega) (size := p) (by omega) (by omega) hF)
      rw [hpn] at hP
      have hpk := hid (fun j (hj : j ≤ q) => show (plc (szs G)).getD j 0 = (((G.take j).flatten.length : Nat) : Int) from by
        rw [← szs_take]; exact plcK_get (szs G) (by rw [hSl.out]; exact hj))
      have hpl := hid (show (plc (szs G)).length = q + 1 by rw [plc_length, hSl.out])
      clear hF hpn hq4 gS hpt
      generalize locB (szs G) = qb at *
      generalize locL (szs G) = lg at *
      generalize plc (szs G) = ps at *
      go_wp2_with (first
        | (go_at_call 9; refine (hB.out _ _ (MH.out.slice (e := 3) (v := .slice B q e) (n := q) (xs := ints .i64 (szs G)) (by simp))).mono ?_; rintro _ w3 ⟨_, rfl, v, rfl, M⟩; obtain ⟨A3, c3, rfl⟩ := M.form (.head _); (have M3 := hid (MH.out.lift M)); clear M)
        | (go_at_call 12; refine (hP.out _ _ (M3.out.slice (e := 5) (v := .slice A3 qb.length c3) (n := qb.length) (xs := ints .u8 qb) (by simp))).mono ?_; rintro _ w5 ⟨_, rfl, v5, rfl, M⟩; obtain ⟨A5, c5, rfl⟩ := M.form (.head _); (have M5 := hid (M3.out.lift M)); clear M))
      have M7 := hid (M5.out.sub (L' := [.row 3 1 (.slice A5 (q + 1) c5) (q + 1) (ints .i64 ps), .row 5 1 (.slice A p c) p (ints .u8 G.flatten)]) (by simp))
      clear M3 M5 hB hP MH
      go_loopw [57] (fun i wr => ∃ j : Nat, j ≤ q ∧ i = .int .i64 j ∧ Hid (Own w wr [.row 3 1 (.slice A5 (q + 1) c5) (q + 1) (ints .i64 ps), .row 5 1 (.slice A p c) p (ints .u8 G.flatten)])) (fun i _ => q - (intOf i).toNat)
      case atStart => exact ⟨0, Nat.zero_le _, rfl, M7⟩
      case round =>
        clear M7
        obtain ⟨j, hj, rfl, MR⟩ := hrel
        by_cases hlt : j < q
        · have hjn : j < k := by have := hqn.out; omega
          have hkv : j < vs.length := by rw [hvnH.out]; exact hjn
          have hkl : j < ls.length := by rw [hln.out]; exact hjn
          obtain ⟨a1, rfl, hcell1⟩ := (hr1H.out.keep (w' := wr) fun k hk _ => MR.out.below.block k hk).cell (List.getElem?_eq_getElem hkv)
          have hvc := hid (fun w' (h : Below w.heap.size w w') => show w'.cell? (a1.add j) = some vs[j] from by
            obtain ⟨a3, he, q0⟩ := (hr1H.out.keep (w' := w') fun k hk _ => h.block k hk).cell (List.getElem?_eq_getElem hkv)
            injection he with he
            subst he
            exact q0)
          have hbt := hid (fun w' (h : Below w.heap.size w w') => (haH.out.below h).2 j _ _ (List.getElem?_eq_getElem hkv) (List.getElem?_eq_getElem hkl))
          obtain ⟨hjG, hg⟩ := hql.out j hlt hkl
          have hpc := piece hjG
          have hfs := flat_succ' hjG
          have ha := hpk.out j hj
          have hb := hpk.out (j + 1) hlt
          have hp1 := hid (show (G.take (j + 1)).flatten.length ≤ G.flatten.length from by
            conv => rhs; rw [← List.take_append_drop (j + 1) G, List.flatten_append, List.length_append]
            omega)
          rw [hg] at hpc hfs
          have h40 := hid (show ((ls[j]).take 40).length ≤ 40 by rw [List.length_take]; omega)
          have hCt := hid (fun w' (h : Below w.heap.size w w') => cut_calls w' 40 (by omega) (hbt.out w' h) (by omega))
          generalize (ls[j]).take 40 = g at *
          generalize (G.take j).flatten.length = ja at *
          generalize (G.take (j + 1)).flatten.length = jb at *
          subst hfs
          rw [show g.length = ja + g.length - ja by omega] at hpc
          have hCy := hid (fun w' D P (hD : BytesAt w' D G.flatten) (hP : SliceAt w' w'.heap.size 1 P (q + 1) (ints .i64 ps)) => locaCut_yes w' (n := q) (i := j) (a := ja) (b := ja + g.length) hD hP hpl.out hlt ha hb (by omega) hp1.out (by rw [← hp.out]; omega))
          rw [hpc, show ja + g.length - ja = g.length by omega] at hCy
          have hu := hbt.out _ MR.out.below
          generalize vs[j] = u at *
          obtain ⟨Au, cu, rfl, -⟩ := hu
          clear hg ha hb hpc hjG
          have k1 : j < k := hjn
          have k2 : (j : Int) < (k : Int) := by omega
          go_upto_region 19 with fail
          have N0 := hid MR.out.drew
          refine wp_region_held_drew (S := fun w' => w'.cell? (a1.add j) = some (.slice Au (ls[j]).length cu)) (by kernel_rfl) (hvc.out _ N0.out.below) (fun hHeld => ?_)
          repeat (first | (refine wpAnyH_take (i := 0) (v := ?_) rfl (by kernel_rfl) (by decide +kernel) (by decide +kernel) (fun _ _ _ h => h) ?_ (by assumption) ?_; rotate_left; (first | (refine yields_load (by rfl) rfl rfl ?_; intro w hSw; (try dsimp only at hSw); go_split_ands; assumption) | (refine Or.inl ⟨by rfl, ?_⟩; intro w hSw; (try dsimp only at hSw); go_simp; done) | (refine Or.inl ⟨by rfl, ?_⟩; intro w hSw; (try dsimp only at hSw); go_simp; with_reducible rfl) | exact Or.inr ⟨by rfl, rfl⟩); (try simp only [Act.put, List.setIfInBounds_toArray, List.set_cons_zero, List.set_cons_succ, List.getElem_toArray, List.getElem_cons_zero, List.getElem_cons_succ])) | (refine wpAnyH_take (i := 1) (v := ?_) rfl (by kernel_rfl) (by decide +kernel) (by decide +kernel) (fun _ _ _ h => h) ?_ (by assumption) ?_; rotate_left; (first | (refine yields_load (by rfl) rfl rfl ?_; intro w hSw; (try dsimp only at hSw); go_split_ands; assumption) | (refine Or.inl ⟨by rfl, ?_⟩; intro w hSw; (try dsimp only at hSw); go_simp; done) | (refine Or.inl ⟨by rfl, ?_⟩; intro w hSw; (try dsimp only at hSw); go_simp; with_reducible rfl) | exact Or.inr ⟨by rfl, rfl⟩); (try simp only [Act.put, List.setIfInBounds_toArray, List.set_cons_zero, List.set_cons_succ, List.getElem_toArray, List.getElem_cons_zero, List.getElem_cons_succ])) | (refine wpAnyH_take (i := 2) (v := ?_) rfl (by kernel_rfl) (by decide +kernel) (by decide +kernel) (fun _ _ _ h => h) ?_ (by assumption) ?_; rotate_left; (first | (refine yields_load (by rfl) rfl rfl ?_; intro w hSw; (try dsimp only at hSw); go_split_ands; assumption) | (refine Or.inl ⟨by rfl, ?_⟩; intro w hSw; (try dsimp only at hSw); go_simp; done) | (refine Or.inl ⟨by rfl, ?_⟩; intro w hSw; (try dsimp only at hSw); go_simp; with_reducible rfl) | exact Or.inr ⟨by rfl, rfl⟩); (try simp only [Act.put, List.setIfInBounds_toArray, List.set_cons_zero, List.set_cons_succ, List.getElem_toArray, List.getElem_cons_zero, List.getElem_cons_succ])) | (refine wpAnyH_take (i := 4) (v := ?_) rfl (by kernel_rfl) (by decide +kernel) (by decide +kernel) (fun _ _ _ h => h) ?_ (by assumption) ?_; rotate_left; (first | (refine yields_load (by rfl) rfl rfl ?_; intro w hSw; (try dsimp only at hSw); go_split_ands; assumption) | (refine Or.inl ⟨by rfl, ?_⟩; intro w hSw; (try dsimp only at hSw); go_simp; done) | (refine Or.inl ⟨by rfl, ?_⟩; intro w hSw; (try dsimp only at hSw); go_simp; with_reducible rfl) | exact Or.inr ⟨by rfl, rfl⟩); (try simp only [Act.put, List.setIfInBounds_toArray, List.set_cons_zero, List.set_cons_succ, List.getElem_toArray, List.getElem_cons_zero, List.getElem_cons_succ])) | (refine wpAnyH_take (i := 5) (v := ?_) rfl (by kernel_rfl) (by decide +kernel) (by decide +kernel) (fun _ _ _ h => h) ?_ (by assumption) ?_; rotate_left; (first | (refine yields_load (by rfl) rfl rfl ?_; intro w hSw; (try dsimp only at hSw); go_split_ands; assumption) | (refine Or.inl ⟨by rfl, ?_⟩; intro w hSw; (try dsimp only at hSw); go_simp; done) | (refine Or.inl ⟨by rfl, ?_⟩; intro w hSw; (try dsimp only at hSw); go_simp; with_reducible rfl) | exact Or.inr ⟨by rfl, rfl⟩); (try simp only [Act.put, List.setIfInBounds_toArray, List.set_cons_zero, List.set_cons_succ, List.getElem_toArray, List.getElem_cons_zero, List.getElem_cons_succ])) | (refine wpAnyH_take (i := 6) (v := ?_) rfl (by kernel_rfl) (by decide +kernel) (by decide +kernel) (fun _ _ _ h => h) ?_ (by assumption) ?_; rotate_left; (first | (refine yields_load (by rfl) rfl rfl ?_; intro w hSw; (try dsimp only at hSw); go_split_ands; assumption) | (refine Or.inl ⟨by rfl, ?_⟩; intro w hSw; (try dsimp only at hSw); go_simp; done) | (refine Or.inl ⟨by rfl, ?_⟩; intro w hSw; (try dsimp only at hSw); go_simp; with_reducible rfl) | exact Or.inr ⟨by rfl, rfl⟩); (try simp only [Act.put, List.setIfInBounds_toArray, List.set_cons_zero, List.set_cons_succ, List.getElem_toArray, List.getElem_cons_zero, List.getElem_cons_succ])) | (refine wpAnyH_take (i := 7) (v := ?_) rfl (by kernel_rfl) (by decide +kernel) (by decide +kernel) (fun _ _ _ h => h) ?_ (by assumption) ?_; rotate_left; (first | (refine yields_load (by rfl) rfl rfl ?_; intro w hSw; (try dsimp only at hSw); go_split_ands; assumption) | (refine Or.inl ⟨by rfl, ?_⟩; intro w hSw; (try dsimp only at hSw); go_simp; done) | (refine Or.inl ⟨by rfl, ?_⟩; intro w hSw; (try dsimp only at hSw); go_simp; with_reducible rfl) | exact Or.inr ⟨by rfl, rfl⟩); (try simp only [Act.put, List.setIfInBounds_toArray, List.set_cons_zero, List.set_cons_succ, List.getElem_toArray, List.getElem_cons_zero, List.getElem_cons_succ])))
          refine wpAnyH_ready (rs := [3]) (by decide +kernel) (by simp) ?_; refine AllReadyH.cons rfl (fun K hK => ?_) AllReadyH.nil; go_simp
          (refine (hCy.out _ _ _ (N0.out.bytes (e := 5) (n := p) (v := .slice A p c) (l := G.flatten) (by simp) hp.out.symm) (N0.out.slice (e := 3) (v := .slice A5 (q + 1) c5) (n := q + 1) (xs := ints .i64 ps) (by simp))).mono ?_)
          rintro _ w4 ⟨_, rfl, M⟩
          obtain ⟨A6, c6, rfl⟩ := M.form (.head _)
          have N1 := hid (N0.out.lift M)
          clear M
          go_wp2_with fail
          refine hK.out _ _ (hvc.out _ N1.out.below) (fun hHeld => ?_); clear hK K; (try simp only [Act.put, List.setIfInBounds_toArray, List.set_cons_zero, List.set_cons_succ, List.getElem_toArray, List.getElem_cons_zero, List.getElem_cons_succ])
          refine wpAnyH_ready (rs := [8]) (by decide +kernel) (by simp) ?_; refine AllReadyH.cons rfl (fun K hK => ?_) AllReadyH.nil; go_simp
          (refine (hCt.out _ N1.out.below).mono ?_)
          rintro _ w5 ⟨_, rfl, M⟩
          obtain ⟨A8, c8, rfl⟩ := M.form (.head _)
          have N2 := hid (N1.out.lift M)
          clear M
          go_wp2_with fail
          refine hK.out _ _ (hvc.out _ N2.out.below) (fun hHeld => ?_); clear hK K; (try simp only [Act.put, List.setIfInBounds_toArray, List.set_cons_zero, List.set_cons_succ, List.getElem_toArray, List.getElem_cons_zero, List.getElem_cons_succ])
          refine wpAnyH_ready (rs := [9]) (by decide +kernel) (by simp) ?_; refine AllReadyH.cons rfl (fun K hK => ?_) AllReadyH.nil; go_simp
          (refine (same_calls _ (N2.out.slice (e := 5) (n := g.length) (xs := ints .u8 g) (v := .slice A6 g.length c6) (by simp)) (N2.out.slice (e := 5) (n := g.length) (xs := ints .u8 g) (v := .slice A8 g.length c8) (by simp))).mono ?_)
          rw [decide_eq_true (rfl : g = g)]
          rintro _ w6 ⟨_, rfl, rfl, hb⟩
          have N3 := hid (N2.out.keep hb)
          clear hb
          go_wp2_with fail
          refine hK.out _ _ (hvc.out _ N3.out.below) (fun hHeld => ?_); clear hK K; (try simp only [Act.put, List.setIfInBounds_toArray, List.set_cons_zero, List.set_cons_succ, List.getElem_toArray, List.getElem_cons_zero, List.getElem_cons_succ])
          repeat (first | (refine wpAnyH_take (i := 10) (v := ?_) rfl (by kernel_rfl) (by decide +kernel) (by decide +kernel) (fun _ _ _ h => h) ?_ (by assumption) ?_; rotate_left; (first | (refine yields_load (by rfl) rfl rfl ?_; intro w hSw; (try dsimp only at hSw); go_split_ands; assumption) | (refine Or.inl ⟨by rfl, ?_⟩; intro w hSw; (try dsimp only at hSw); go_simp; done) | (refine Or.inl ⟨by rfl, ?_⟩; intro w hSw; (try dsimp only at hSw); go_simp; with_reducible rfl) | exact Or.inr ⟨by rfl, rfl⟩); (try simp only [Act.put, List.setIfInBounds_toArray, List.set_cons_zero, List.set_cons_succ, List.getElem_toArray, List.getElem_cons_zero, List.getElem_cons_succ])))
          refine wpAnyH_done (by kernel_rfl) ?_ _
          have N4 := hid (N3.out.sub (L' := [.row 3 1 (.slice A5 (q + 1) c5) (q + 1) (ints .i64 ps), .row 5 1 (.slice A p c) p (ints .u8 G.flatten)]) (by simp))
          clear N0 N1 N2 N3 MR hvc hCt hCy hcell1
          go_wp2
          go_roundw
          case rel => exact ⟨j + 1, by omega, by go_num, N4⟩
          case measure => simp [intOf] <;> omega
        · obtain rfl : j = q := by omega
          have hqm : ((j + 1 : Nat) : Int) - 1 = j := by omega
          by_cases hzz : z < 0 ∨ z ≥ (j : Int)
          · have hN := hid (fun w' D P (hD : BytesAt w' D G.flatten) (hP : SliceAt w' w'.heap.size 1 P (j + 1) (ints .i64 ps)) => locaCut_nil w' hD hP hpl.out z0 z1 (by rw [hqm]; exact hzz))
            rcases hzz with hz | hz
            · go_wp2_with (go_at_call 15; refine (hN.out _ _ _ (MR.out.bytes (e := 5) (n := p) (v := .slice A p c) (l := G.flatten) (by simp) hp.out.symm) (MR.out.slice (e := 3) (v := .slice A5 (j + 1) c5) (n := j + 1) (xs := ints .i64 ps) (by simp))).mono ?_; rintro _ w4 ⟨_, rfl, rfl, hb⟩; (have N0 := hid (MR.out.keep hb)); clear hb)
              go_ret
              exact .mk ⟨rfl, N0.out.below⟩
            · by_cases hz' : z < 0
              · go_wp2_with (go_at_call 15; refine (hN.out _ _ _ (MR.out.bytes (e := 5) (n := p) (v := .slice A p c) (l := G.flatten) (by simp) hp.out.symm) (MR.out.slice (e := 3) (v := .slice A5 (j + 1) c5) (n := j + 1) (xs := ints .i64 ps) (by simp))).mono ?_; rintro _ w4 ⟨_, rfl, rfl, hb⟩; (have N0 := hid (MR.out.keep hb)); clear hb)
                go_ret
                exact .mk ⟨rfl, N0.out.below⟩
              · go_wp2_with (go_at_call 15; refine (hN.out _ _ _ (MR.out.bytes (e := 5) (n := p) (v := .slice A p c) (l := G.flatten) (by simp) hp.out.symm) (MR.out.slice (e := 3) (v := .slice A5 (j + 1) c5) (n := j + 1) (xs := ints .i64 ps) (by simp))).mono ?_; rintro _ w4 ⟨_, rfl, rfl, hb⟩; (have N0 := hid (MR.out.keep hb)); clear hb)
                go_ret
                exact .mk ⟨rfl, N0.out.below⟩
          · have hz1 : ¬ z < 0 := fun h => hzz (.inl h)
            have hz2 : ¬ z ≥ (j : Int) := fun h => hzz (.inr h)
            clear hzz
            go_wp2_with (first
              | (go_at_call 15; (have N1 := hid (MR.out.alloc 3 #[.int .i64 5, .int .i64 3])); refine (locaCut_bad _ (a := 5) (b := 3) (N1.out.bytes (e := 5) (n := p) (v := .slice A p c) (l := G.flatten) (by simp) hp.out.symm) (SliceAt.built N1.out (.head _) 1 2 rfl (by unfold maxLen; omega)) (by omega)).mono ?_; rintro _ w4 ⟨_, rfl, rfl, hb⟩; (have N2 := hid (N1.out.keep hb)); clear hb N1 MR)
              | (go_at_call 15; (have N3 := hid (N2.out.alloc 3 #[.int .i64 0, .int .i64 1099511627776])); refine (locaCut_bad _ (l := []) (a := 0) (b := 1099511627776) (SliceAt.nil _ _ _) (SliceAt.built N3.out (.head _) 1 2 rfl (by unfold maxLen; omega)) (by simp)).mono ?_; rintro _ w5 ⟨_, rfl, rfl, hb⟩; (have N4 := hid (N3.out.keep hb)); clear hb N3 N2)
              | (go_at_call 15; (have N5 := hid (N4.out.alloc 3 #[.int .i64 (-1), .int .i64 0])); refine (locaCut_bad _ (a := -1) (b := 0) (N5.out.bytes (e := 5) (n := p) (v := .slice A p c) (l := G.flatten) (by simp) hp.out.symm) (SliceAt.built N5.out (.head _) 1 2 rfl (by unfold maxLen; omega)) (by omega)).mono ?_; rintro _ w6 ⟨_, rfl, rfl, hb⟩; (have N6 := hid (N5.out.keep hb)); clear hb N5 N4))
            go_ret
            exact .mk ⟨rfl, N6.out.below⟩
end Go.Proofs.Ytmboeoobkccpoaa
