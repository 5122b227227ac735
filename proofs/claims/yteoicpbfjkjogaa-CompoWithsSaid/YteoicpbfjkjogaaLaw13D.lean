/- Layer 13: other glyphs for the parts (CompoWiths). -/
import Derived.Test.YteoicpbfjkjogaaCompT
import Derived.Test.YteoicpbfjkjogaaCompR
namespace Go.Proofs.Yteoicpbfjkjogaa
open Go Go.RowKit
set_option linter.unusedVariables false
set_option linter.unusedSimpArgs false
set_option maxRecDepth 100000

theorem get_ints {w W0 : World} {V : Value} {n : Nat} {xs : List Int} (hx : xs.length = n) (h : SliceAt W0 W0.heap.size 1 V n (ints .u16 xs)) (hb : Below W0.heap.size W0 w) {A : Option Addr} {c : Nat} (hV : V = .slice A n c) {i : Nat} (hi : i < n) : ∃ ad, A = some ad ∧ w.cell? (ad.add i) = some (.int .u16 (xs.getD i 0)) := by
  subst hV
  obtain ⟨A', c', he, -, -, -, hr⟩ := h
  injection he with he1 he2 he3
  subst he1
  exact (hr.keep (w' := w) fun k hk _ => hb.block k hk).cell (by rw [ints_get .u16 xs i (by omega)])
/-- A part's eight cells. -/
def PtAt (w : World) (ad : Addr) (i : Nat) (p : Pt) : Prop :=
  w.cell? (ad.add (i * 8)) = some (.int .u16 p.f) ∧ w.cell? ⟨(ad.add (i * 8)).block, (ad.add (i * 8)).off + 1, none⟩ = some (.int .u16 p.g) ∧ w.cell? ⟨(ad.add (i * 8)).block, (ad.add (i * 8)).off + 2, none⟩ = some (.int .i16 p.x) ∧ w.cell? ⟨(ad.add (i * 8)).block, (ad.add (i * 8)).off + 3, none⟩ = some (.int .i16 p.y) ∧
  w.cell? ⟨(ad.add (i * 8)).block, (ad.add (i * 8)).off + 4, none⟩ = some (.int .i16 p.a) ∧ w.cell? ⟨(ad.add (i * 8)).block, (ad.add (i * 8)).off + 5, none⟩ = some (.int .i16 p.b) ∧ w.cell? ⟨(ad.add (i * 8)).block, (ad.add (i * 8)).off + 6, none⟩ = some (.int .i16 p.c) ∧ w.cell? ⟨(ad.add (i * 8)).block, (ad.add (i * 8)).off + 7, none⟩ = some (.int .i16 p.d)
set_option maxHeartbeats 8000000 in
theorem compoWiths_calls (w : World) {g0 : Cg} {vp0 vg0 V1 V2 : Value} {xs ys : List Int} (hO0 : g0.Ok) (hG0 : CAt w g0 vp0 vg0) (h1 : SliceAt w w.heap.size 1 V1 xs.length (ints .u16 xs)) (h2 : SliceAt w w.heap.size 1 V2 ys.length (ints .u16 ys)) (hx : ∀ x ∈ xs, U16 x) (hy : ∀ y ∈ ys, U16 y) :
    Calls Try.prog 4 #[.agg (cA g0 vp0 vg0), V1, V2] w (Ret fun r w' => r = .bool true ∧ Below w.heap.size w w') := by
  have M0 := hid (Own.start w)
  have hFew := hid (fun w1 (h : Below w.heap.size w w1) => few_calls w1 hO0 (hG0.below h))
  have hg0A : ∃ A c, vp0 = .slice A g0.parts.length c := by obtain ⟨A, c, h, -⟩ := hG0.p; exact ⟨A, c, h⟩
  have hg0B : ∃ A c, vg0 = .slice A g0.prog.length c := by obtain ⟨A, c, h, -⟩ := hG0.g; exact ⟨A, c, h⟩
  obtain ⟨A1, c1, rfl⟩ := hg0A
  obtain ⟨A2, c2, rfl⟩ := hg0B
  obtain ⟨nx, hnx⟩ : ∃ n, xs.length = n := ⟨_, rfl⟩
  obtain ⟨ny, hny⟩ : ∃ n, ys.length = n := ⟨_, rfl⟩
  rw [hnx] at h1
  rw [hny] at h2
  obtain ⟨X1, x1, rfl⟩ : ∃ A c, V1 = .slice A nx c := by obtain ⟨A, c, h, -⟩ := h1; exact ⟨A, c, h⟩
  obtain ⟨Y1, y1, rfl⟩ : ∃ A c, V2 = .slice A ny c := by obtain ⟨A, c, h, -⟩ := h2; exact ⟨A, c, h⟩
  have hbx : nx ≤ maxLen := h1.le
  have hby : ny ≤ maxLen := h2.le
  unfold maxLen at hbx hby
  have hX := hid (fun w' (hb : Below w.heap.size w w') (i : Nat) (hi : i < nx) => get_ints (w := w') hnx h1 hb rfl hi)
  have hY := hid (fun w' (hb : Below w.heap.size w w') (i : Nat) (hi : i < ny) => get_ints (w := w') hny h2 hb rfl hi)
  have hxv := hid (fun i (hi : i < nx) => show U16 (xs.getD i 0) from hx _ (by simp [List.getD, show i < xs.length by omega]))
  have hyv := hid (fun i (hi : i < ny) => show U16 (ys.getD i 0) from hy _ (by simp [List.getD, show i < ys.length by omega]))
  obtain ⟨nn, hnn, hn1, hn2, hn3⟩ : ∃ n : Nat, min (min nx ny) 60 = n ∧ n ≤ nx ∧ n ≤ ny ∧ n ≤ 60 := ⟨_, rfl, by omega, by omega, by omega⟩
  have hmm := @run_makeMap Try.prog
  clear hG0 hO0 h1 h2 hx hy hnx hny
  go_enter Try.func4, Try.ntmps4
  go_upto_region 5 with (first
    | ((with_reducible refine gate (N := 3) rfl ?_); refine wpList_box_Own rfl (cs := cA g0 (.slice A1 g0.parts.length c1) (.slice A2 g0.prog.length c2)) (t := 29) (by first | (go_simp; done) | (go_simp; rfl)) M0.out ?_; intro m w1 M; (have M1 := hid M); clear M)
    | (go_at_call 9; refine (awake_calls _).mono ?_; rintro _ w2 ⟨_, rfl, rfl, hb⟩; ((have M2 := hid (M1.out.keep hb))); (clear hb))
    | ((with_reducible refine gate (N := 21) rfl ?_); refine wpList_run rfl (exec_load_agg agg_cg rfl rfl M2.out (g := m) (t := 29) (cs := cA g0 (.slice A1 g0.parts.length c1) (.slice A2 g0.prog.length c2)) (vs := (cA g0 (.slice A1 g0.parts.length c1) (.slice A2 g0.prog.length c2)).toList) (by simp) rfl rfl) ?_)
    | (go_at_call 15; (with_reducible refine (hFew.out _ M2.out.below).mono ?_); rintro _ w3 ⟨_, rfl, hMd⟩; obtain ⟨g, vp, vg, hO, hbs, hbp, rfl, M⟩ := hMd; obtain ⟨Ag, cg, rfl⟩ := M.form (.head _); obtain ⟨Ap, cp, rfl⟩ := M.form (.tail _ (.head _)); (replace hO := hid hO); ((have M3 := hid (M2.out.lift M))); (clear M))
    | ((with_reducible refine gateSt (t := 29) (p := 3) rfl ?_); refine wpList_store_all (n := 6) (L1 := [.row 5 1 (.slice Ag g.prog.length cg) g.prog.length (ints .u8 g.prog), .row 35 8 (.slice Ap g.parts.length cp) g.parts.length (ptC g.parts)]) (mid := (cA g0 (.slice A1 g0.parts.length c1) (.slice A2 g0.prog.length c2)).toList) (vs := (cA g (.slice Ap g.parts.length cp) (.slice Ag g.prog.length cg)).toList) rfl rfl (by kernel_rfl) rfl rfl rfl rfl rfl (one_all rfl) M3.out ?_; intro w4 M; (have M4 := hid M); clear M))
  clear hFew M1 M2 M3 M0
  obtain ⟨np, hnp⟩ : ∃ n, g.parts.length = n := ⟨_, rfl⟩
  obtain ⟨ng, hng⟩ : ∃ n, g.prog.length = n := ⟨_, rfl⟩
  rw [hnp, hng] at M4
  simp only [hnp, hng]
  rw [hnp] at hbs
  rw [hng] at hbp
  replace M4 := hid (show Own w w4 [.row 5 1 (.slice Ag ng cg) ng (ints .u8 g.prog), .row 35 8 (.slice Ap np cp) np (ptC g.parts), .blk m 29 (cA g (.slice Ap np cp) (.slice Ag ng cg))] from M4.out)
  have hMd := hid (MapIs.made w4)
  have hBa := hid ((Below.refl w4.heap.size w4).alloc (Nat.le_refl _) (.map #[] 0))
  obtain ⟨b, hb⟩ : ∃ b, w4.heap.size = b := ⟨_, rfl⟩
  rw [hb] at hMd
  have hbH := hid hb
  obtain ⟨k2, hk2⟩ : ∃ k2 : Nat, min nx ny = k2 := ⟨_, rfl⟩
  have hm2 : (if (ny : Int) < (nx : Int) then (ny : Int) else (nx : Int)) = (k2 : Int) := by split <;> omega
  have hm3 : (if (60 : Int) < (k2 : Int) then (60 : Int) else (k2 : Int)) = (nn : Int) := by split <;> omega
  have hm2' : min (nx : Int) (ny : Int) = (k2 : Int) := by omega
  have hm3' : min (k2 : Int) 60 = (nn : Int) := by omega
  have hmn : ∀ w1, (Builtin.min_ #[3, 3, 3] 3 #[.int .i64 nx, .int .i64 ny, .int .i64 60]).run Try.prog w1 = .ok (.int .i64 (if (60 : Int) < (if (ny : Int) < (nx : Int) then (ny : Int) else (nx : Int)) then (60 : Int) else (if (ny : Int) < (nx : Int) then (ny : Int) else (nx : Int)))) w1 := fun w1 => by kernel_rfl
  rw [hm2, hm3] at hmn
  clear hk2 hnn hm2 hm3 hm2' hm3'
  go_upto_region 5 with fail
  rw [hb]
  revert hMd hBa
  generalize w4.alloc (.map #[] 0) = w5
  intro hBa hMd
  clear hb
  go_cut [28, 29] (fun s i wx => s = .int .i64 nn ∧ i = .int .i64 0 ∧ w5 = wx)
  case first =>
    have hmn := hmn w5
    go_wp2
    go_meet
    exact ⟨rfl, rfl, rfl⟩
  obtain ⟨hs, hi, hw⟩ := hcut
  subst hs hi hw
  clear hmn
  have hfu := hid (fun k (hk : k < nn) => show fillF xs ys (k + 1) = putF (fillF xs ys k) (xs.getD k 0) (ys.getD k 0) from rfl)
  have hM0 := hid (show MapIs w5 b 0 (fillF xs ys 0) from hMd.out)
  clear hMd
  go_wp2_with fail
  go_loopw [29] (fun i wr => ∃ k : Nat, k ≤ nn ∧ i = .int .i64 k ∧ Hid (MapIs wr b k (fillF xs ys k)) ∧ Hid (Below w4.heap.size w4 wr)) (fun i _ => nn - (intOf i).toNat)
  case atStart => exact ⟨0, Nat.zero_le _, rfl, hM0, hBa⟩
  case round =>
    clear hM0 hBa
    obtain ⟨k, hk, rfl, hMk, hBk⟩ := hrel
    by_cases hlt : k < nn
    · -- <fill
      have hBw := hid ((M4.out.keep hBk.out).below)
      obtain ⟨ax, rfl, cx⟩ := hX.out wr hBw.out k (by omega)
      obtain ⟨ay, rfl, cy⟩ := hY.out wr hBw.out k (by omega)
      obtain ⟨u0, u1⟩ := hxv.out k (by omega)
      obtain ⟨v0, v1⟩ := hyv.out k (by omega)
      have hkx : (k : Int) < nx := by omega
      have hky : (k : Int) < ny := by omega
      obtain ⟨w6, hrun, hM6, hgr⟩ := (hMk.out.below (w' := wr.drew) (Below.refl _ _).drew).put u0 u1 v0 v1 (by unfold maxLen; omega)
      have hB6 := hid (hBk.out.drew.grown hgr hBk.out.size (fun j hj => by injection hj with hj; rw [← hj, ← hbH.out]; exact Nat.le_refl _))
      rw [← hfu.out k hlt] at hM6
      replace hM6 := hid hM6
      clear hgr
      go_upto_region 8 with fail
      refine wp_region_held_drew (S := fun w' => w'.cell? (ax.add k) = some (.int .u16 (xs.getD k 0)) ∧ w'.cell? (ay.add k) = some (.int .u16 (ys.getD k 0))) (by kernel_rfl) ⟨cx, cy⟩ (fun hHeld => ?_)
      repeat (first | (refine wpAnyH_take (i := 0) (v := ?_) rfl (by kernel_rfl) (by decide +kernel) (by decide +kernel) (fun _ _ _ h => h) ?_ (by assumption) ?_; rotate_left; (first | (refine yields_load (by rfl) rfl rfl ?_; intro w hSw; (try dsimp only at hSw); go_split_ands; assumption) | (refine Or.inl ⟨by rfl, ?_⟩; intro w hSw; (try dsimp only at hSw); go_simp; done) | (refine Or.inl ⟨by rfl, ?_⟩; intro w hSw; (try dsimp only at hSw); go_simp; with_reducible rfl) | exact Or.inr ⟨by rfl, rfl⟩ | exact Or.inr ⟨by rfl, by rfl⟩); (try simp only [Act.put, List.setIfInBounds_toArray, List.set_cons_zero, List.set_cons_succ, List.getElem_toArray, List.getElem_cons_zero, List.getElem_cons_succ])) | (refine wpAnyH_take (i := 1) (v := ?_) rfl (by kernel_rfl) (by decide +kernel) (by decide +kernel) (fun _ _ _ h => h) ?_ (by assumption) ?_; rotate_left; (first | (refine yields_load (by rfl) rfl rfl ?_; intro w hSw; (try dsimp only at hSw); go_split_ands; assumption) | (refine Or.inl ⟨by rfl, ?_⟩; intro w hSw; (try dsimp only at hSw); go_simp; done) | (refine Or.inl ⟨by rfl, ?_⟩; intro w hSw; (try dsimp only at hSw); go_simp; with_reducible rfl) | exact Or.inr ⟨by rfl, rfl⟩ | exact Or.inr ⟨by rfl, by rfl⟩); (try simp only [Act.put, List.setIfInBounds_toArray, List.set_cons_zero, List.set_cons_succ, List.getElem_toArray, List.getElem_cons_zero, List.getElem_cons_succ])) | (refine wpAnyH_take (i := 2) (v := ?_) rfl (by kernel_rfl) (by decide +kernel) (by decide +kernel) (fun _ _ _ h => h) ?_ (by assumption) ?_; rotate_left; (first | (refine yields_load (by rfl) rfl rfl ?_; intro w hSw; (try dsimp only at hSw); go_split_ands; assumption) | (refine Or.inl ⟨by rfl, ?_⟩; intro w hSw; (try dsimp only at hSw); go_simp; done) | (refine Or.inl ⟨by rfl, ?_⟩; intro w hSw; (try dsimp only at hSw); go_simp; with_reducible rfl) | exact Or.inr ⟨by rfl, rfl⟩ | exact Or.inr ⟨by rfl, by rfl⟩); (try simp only [Act.put, List.setIfInBounds_toArray, List.set_cons_zero, List.set_cons_succ, List.getElem_toArray, List.getElem_cons_zero, List.getElem_cons_succ])) | (refine wpAnyH_take (i := 3) (v := ?_) rfl (by kernel_rfl) (by decide +kernel) (by decide +kernel) (fun _ _ _ h => h) ?_ (by assumption) ?_; rotate_left; (first | (refine yields_load (by rfl) rfl rfl ?_; intro w hSw; (try dsimp only at hSw); go_split_ands; assumption) | (refine Or.inl ⟨by rfl, ?_⟩; intro w hSw; (try dsimp only at hSw); go_simp; done) | (refine Or.inl ⟨by rfl, ?_⟩; intro w hSw; (try dsimp only at hSw); go_simp; with_reducible rfl) | exact Or.inr ⟨by rfl, rfl⟩ | exact Or.inr ⟨by rfl, by rfl⟩); (try simp only [Act.put, List.setIfInBounds_toArray, List.set_cons_zero, List.set_cons_succ, List.getElem_toArray, List.getElem_cons_zero, List.getElem_cons_succ])) | (refine wpAnyH_take (i := 4) (v := ?_) rfl (by kernel_rfl) (by decide +kernel) (by decide +kernel) (fun _ _ _ h => h) ?_ (by assumption) ?_; rotate_left; (first | (refine yields_load (by rfl) rfl rfl ?_; intro w hSw; (try dsimp only at hSw); go_split_ands; assumption) | (refine Or.inl ⟨by rfl, ?_⟩; intro w hSw; (try dsimp only at hSw); go_simp; done) | (refine Or.inl ⟨by rfl, ?_⟩; intro w hSw; (try dsimp only at hSw); go_simp; with_reducible rfl) | exact Or.inr ⟨by rfl, rfl⟩ | exact Or.inr ⟨by rfl, by rfl⟩); (try simp only [Act.put, List.setIfInBounds_toArray, List.set_cons_zero, List.set_cons_succ, List.getElem_toArray, List.getElem_cons_zero, List.getElem_cons_succ])) | (refine wpAnyH_take (i := 5) (v := ?_) rfl (by kernel_rfl) (by decide +kernel) (by decide +kernel) (fun _ _ _ h => h) ?_ (by assumption) ?_; rotate_left; (first | (refine yields_load (by rfl) rfl rfl ?_; intro w hSw; (try dsimp only at hSw); go_split_ands; assumption) | (refine Or.inl ⟨by rfl, ?_⟩; intro w hSw; (try dsimp only at hSw); go_simp; done) | (refine Or.inl ⟨by rfl, ?_⟩; intro w hSw; (try dsimp only at hSw); go_simp; with_reducible rfl) | exact Or.inr ⟨by rfl, rfl⟩ | exact Or.inr ⟨by rfl, by rfl⟩); (try simp only [Act.put, List.setIfInBounds_toArray, List.set_cons_zero, List.set_cons_succ, List.getElem_toArray, List.getElem_cons_zero, List.getElem_cons_succ])) | (refine wpAnyH_take (i := 6) (v := ?_) rfl (by kernel_rfl) (by decide +kernel) (by decide +kernel) (fun _ _ _ h => h) ?_ (by assumption) ?_; rotate_left; (first | (refine yields_load (by rfl) rfl rfl ?_; intro w hSw; (try dsimp only at hSw); go_split_ands; assumption) | (refine Or.inl ⟨by rfl, ?_⟩; intro w hSw; (try dsimp only at hSw); go_simp; done) | (refine Or.inl ⟨by rfl, ?_⟩; intro w hSw; (try dsimp only at hSw); go_simp; with_reducible rfl) | exact Or.inr ⟨by rfl, rfl⟩ | exact Or.inr ⟨by rfl, by rfl⟩); (try simp only [Act.put, List.setIfInBounds_toArray, List.set_cons_zero, List.set_cons_succ, List.getElem_toArray, List.getElem_cons_zero, List.getElem_cons_succ])) | (refine wpAnyH_take (i := 7) (v := ?_) rfl (by kernel_rfl) (by decide +kernel) (by decide +kernel) (fun _ _ _ h => h) ?_ (by assumption) ?_; rotate_left; (first | (refine yields_load (by rfl) rfl rfl ?_; intro w hSw; (try dsimp only at hSw); go_split_ands; assumption) | (refine Or.inl ⟨by rfl, ?_⟩; intro w hSw; (try dsimp only at hSw); go_simp; done) | (refine Or.inl ⟨by rfl, ?_⟩; intro w hSw; (try dsimp only at hSw); go_simp; with_reducible rfl) | exact Or.inr ⟨by rfl, rfl⟩ | exact Or.inr ⟨by rfl, by rfl⟩); (try simp only [Act.put, List.setIfInBounds_toArray, List.set_cons_zero, List.set_cons_succ, List.getElem_toArray, List.getElem_cons_zero, List.getElem_cons_succ])) | (refine wpAnyH_take (i := 8) (v := ?_) rfl (by kernel_rfl) (by decide +kernel) (by decide +kernel) (fun _ _ _ h => h) ?_ (by assumption) ?_; rotate_left; (first | (refine yields_load (by rfl) rfl rfl ?_; intro w hSw; (try dsimp only at hSw); go_split_ands; assumption) | (refine Or.inl ⟨by rfl, ?_⟩; intro w hSw; (try dsimp only at hSw); go_simp; done) | (refine Or.inl ⟨by rfl, ?_⟩; intro w hSw; (try dsimp only at hSw); go_simp; with_reducible rfl) | exact Or.inr ⟨by rfl, rfl⟩ | exact Or.inr ⟨by rfl, by rfl⟩); (try simp only [Act.put, List.setIfInBounds_toArray, List.set_cons_zero, List.set_cons_succ, List.getElem_toArray, List.getElem_cons_zero, List.getElem_cons_succ])))
      have hc : w6.cell? (ax.add k) = some (.int .u16 (xs.getD k 0)) ∧ w6.cell? (ay.add k) = some (.int .u16 (ys.getD k 0)) := by
        obtain ⟨a1, e1, q1⟩ := hX.out w6 (M4.out.keep hB6.out).below k (by omega)
        obtain ⟨a2, e2, q2⟩ := hY.out w6 (M4.out.keep hB6.out).below k (by omega)
        injection e1 with e1
        injection e2 with e2
        subst e1 e2
        exact ⟨q1, q2⟩
      refine wpAnyH_ready (rs := [9]) (by decide +kernel) (by simp) ?_; refine AllReadyH.cons rfl (fun K hK => ?_) AllReadyH.nil
      refine step_mapPut rfl rfl rfl hrun ?_
      refine hK.out _ _ hc (fun hHeld => ?_); clear hK K; (try simp only [Act.put, List.setIfInBounds_toArray, List.set_cons_zero, List.set_cons_succ, List.getElem_toArray, List.getElem_cons_zero, List.getElem_cons_succ])
      clear hc
      refine wpAnyH_done (by kernel_rfl) ?_ _
      go_wp2_with fail
      go_roundw
      case rel => exact ⟨k + 1, by omega, by go_num, hM6, hB6⟩
      case measure => simp [intOf] <;> omega
      -- fill>
    · obtain rfl : k = nn := by omega
      obtain ⟨wq, hwq⟩ : ∃ x, x = wr := ⟨_, rfl⟩
      subst hwq
      have M6 := hid (M4.out.keep hBk.out)
      have hFv : ∀ a c, U16 a → fillF xs ys k a = some c → U16 c := fun a c ha he => (hMk.out.look ha.1 ha.2 false (zero16 _)).2 c he
      have hXO := hid (withG_ok (F := fillF xs ys k) hO.out hFv)
      have hC0 : ∀ w1 (h : Below wq.heap.size wq w1), CAt w1 g (.slice Ap np cp) (.slice Ag ng cg) := fun w1 h => CAt.below ⟨by rw [hnp]; exact M6.out.slice (e := 35) (by simp), by unfold BytesAt; rw [hng]; exact M6.out.slice (e := 5) (by simp)⟩ h
      have hMm := hid (fun w1 (h : Below wq.heap.size wq w1) => hMk.out.below h)
      clear hX hY hxv hyv hfu hMk hBk hbH hFv
      generalize fillF xs ys k = F at *
      clear hn1 hn2 hn3
      obtain ⟨ok, hok⟩ : ∃ q, allB F g.parts np = q := ⟨_, rfl⟩
      have hW := hid (with2_calls wq hO.out (hC0 wq (Below.refl _ _)) (by omega) (by omega) (hMm.out wq (Below.refl _ _)) (ok := ok) (by rw [hnp]; exact hok))
      replace hC0 := hid hC0
      have N0 := hid (Own.start wq)
      obtain ⟨gx, hgx⟩ : ∃ gx, xG F g ok = gx := ⟨_, rfl⟩
      rw [hgx] at hW
      replace hgx := hid hgx
      obtain ⟨npx, hnpx⟩ : ∃ n, gx.parts.length = n := ⟨_, rfl⟩
      obtain ⟨ngx, hngx⟩ : ∃ n, gx.prog.length = n := ⟨_, rfl⟩
      rw [hnpx, hngx] at hW
      replace hnpx := hid hnpx
      replace hngx := hid hngx
      replace hok := hid hok
      go_upto_region 11 with (first
        | ((with_reducible refine gate (N := 43) rfl ?_); refine wpList_run rfl (exec_load_agg agg_cg rfl rfl M6.out (g := m) (t := 29) (cs := cA g (.slice Ap np cp) (.slice Ag ng cg)) (vs := (cA g (.slice Ap np cp) (.slice Ag ng cg)).toList) (by simp) rfl rfl) ?_)
        | (go_at_call 16; (with_reducible refine (hW.out).mono ?_); rintro _ w7 ⟨_, rfl, vpx, vgx, rfl, M⟩; obtain ⟨Bg, dg, rfl⟩ := M.form (.head _); obtain ⟨Bp, dp, rfl⟩ := M.form (.tail _ (.head _)); ((have N1 := hid M)); (clear M))
        | ((with_reducible refine gate (N := 9) rfl ?_); refine wpList_box_Own rfl (cs := cNil) (t := 29) (by first | (go_simp; done) | (go_simp; rfl)) N1.out ?_; intro q w8 M; (have N2 := hid M); clear M)
        | ((with_reducible refine gateSt (t := 29) (p := 9) rfl ?_); refine wpList_store_all (n := 6) (L1 := []) (mid := cNil.toList) (vs := (cA gx (.slice Bp npx dp) (.slice Bg ngx dg)).toList) rfl rfl (by kernel_rfl) rfl rfl rfl rfl rfl (one_all rfl) N2.out ?_; intro w9 M; (have N3 := hid M); clear M))
      clear N0 N1 N2 hW
      replace N3 := hid (show Own wq w9 [.blk q 29 (cA gx (.slice Bp npx dp) (.slice Bg ngx dg)), .row 5 1 (.slice Bg ngx dg) ngx (ints .u8 gx.prog), .row 35 8 (.slice Bp npx dp) npx (ptC gx.parts)] from N3.out)
      have hNx := hid (fun w1 (h : Below w9.heap.size w9 w1) => N3.out.keep h)
      have hMg := hid (fun w1 (h : Below w9.heap.size w9 w1) => M6.out.keep (N3.out.keep h).below)
      have hC9 := hid (fun w1 (h : Below w9.heap.size w9 w1) => hC0.out w1 (N3.out.keep h).below)
      have hMp := hid (fun w1 (h : Below w9.heap.size w9 w1) => hMm.out w1 (N3.out.keep h).below)
      have hCx := hid (fun w1 (h : Below w9.heap.size w9 w1) => show CAt w1 gx (.slice Bp npx dp) (.slice Bg ngx dg) from ⟨by rw [hnpx.out]; exact (N3.out.keep h).slice (e := 35) (by simp), by unfold BytesAt; rw [hngx.out]; exact (N3.out.keep h).slice (e := 5) (by simp)⟩)
      have hPA := hid (fun (hn : 0 < np) => show ∃ ad, Ap = some ad ∧ ∀ w1, Below w9.heap.size w9 w1 → ∀ i, i < np → PtAt w1 ad i (pAt g.parts i) from by
        obtain ⟨A', c', he, -, -, -, hr⟩ := (hC9.out w9 (Below.refl _ _)).p
        injection he with he1 he2 he3
        subst he1
        rw [hnp] at hr
        obtain ⟨ad, rfl, -⟩ := hr.2 hn
        exact ⟨ad, rfl, fun w1 h i hi => part_at hnp hr h hi⟩)
      have hPX := hid (fun (hn : 0 < npx) => show ∃ ad, Bp = some ad ∧ ∀ w1, Below w9.heap.size w9 w1 → ∀ i, i < npx → PtAt w1 ad i (pAt gx.parts i) from by
        obtain ⟨A', c', he, -, -, -, hr⟩ := (hCx.out w9 (Below.refl _ _)).p
        injection he with he1 he2 he3
        subst he1
        rw [hnpx.out] at hr
        obtain ⟨ad, rfl, -⟩ := hr.2 hn
        exact ⟨ad, rfl, fun w1 h i hi => part_at hnpx.out hr h hi⟩)
      have K9 := hid (Own.start w9)
      clear M6 hC0 hMm N3
      obtain ⟨d4, -⟩ := c_cells (m := m) (g := g) (vp := .slice Ap np cp) (vg := .slice Ag ng cg) (hMg.out w9 (Below.refl _ _)) (by simp)
      go_wp2_with fail
      clear d4
      go_loopw [51, 11] (fun i s wr => ∃ (k : Nat) (al : Bool), k ≤ np ∧ i = .int .i64 k ∧ s = .bool al ∧ Hid (allB F g.parts k = al) ∧ Hid (Own w9 wr [])) (fun i _ _ => np - (intOf i).toNat)
      case atStart => exact ⟨0, true, Nat.zero_le _, rfl, rfl, hid rfl, K9⟩
      case round =>
        obtain ⟨k, al, hk, rfl, rfl, hal, MR⟩ := hrel
        by_cases hlt : k < np
        · -- <all
          obtain ⟨ad, rfl, hpa⟩ := hPA.out (by omega)
          obtain ⟨k0, k1, k2, k3, k4, k5, k6, k7⟩ := hpa wr MR.out.below k hlt
          clear hpa
          have hOk := hid (hO.out.at k)
          have hsuc := hid (allB_succ F g.parts k)
          rw [hal.out] at hsuc
          have hlk := hid (fun w1 (h : Below w9.heap.size w9 w1) => ((hMp.out w1 h).look hOk.out.g.1 hOk.out.g.2 true (zero16 w1)).1)
          clear hal
          generalize pAt g.parts k = p at *
          cases hFp : F p.g with
          | none =>
            rw [hFp] at hlk hsuc
            clear hFp
            cases al
            · go_wp2_with (first
                | ((with_reducible refine gate (N := 13) rfl ?_); refine wpList_box_Own rfl (cs := ptA pt0) (t := 35) (by first | (go_simp; done) | (go_simp; rfl)) MR.out ?_; intro n5 w5 M; (clear k0 k1 k2 k3 k4 k5 k6 k7); (have M5 := hid M); clear M)
                | ((with_reducible refine gateSt (t := 35) (p := 13) rfl ?_); refine wpList_store_all (n := 8) (L1 := []) (mid := (ptA pt0).toList) (vs := (ptA p).toList) rfl rfl (by kernel_rfl) rfl rfl rfl rfl rfl (one_all rfl) M5.out ?_; intro w6 M; obtain ⟨e0, e1, -⟩ := pt_cells (m := n5) (p := p) M (by simp); ((have hl2 := hlk.out _ M.below)); ((try dsimp only [Option.elim] at hl2)); ((simp only [if_true] at hl2)); (have M6 := hid M); clear M))
              go_roundw
              case rel => exact ⟨k + 1, _, by omega, by go_num, rfl, hsuc, hid (M6.out.sub (List.nil_sublist _))⟩
              case measure => simp [intOf] <;> omega
            · go_wp2_with (first
                | ((with_reducible refine gate (N := 13) rfl ?_); refine wpList_box_Own rfl (cs := ptA pt0) (t := 35) (by first | (go_simp; done) | (go_simp; rfl)) MR.out ?_; intro n5 w5 M; (clear k0 k1 k2 k3 k4 k5 k6 k7); (have M5 := hid M); clear M)
                | ((with_reducible refine gateSt (t := 35) (p := 13) rfl ?_); refine wpList_store_all (n := 8) (L1 := []) (mid := (ptA pt0).toList) (vs := (ptA p).toList) rfl rfl (by kernel_rfl) rfl rfl rfl rfl rfl (one_all rfl) M5.out ?_; intro w6 M; obtain ⟨e0, e1, -⟩ := pt_cells (m := n5) (p := p) M (by simp); ((have hl2 := hlk.out _ M.below)); ((try dsimp only [Option.elim] at hl2)); ((simp only [if_true] at hl2)); (have M6 := hid M); clear M))
              go_roundw
              case rel => exact ⟨k + 1, _, by omega, by go_num, rfl, hsuc, hid (M6.out.sub (List.nil_sublist _))⟩
              case measure => simp [intOf] <;> omega
          | some c =>
            rw [hFp] at hlk hsuc
            clear hFp
            cases al
            · go_wp2_with (first
                | ((with_reducible refine gate (N := 13) rfl ?_); refine wpList_box_Own rfl (cs := ptA pt0) (t := 35) (by first | (go_simp; done) | (go_simp; rfl)) MR.out ?_; intro n5 w5 M; (clear k0 k1 k2 k3 k4 k5 k6 k7); (have M5 := hid M); clear M)
                | ((with_reducible refine gateSt (t := 35) (p := 13) rfl ?_); refine wpList_store_all (n := 8) (L1 := []) (mid := (ptA pt0).toList) (vs := (ptA p).toList) rfl rfl (by kernel_rfl) rfl rfl rfl rfl rfl (one_all rfl) M5.out ?_; intro w6 M; obtain ⟨e0, e1, -⟩ := pt_cells (m := n5) (p := p) M (by simp); ((have hl2 := hlk.out _ M.below)); ((try dsimp only [Option.elim] at hl2)); ((simp only [if_true] at hl2)); (have M6 := hid M); clear M))
              go_roundw
              case rel => exact ⟨k + 1, _, by omega, by go_num, rfl, hsuc, hid (M6.out.sub (List.nil_sublist _))⟩
              case measure => simp [intOf] <;> omega
            · go_wp2_with (first
                | ((with_reducible refine gate (N := 13) rfl ?_); refine wpList_box_Own rfl (cs := ptA pt0) (t := 35) (by first | (go_simp; done) | (go_simp; rfl)) MR.out ?_; intro n5 w5 M; (clear k0 k1 k2 k3 k4 k5 k6 k7); (have M5 := hid M); clear M)
                | ((with_reducible refine gateSt (t := 35) (p := 13) rfl ?_); refine wpList_store_all (n := 8) (L1 := []) (mid := (ptA pt0).toList) (vs := (ptA p).toList) rfl rfl (by kernel_rfl) rfl rfl rfl rfl rfl (one_all rfl) M5.out ?_; intro w6 M; obtain ⟨e0, e1, -⟩ := pt_cells (m := n5) (p := p) M (by simp); ((have hl2 := hlk.out _ M.below)); ((try dsimp only [Option.elim] at hl2)); ((simp only [if_true] at hl2)); (have M6 := hid M); clear M))
              go_roundw
              case rel => exact ⟨k + 1, _, by omega, by go_num, rfl, hsuc, hid (M6.out.sub (List.nil_sublist _))⟩
              case measure => simp [intOf] <;> omega
          -- all>
        · obtain rfl : np = k := by omega
          rw [hok.out] at hal
          have hal := hal.out
          subst hal
          cases ok
          · -- <none
            have hgx2 : g00 = gx := hgx.out
            subst hgx2
            obtain rfl : 0 = npx := hnpx.out
            obtain rfl : 0 = ngx := hngx.out
            have hNr := hid (hNx.out wr MR.out.below)
            go_wp2_with (first
              | ((with_reducible refine gate (N := 72) rfl ?_); refine wpList_run rfl (exec_load_agg agg_cg rfl rfl hNr.out (g := q) (t := 29) (cs := cA g00 (.slice Bp 0 dp) (.slice Bg 0 dg)) (vs := (cA g00 (.slice Bp 0 dp) (.slice Bg 0 dg)).toList) (by simp) rfl rfl) ?_)
              | (go_at_call 17; refine (same_calls13 wr (g := g00) (vp := .slice Bp 0 dp) (vg := .slice Bg 0 dg) (vp' := .slice none 0 0) (vg' := .slice none 0 0) (hCx.out wr MR.out.below) ⟨SliceAt.nil _ _ _, SliceAt.nil _ _ _⟩).mono ?_; rintro _ w10 ⟨_, rfl, rfl, hb⟩; ((have K10 := hid (MR.out.keep hb))); (clear hb)))
            go_ret
            exact .mk ⟨rfl, (hMg.out _ K10.out.below).below⟩
            -- none>
          · have hgx2 : withG F g = gx := hgx.out
            subst hgx2
            obtain rfl : np = npx := by rw [← hnpx.out, ← hnp]; simp [withG]
            obtain rfl : ng = ngx := by rw [← hngx.out, ← hng]; rfl
            obtain ⟨d4, d5⟩ := c_cells (m := m) (g := g) (vp := .slice Ap np cp) (vg := .slice Ag ng cg) (hMg.out wr MR.out.below) (by simp)
            obtain ⟨d0, d1, d2, d3⟩ := c_box (m := m) (g := g) (vp := .slice Ap np cp) (vg := .slice Ag ng cg) (hMg.out wr MR.out.below) (by simp)
            obtain ⟨e4, e5⟩ := c_cells (m := q) (g := withG F g) (vp := .slice Bp np dp) (vg := .slice Bg ng dg) (hNx.out wr MR.out.below) (by simp)
            obtain ⟨e0, e1, e2, e3⟩ := c_box (m := q) (g := withG F g) (vp := .slice Bp np dp) (vg := .slice Bg ng dg) (hNx.out wr MR.out.below) (by simp)
            simp only [withG] at e0 e1 e2 e3
            have hq := box_eq g.b0 g.b1 g.b2 g.b3
            have hsm := hid (same_true wr (v1 := .slice Bg ng dg) (v2 := .slice Ag ng cg) (xs := g.prog) (hCx.out wr MR.out.below).g (hC9.out wr MR.out.below).g)
            go_upto_region 22 with (first
              | (go_at_call 18; (with_reducible refine (hsm.out).mono ?_); rintro _ w10 ⟨_, rfl, rfl, hb⟩; ((have K10 := hid (MR.out.keep hb))); (clear hb)))
            clear d0 d1 d2 d3 d4 d5 e0 e1 e2 e3 e4 e5 hq hsm MR
            obtain ⟨d4, -⟩ := c_cells (m := m) (g := g) (vp := .slice Ap np cp) (vg := .slice Ag ng cg) (hMg.out w10 K10.out.below) (by simp)
            go_wp2_with fail
            clear d4
            go_loopw [105] (fun i wr => ∃ (k : Nat), k ≤ np ∧ i = .int .i64 k ∧ Hid (Own w9 wr [])) (fun i _ => np - (intOf i).toNat)
            case atStart => exact ⟨0, Nat.zero_le _, rfl, K10⟩
            case round =>
              obtain ⟨k, hk, rfl, MR⟩ := hrel
              by_cases hlt : k < np
              · -- <eq
                obtain ⟨ad, rfl, hpa⟩ := hPA.out (by omega)
                obtain ⟨bd, rfl, hpx⟩ := hPX.out (by omega)
                obtain ⟨k0, k1, k2, k3, k4, k5, k6, k7⟩ := hpa wr MR.out.below k hlt
                clear hpa
                have hOk := hid (hO.out.at k)
                obtain ⟨c, hc⟩ := allB_at hok.out hlt
                have hat : pAt (withG F g).parts k = wG F (pAt g.parts k) := wG_at F (by rw [hnp]; exact hlt)
                have hwg : wG F (pAt g.parts k) = { pAt g.parts k with g := c } := by unfold wG; rw [hc]; rfl
                replace hpx := hid (fun w1 h => hwg ▸ hat ▸ hpx w1 h k hlt)
                clear hat hwg
                have hlk := hid (fun w1 (h : Below w9.heap.size w9 w1) => ((hMp.out w1 h).look hOk.out.g.1 hOk.out.g.2 false (zero16 w1)).1)
                rw [hc] at hlk
                clear hc hOk
                generalize pAt g.parts k = p at *
                obtain ⟨pf, pg, px, py, pa, pb, pc, pd⟩ := p
                have heq := part_eq ⟨pf, pg, px, py, pa, pb, pc, pd⟩
                dsimp only at k0 k1 k2 k3 k4 k5 k6 k7 hlk hpx
                go_upto_region 32 with (first
                  | ((with_reducible refine gate (N := 17) rfl ?_); refine wpList_box_Own rfl (cs := ptA pt0) (t := 35) (by first | (go_simp; done) | (go_simp; rfl)) MR.out ?_; intro n5 w5 M; (have M5 := hid M); clear M)
                  | ((with_reducible refine gateSt (t := 35) (p := 17) rfl ?_); refine wpList_store_all (n := 8) (L1 := []) (mid := (ptA pt0).toList) (vs := (ptA ⟨pf, pg, px, py, pa, pb, pc, pd⟩).toList) rfl rfl (by kernel_rfl) rfl rfl rfl rfl rfl (one_all rfl) M5.out ?_; intro w6 M; (clear k0 k1 k2 k3 k4 k5 k6 k7); obtain ⟨k0, k1, k2, k3, k4, k5, k6, k7⟩ := hpx.out _ M.below; ((dsimp only at k0 k1 k2 k3 k4 k5 k6 k7)); obtain ⟨e4, -⟩ := c_cells (m := q) (g := withG F g) (vp := .slice (some bd) np dp) (vg := .slice Bg ng dg) (hNx.out _ M.below) (by simp); (have M6 := hid M); clear M)
                  | ((with_reducible refine gate (N := 18) rfl ?_); refine wpList_box_Own rfl (cs := ptA pt0) (t := 35) (by first | (go_simp; done) | (go_simp; rfl)) M6.out ?_; intro n7 w7 M; (clear k0 k1 k2 k3 k4 k5 k6 k7 e4); (have M7 := hid M); clear M)
                  | ((with_reducible refine gateSt (t := 35) (p := 18) rfl ?_); refine wpList_store_all (n := 8) (L1 := []) (mid := (ptA pt0).toList) (vs := (ptA ⟨pf, c, px, py, pa, pb, pc, pd⟩).toList) rfl rfl (by kernel_rfl) rfl rfl rfl rfl rfl (one_all rfl) M7.out ?_; intro w8 M; obtain ⟨e0, e1, -⟩ := pt_cells (m := n7) (p := ⟨pf, c, px, py, pa, pb, pc, pd⟩) M (by simp); obtain ⟨e2, e3, -⟩ := pt_cells (m := n5) (p := ⟨pf, pg, px, py, pa, pb, pc, pd⟩) M (by simp); ((dsimp only at e0 e1 e2 e3)); ((have hl2 := hlk.out _ M.below)); ((try dsimp only [Option.elim] at hl2)); ((simp only [Bool.false_eq_true, if_false] at hl2)); ((have f1 := M.free (g := n7) (t := 35) (cs := ptA ⟨pf, c, px, py, pa, pb, pc, pd⟩) (by simp) 1)); ((have M9 : Hid (Own w9 (w8.setCell ⟨n7, 1, none⟩ (.int .u16 pg)) [.blk n7 35 (ptA ⟨pf, pg, px, py, pa, pb, pc, pd⟩), .blk n5 35 (ptA ⟨pf, pg, px, py, pa, pb, pc, pd⟩)]) := hid (M.set (L1 := []) 1 (.int .u16 pg)))); (have M8 := hid M); clear M)
                  | ((with_reducible refine gate (N := 125) rfl ?_); refine wpList_run rfl (exec_load_agg agg_part rfl rfl M9.out (g := n7) (t := 35) (cs := ptA ⟨pf, pg, px, py, pa, pb, pc, pd⟩) (vs := (ptA ⟨pf, pg, px, py, pa, pb, pc, pd⟩).toList) (by simp) rfl rfl) ?_)
                  | ((with_reducible refine gate (N := 126) rfl ?_); refine wpList_run rfl (exec_load_agg agg_part rfl rfl M9.out (g := n5) (t := 35) (cs := ptA ⟨pf, pg, px, py, pa, pb, pc, pd⟩) (vs := (ptA ⟨pf, pg, px, py, pa, pb, pc, pd⟩).toList) (by simp) rfl rfl) ?_))
                go_roundw
                case rel => exact ⟨k + 1, by omega, by go_num, hid (M9.out.sub (List.nil_sublist _))⟩
                case measure => simp [intOf] <;> omega
                -- eq>
              · -- <fin
                have hLx := hid (show cgR (withG F g) = cgR g from cgR_withG F g)
                have hLl := hid (show lenB (withG F g) = lenB g from lenB_withG F g)
                have hRx := hid (fun w1 (h : Below w9.heap.size w9 w1) => hLx.out ▸ cRight_calls w1 hXO.out (hCx.out w1 h))
                have hRg := hid (fun w1 (h : Below w9.heap.size w9 w1) => cRight_calls w1 hO.out (hC9.out w1 h))
                have hBx := hid (fun w1 (h : Below w9.heap.size w9 w1) => hLl.out ▸ cBytes_len w1 hXO.out (hCx.out w1 h))
                have hBg := hid (fun w1 (h : Below w9.heap.size w9 w1) => cBytes_len w1 hO.out (hC9.out w1 h))
                generalize cgR g = rg at *
                generalize lenB g = nb at *
                have hS := hid (fun w1 (h : Below w9.heap.size w9 w1) => And.intro (run_load_agg (P := Try.prog) agg_cg (g := q) (off := 0) (vs := (cA (withG F g) (.slice Bp np dp) (.slice Bg ng dg)).toList) ((hNx.out w1 h).heap (t := 29) (cs := cA (withG F g) (.slice Bp np dp) (.slice Bg ng dg)) (by simp)) rfl rfl) (run_load_agg (P := Try.prog) agg_cg (g := m) (off := 0) (vs := (cA g (.slice Ap np cp) (.slice Ag ng cg)).toList) ((hMg.out w1 h).heap (t := 29) (cs := cA g (.slice Ap np cp) (.slice Ag ng cg)) (by simp)) rfl rfl))
                clear hLx hLl hPA hPX hMp hC9 hCx
                go_upto_region 32 with fail
                have MW := hid MR.out.drew
                refine wp_region_held_drew (S := fun w' => (loadVar 29 ⟨q, 0, none⟩).run Try.prog w' = .ok (.agg (cA (withG F g) (.slice Bp np dp) (.slice Bg ng dg))) w' ∧ (loadVar 29 ⟨m, 0, none⟩).run Try.prog w' = .ok (.agg (cA g (.slice Ap np cp) (.slice Ag ng cg))) w') (by kernel_rfl) (hS.out _ MW.out.below) (fun hHeld => ?_)
                repeat (first | (refine wpAnyH_take (i := 0) (v := ?_) rfl (by kernel_rfl) (by decide +kernel) (by decide +kernel) (fun _ _ _ h => h) ?_ (by assumption) ?_; rotate_left; (first | (refine yields_load (by rfl) rfl rfl ?_; intro w hSw; (try dsimp only at hSw); go_split_ands; assumption) | (refine Or.inl ⟨by rfl, ?_⟩; intro w hSw; (try dsimp only at hSw); go_simp; done) | (refine Or.inl ⟨by rfl, ?_⟩; intro w hSw; (try dsimp only at hSw); go_simp; with_reducible rfl) | exact Or.inr ⟨by rfl, rfl⟩ | exact Or.inr ⟨by rfl, by rfl⟩); (try simp only [Act.put, List.setIfInBounds_toArray, List.set_cons_zero, List.set_cons_succ, List.getElem_toArray, List.getElem_cons_zero, List.getElem_cons_succ])) | (refine wpAnyH_take (i := 2) (v := ?_) rfl (by kernel_rfl) (by decide +kernel) (by decide +kernel) (fun _ _ _ h => h) ?_ (by assumption) ?_; rotate_left; (first | (refine yields_load (by rfl) rfl rfl ?_; intro w hSw; (try dsimp only at hSw); go_split_ands; assumption) | (refine Or.inl ⟨by rfl, ?_⟩; intro w hSw; (try dsimp only at hSw); go_simp; done) | (refine Or.inl ⟨by rfl, ?_⟩; intro w hSw; (try dsimp only at hSw); go_simp; with_reducible rfl) | exact Or.inr ⟨by rfl, rfl⟩ | exact Or.inr ⟨by rfl, by rfl⟩); (try simp only [Act.put, List.setIfInBounds_toArray, List.set_cons_zero, List.set_cons_succ, List.getElem_toArray, List.getElem_cons_zero, List.getElem_cons_succ])))
                refine wpAnyH_ready (rs := [1]) (by decide +kernel) (by simp) ?_; refine AllReadyH.cons rfl (fun K hK => ?_) AllReadyH.nil; go_simp
                refine (hRx.out _ MW.out.below).mono ?_
                rintro _ w10 ⟨_, rfl, rfl, hb⟩
                have MX := hid (MW.out.keep hb)
                clear hb
                go_wp2_with fail
                have hc := hS.out _ MX.out.below
                refine hK.out _ _ hc (fun hHeld => ?_); clear hK K; (try simp only [Act.put, List.setIfInBounds_toArray, List.set_cons_zero, List.set_cons_succ, List.getElem_toArray, List.getElem_cons_zero, List.getElem_cons_succ])
                clear hc
                repeat (first | (refine wpAnyH_take (i := 2) (v := ?_) rfl (by kernel_rfl) (by decide +kernel) (by decide +kernel) (fun _ _ _ h => h) ?_ (by assumption) ?_; rotate_left; (first | (refine yields_load (by rfl) rfl rfl ?_; intro w hSw; (try dsimp only at hSw); go_split_ands; assumption) | (refine Or.inl ⟨by rfl, ?_⟩; intro w hSw; (try dsimp only at hSw); go_simp; done) | (refine Or.inl ⟨by rfl, ?_⟩; intro w hSw; (try dsimp only at hSw); go_simp; with_reducible rfl) | exact Or.inr ⟨by rfl, rfl⟩ | exact Or.inr ⟨by rfl, by rfl⟩); (try simp only [Act.put, List.setIfInBounds_toArray, List.set_cons_zero, List.set_cons_succ, List.getElem_toArray, List.getElem_cons_zero, List.getElem_cons_succ])))
                refine wpAnyH_ready (rs := [3]) (by decide +kernel) (by simp) ?_; refine AllReadyH.cons rfl (fun K hK => ?_) AllReadyH.nil; go_simp
                refine (hRg.out _ MX.out.below).mono ?_
                rintro _ w11 ⟨_, rfl, rfl, hb⟩
                have MY := hid (MX.out.keep hb)
                clear hb
                go_wp2_with fail
                have hc := hS.out _ MY.out.below
                refine hK.out _ _ hc (fun hHeld => ?_); clear hK K; (try simp only [Act.put, List.setIfInBounds_toArray, List.set_cons_zero, List.set_cons_succ, List.getElem_toArray, List.getElem_cons_zero, List.getElem_cons_succ])
                clear hc
                repeat (first | (refine wpAnyH_take (i := 4) (v := ?_) rfl (by kernel_rfl) (by decide +kernel) (by decide +kernel) (fun _ _ _ h => h) ?_ (by assumption) ?_; rotate_left; (first | (refine yields_load (by rfl) rfl rfl ?_; intro w hSw; (try dsimp only at hSw); go_split_ands; assumption) | (refine Or.inl ⟨by rfl, ?_⟩; intro w hSw; (try dsimp only at hSw); go_simp; done) | (refine Or.inl ⟨by rfl, ?_⟩; intro w hSw; (try dsimp only at hSw); go_simp; with_reducible rfl) | exact Or.inr ⟨by rfl, rfl⟩ | exact Or.inr ⟨by rfl, by rfl⟩); (try simp only [Act.put, List.setIfInBounds_toArray, List.set_cons_zero, List.set_cons_succ, List.getElem_toArray, List.getElem_cons_zero, List.getElem_cons_succ])) | (refine wpAnyH_take (i := 5) (v := ?_) rfl (by kernel_rfl) (by decide +kernel) (by decide +kernel) (fun _ _ _ h => h) ?_ (by assumption) ?_; rotate_left; (first | (refine yields_load (by rfl) rfl rfl ?_; intro w hSw; (try dsimp only at hSw); go_split_ands; assumption) | (refine Or.inl ⟨by rfl, ?_⟩; intro w hSw; (try dsimp only at hSw); go_simp; done) | (refine Or.inl ⟨by rfl, ?_⟩; intro w hSw; (try dsimp only at hSw); go_simp; with_reducible rfl) | exact Or.inr ⟨by rfl, rfl⟩ | exact Or.inr ⟨by rfl, by rfl⟩); (try simp only [Act.put, List.setIfInBounds_toArray, List.set_cons_zero, List.set_cons_succ, List.getElem_toArray, List.getElem_cons_zero, List.getElem_cons_succ])) | (refine wpAnyH_take (i := 6) (v := ?_) rfl (by kernel_rfl) (by decide +kernel) (by decide +kernel) (fun _ _ _ h => h) ?_ (by assumption) ?_; rotate_left; (first | (refine yields_load (by rfl) rfl rfl ?_; intro w hSw; (try dsimp only at hSw); go_split_ands; assumption) | (refine Or.inl ⟨by rfl, ?_⟩; intro w hSw; (try dsimp only at hSw); go_simp; done) | (refine Or.inl ⟨by rfl, ?_⟩; intro w hSw; (try dsimp only at hSw); go_simp; with_reducible rfl) | exact Or.inr ⟨by rfl, rfl⟩ | exact Or.inr ⟨by rfl, by rfl⟩); (try simp only [Act.put, List.setIfInBounds_toArray, List.set_cons_zero, List.set_cons_succ, List.getElem_toArray, List.getElem_cons_zero, List.getElem_cons_succ])) | (refine wpAnyH_take (i := 9) (v := ?_) rfl (by kernel_rfl) (by decide +kernel) (by decide +kernel) (fun _ _ _ h => h) ?_ (by assumption) ?_; rotate_left; (first | (refine yields_load (by rfl) rfl rfl ?_; intro w hSw; (try dsimp only at hSw); go_split_ands; assumption) | (refine Or.inl ⟨by rfl, ?_⟩; intro w hSw; (try dsimp only at hSw); go_simp; done) | (refine Or.inl ⟨by rfl, ?_⟩; intro w hSw; (try dsimp only at hSw); go_simp; with_reducible rfl) | exact Or.inr ⟨by rfl, rfl⟩ | exact Or.inr ⟨by rfl, by rfl⟩); (try simp only [Act.put, List.setIfInBounds_toArray, List.set_cons_zero, List.set_cons_succ, List.getElem_toArray, List.getElem_cons_zero, List.getElem_cons_succ])))
                refine wpAnyH_ready (rs := [7]) (by decide +kernel) (by simp) ?_; refine AllReadyH.cons rfl (fun K hK => ?_) AllReadyH.nil; go_simp
                refine (hBx.out _ MY.out.below).mono ?_
                rintro _ w12 ⟨_, rfl, A12, c12, rfl, hb⟩
                have MZ := hid (MY.out.keep hb)
                clear hb
                go_wp2_with fail
                have hc := hS.out _ MZ.out.below
                refine hK.out _ _ hc (fun hHeld => ?_); clear hK K; (try simp only [Act.put, List.setIfInBounds_toArray, List.set_cons_zero, List.set_cons_succ, List.getElem_toArray, List.getElem_cons_zero, List.getElem_cons_succ])
                clear hc
                repeat (first | (refine wpAnyH_take (i := 8) (v := ?_) rfl (by kernel_rfl) (by decide +kernel) (by decide +kernel) (fun _ _ _ h => h) ?_ (by assumption) ?_; rotate_left; (first | (refine yields_load (by rfl) rfl rfl ?_; intro w hSw; (try dsimp only at hSw); go_split_ands; assumption) | (refine Or.inl ⟨by rfl, ?_⟩; intro w hSw; (try dsimp only at hSw); go_simp; done) | (refine Or.inl ⟨by rfl, ?_⟩; intro w hSw; (try dsimp only at hSw); go_simp; with_reducible rfl) | exact Or.inr ⟨by rfl, rfl⟩ | exact Or.inr ⟨by rfl, by rfl⟩); (try simp only [Act.put, List.setIfInBounds_toArray, List.set_cons_zero, List.set_cons_succ, List.getElem_toArray, List.getElem_cons_zero, List.getElem_cons_succ])) | (refine wpAnyH_take (i := 9) (v := ?_) rfl (by kernel_rfl) (by decide +kernel) (by decide +kernel) (fun _ _ _ h => h) ?_ (by assumption) ?_; rotate_left; (first | (refine yields_load (by rfl) rfl rfl ?_; intro w hSw; (try dsimp only at hSw); go_split_ands; assumption) | (refine Or.inl ⟨by rfl, ?_⟩; intro w hSw; (try dsimp only at hSw); go_simp; done) | (refine Or.inl ⟨by rfl, ?_⟩; intro w hSw; (try dsimp only at hSw); go_simp; with_reducible rfl) | exact Or.inr ⟨by rfl, rfl⟩ | exact Or.inr ⟨by rfl, by rfl⟩); (try simp only [Act.put, List.setIfInBounds_toArray, List.set_cons_zero, List.set_cons_succ, List.getElem_toArray, List.getElem_cons_zero, List.getElem_cons_succ])))
                refine wpAnyH_ready (rs := [10]) (by decide +kernel) (by simp) ?_; refine AllReadyH.cons rfl (fun K hK => ?_) AllReadyH.nil; go_simp
                refine (hBg.out _ MZ.out.below).mono ?_
                rintro _ w13 ⟨_, rfl, A13, c13, rfl, hb⟩
                have MU := hid (MZ.out.keep hb)
                clear hb
                go_wp2_with fail
                have hc := hS.out _ MU.out.below
                refine hK.out _ _ hc (fun hHeld => ?_); clear hK K; (try simp only [Act.put, List.setIfInBounds_toArray, List.set_cons_zero, List.set_cons_succ, List.getElem_toArray, List.getElem_cons_zero, List.getElem_cons_succ])
                clear hc
                repeat (first | (refine wpAnyH_take (i := 8) (v := ?_) rfl (by kernel_rfl) (by decide +kernel) (by decide +kernel) (fun _ _ _ h => h) ?_ (by assumption) ?_; rotate_left; (first | (refine yields_load (by rfl) rfl rfl ?_; intro w hSw; (try dsimp only at hSw); go_split_ands; assumption) | (refine Or.inl ⟨by rfl, ?_⟩; intro w hSw; (try dsimp only at hSw); go_simp; done) | (refine Or.inl ⟨by rfl, ?_⟩; intro w hSw; (try dsimp only at hSw); go_simp; with_reducible rfl) | exact Or.inr ⟨by rfl, rfl⟩ | exact Or.inr ⟨by rfl, by rfl⟩); (try simp only [Act.put, List.setIfInBounds_toArray, List.set_cons_zero, List.set_cons_succ, List.getElem_toArray, List.getElem_cons_zero, List.getElem_cons_succ])) | (refine wpAnyH_take (i := 11) (v := ?_) rfl (by kernel_rfl) (by decide +kernel) (by decide +kernel) (fun _ _ _ h => h) ?_ (by assumption) ?_; rotate_left; (first | (refine yields_load (by rfl) rfl rfl ?_; intro w hSw; (try dsimp only at hSw); go_split_ands; assumption) | (refine Or.inl ⟨by rfl, ?_⟩; intro w hSw; (try dsimp only at hSw); go_simp; done) | (refine Or.inl ⟨by rfl, ?_⟩; intro w hSw; (try dsimp only at hSw); go_simp; with_reducible rfl) | exact Or.inr ⟨by rfl, rfl⟩ | exact Or.inr ⟨by rfl, by rfl⟩); (try simp only [Act.put, List.setIfInBounds_toArray, List.set_cons_zero, List.set_cons_succ, List.getElem_toArray, List.getElem_cons_zero, List.getElem_cons_succ])) | (refine wpAnyH_take (i := 12) (v := ?_) rfl (by kernel_rfl) (by decide +kernel) (by decide +kernel) (fun _ _ _ h => h) ?_ (by assumption) ?_; rotate_left; (first | (refine yields_load (by rfl) rfl rfl ?_; intro w hSw; (try dsimp only at hSw); go_split_ands; assumption) | (refine Or.inl ⟨by rfl, ?_⟩; intro w hSw; (try dsimp only at hSw); go_simp; done) | (refine Or.inl ⟨by rfl, ?_⟩; intro w hSw; (try dsimp only at hSw); go_simp; with_reducible rfl) | exact Or.inr ⟨by rfl, rfl⟩ | exact Or.inr ⟨by rfl, by rfl⟩); (try simp only [Act.put, List.setIfInBounds_toArray, List.set_cons_zero, List.set_cons_succ, List.getElem_toArray, List.getElem_cons_zero, List.getElem_cons_succ])) | (refine wpAnyH_take (i := 13) (v := ?_) rfl (by kernel_rfl) (by decide +kernel) (by decide +kernel) (fun _ _ _ h => h) ?_ (by assumption) ?_; rotate_left; (first | (refine yields_load (by rfl) rfl rfl ?_; intro w hSw; (try dsimp only at hSw); go_split_ands; assumption) | (refine Or.inl ⟨by rfl, ?_⟩; intro w hSw; (try dsimp only at hSw); go_simp; done) | (refine Or.inl ⟨by rfl, ?_⟩; intro w hSw; (try dsimp only at hSw); go_simp; with_reducible rfl) | exact Or.inr ⟨by rfl, rfl⟩ | exact Or.inr ⟨by rfl, by rfl⟩); (try simp only [Act.put, List.setIfInBounds_toArray, List.set_cons_zero, List.set_cons_succ, List.getElem_toArray, List.getElem_cons_zero, List.getElem_cons_succ])) | (refine wpAnyH_take (i := 14) (v := ?_) rfl (by kernel_rfl) (by decide +kernel) (by decide +kernel) (fun _ _ _ h => h) ?_ (by assumption) ?_; rotate_left; (first | (refine yields_load (by rfl) rfl rfl ?_; intro w hSw; (try dsimp only at hSw); go_split_ands; assumption) | (refine Or.inl ⟨by rfl, ?_⟩; intro w hSw; (try dsimp only at hSw); go_simp; done) | (refine Or.inl ⟨by rfl, ?_⟩; intro w hSw; (try dsimp only at hSw); go_simp; with_reducible rfl) | exact Or.inr ⟨by rfl, rfl⟩ | exact Or.inr ⟨by rfl, by rfl⟩); (try simp only [Act.put, List.setIfInBounds_toArray, List.set_cons_zero, List.set_cons_succ, List.getElem_toArray, List.getElem_cons_zero, List.getElem_cons_succ])))
                refine wpAnyH_done (by kernel_rfl) ?_ _
                go_wp2_with fail
                go_ret
                exact .mk ⟨rfl, (hMg.out _ MU.out.below).below⟩
                -- fin>
end Go.Proofs.Yteoicpbfjkjogaa
