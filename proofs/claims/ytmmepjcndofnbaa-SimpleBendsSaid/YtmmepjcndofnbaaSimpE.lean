/- Layer 12: a glyph of points, cut into contours of some sizes. -/
import Derived.Test.YtmmepjcndofnbaaSimpD
import Derived.Test.YtmmepjcndofnbaaHeld
namespace Go.Proofs.Ytmmepjcndofnbaa
open Go Go.RowKit
set_option linter.unusedVariables false
set_option linter.unusedSimpArgs false
set_option maxRecDepth 100000

theorem SliceAt.pre3 {w : World} {B : Nat} {A : Option Addr} {c n k : Nat} {xs : List Value} (h : SliceAt w B 3 (.slice A n c) n xs) (hk : k ≤ n) : SliceAt w B 3 (.slice A k c) k (xs.take (k * 3)) := by
  obtain ⟨A', c', he, hnc, hcm, hA, hr⟩ := h
  injection he with he1 he2 he3
  subst he1; subst he3
  have hx := hr.1
  have hl : (xs.take (k * 3)).length = k * 3 := by rw [List.length_take]; omega
  refine ⟨A, c, rfl, by omega, hcm, hA, hl, fun hn => ?_⟩
  obtain ⟨ad, rfl, hb, hc⟩ := hr.2 (by omega)
  refine ⟨ad, rfl, hb, fun j u hu => hc j u ?_⟩
  rw [List.getElem?_take] at hu
  split at hu
  · exact hu
  · cases hu
theorem b4_cells {W0 w : World} {L : List Ent} {p : Nat} {a b c d : Int} (M : Own W0 w L) (h : .blk p 26 #[.int .i16 a, .int .i16 b, .int .i16 c, .int .i16 d] ∈ L) :
    w.cell? ⟨p, 0, none⟩ = some (.int .i16 a) ∧ w.cell? ⟨p, 1, none⟩ = some (.int .i16 b) ∧ w.cell? ⟨p, 2, none⟩ = some (.int .i16 c) ∧ w.cell? ⟨p, 3, none⟩ = some (.int .i16 d) := ⟨M.cell h 0, M.cell h 1, M.cell h 2, M.cell h 3⟩
theorem g_free {W0 w : World} {L : List Ent} {m : Nat} {g : Sg} {ve vp vs : Value} (M : Own W0 w L) (h : .blk m 29 (gA g ve vp vs) ∈ L) :
    w.frozen? ⟨m, 4, none⟩ = false ∧ w.frozen? ⟨m, 5, none⟩ = false ∧ w.frozen? ⟨m, 6, none⟩ = false := ⟨M.free h 4, M.free h 5, M.free h 6⟩
theorem g7 {W0 w : World} {L : List Ent} {m : Nat} {g : Sg} {ve vp vs : Value} (M : Own W0 w L) (h : .blk m 29 (gA g ve vp vs) ∈ L) :
    (w.cell? ⟨m, 0, none⟩ = some (.int .i16 g.b0) ∧ w.cell? ⟨m, 1, none⟩ = some (.int .i16 g.b1) ∧ w.cell? ⟨m, 2, none⟩ = some (.int .i16 g.b2) ∧ w.cell? ⟨m, 3, none⟩ = some (.int .i16 g.b3) ∧ w.cell? ⟨m, 4, none⟩ = some ve ∧ w.cell? ⟨m, 5, none⟩ = some vp ∧ w.cell? ⟨m, 6, none⟩ = some vs) ∧
    w.frozen? ⟨m, 0, none⟩ = false ∧ w.frozen? ⟨m, 1, none⟩ = false ∧ w.frozen? ⟨m, 2, none⟩ = false ∧ w.frozen? ⟨m, 3, none⟩ = false ∧ w.frozen? ⟨m, 4, none⟩ = false ∧ w.frozen? ⟨m, 5, none⟩ = false ∧ w.frozen? ⟨m, 6, none⟩ = false :=
  ⟨⟨M.cell h 0, M.cell h 1, M.cell h 2, M.cell h 3, M.cell h 4, M.cell h 5, M.cell h 6⟩, M.free h 0, M.free h 1, M.free h 2, M.free h 3, M.free h 4, M.free h 5, M.free h 6⟩
/-- A glyph's value is put into a block, cell by cell. -/
theorem g_put {W0 w : World} {L1 L2 : List Ent} {m : Nat} {c0 c1 c2 c3 c4 c5 c6 : Value} (M : Own W0 w (L1 ++ (.blk m 29 #[c0, c1, c2, c3, c4, c5, c6] :: L2))) (v0 v1 v2 v3 v4 v5 v6 : Value) :
    Own W0 (((((((w.setCell ⟨m, 0, none⟩ v0).setCell ⟨m, 1, none⟩ v1).setCell ⟨m, 2, none⟩ v2).setCell ⟨m, 3, none⟩ v3).setCell ⟨m, 4, none⟩ v4).setCell ⟨m, 5, none⟩ v5).setCell ⟨m, 6, none⟩ v6) (L1 ++ (.blk m 29 #[v0, v1, v2, v3, v4, v5, v6] :: L2)) := by
  have := ((((((M.set 0 v0).set 1 v1).set 2 v2).set 3 v3).set 4 v4).set 5 v5).set 6 v6
  simpa only [List.setIfInBounds_toArray, List.set_cons_zero, List.set_cons_succ] using this
/-- A box, as a glyph of nothing. -/
abbrev gB (a b c d : Int) : Sg := ⟨a, b, c, d, [], [], []⟩

/-- What is made. -/
def MadeP (a b c d : Int) (pr : List Int) (qs : List (Int × Int × Bool)) (w : World) (r : Value) (w' : World) : Prop :=
  ∃ (g : Sg) (ve vp vs : Value), g.Ok ∧ g.b0 = a ∧ g.b1 = b ∧ g.b2 = c ∧ g.b3 = d ∧ g.prog = pr ∧ g.pts = qs ∧ g.ends.length ≤ 41 ∧ r = .agg (gA g ve vp vs) ∧
    Own w w' [.row 38 1 ve g.ends.length (ints .u16 g.ends), .row 5 1 vp g.prog.length (ints .u8 g.prog), .row 37 3 vs g.pts.length (spC g.pts)]
set_option maxHeartbeats 2000000 in
theorem made_calls (w : World) {a b c d : Int} {V1 V2 V3 : Value} {ps : List (Int × Int × Bool)} {zs xs : List Int} (ha : I16 a) (hb : I16 b) (hc : I16 c) (hd : I16 d)
    (h1 : SliceAt w w.heap.size 3 V1 ps.length (spC ps)) (hp : ∀ p ∈ ps, I16 p.1 ∧ I16 p.2.1) (h2 : BytesAt w V2 zs) (hZ : Bytes zs) (h3 : BytesAt w V3 xs) (hB : Bytes xs) :
    Calls Try.prog 10 #[.agg #[.int .i16 a, .int .i16 b, .int .i16 c, .int .i16 d], V1, V2, V3] w (Ret fun r w' => MadeP a b c d (xs.take 30) (ps.take 300) w r w') := by
  have M0 := hid (Own.start w)
  have hCut := hid (fun w1 (h : Below w.heap.size w w1) => cut_calls w1 30 (by omega) (h3.below h) (by omega))
  have hBx := hid (hB.take 30)
  obtain ⟨A3, C3, rfl, -⟩ := h3
  obtain ⟨np, hnp⟩ : ∃ n, (xs.take 30).length = n := ⟨_, rfl⟩
  rw [hnp] at hCut
  generalize hxs : xs.take 30 = pr at *
  have h0H := hid h1
  obtain ⟨A1, C1, rfl, hc1, hm1, -, -⟩ := h1
  obtain ⟨A2, C2, rfl, hc2, hm2, -, hr2⟩ := h2
  unfold maxLen at hm1 hm2
  have hrH := hid hr2
  have hZH := hid (fun k => hZ.get k)
  obtain ⟨n, hn, hn300⟩ : ∃ n, min ps.length 300 = n ∧ n ≤ 300 := ⟨_, rfl, by omega⟩
  have hnl : n ≤ ps.length := by omega
  have e300 : ps.take 300 = ps.take n := by rw [← hn]; exact (List.take_eq_take_iff.2 (by omega))
  have hll : (ps.take n).length = n := by rw [List.length_take]; omega
  have hpre := hid (fun w1 (h : Below w.heap.size w w1) => show SliceAt w1 w1.heap.size 3 (.slice A1 n C1) n (spC (ps.take n)) by
    have := SliceAt.pre3 (h0H.out.below h) hnl
    rwa [← spC_take] at this)
  have hpk : ∀ p ∈ ps.take n, I16 p.1 ∧ I16 p.2.1 := fun p hp' => hp p (List.mem_of_mem_take hp')
  have hpt := hid (show (∀ p ∈ ps.take n, I16 p.1 ∧ I16 p.2.1) ∧ (ps.take n).length = n ∧ ps.take 300 = ps.take n from ⟨hpk, hll, e300⟩)
  clear hr2 hZ hB h0H hp hpk hll e300
  generalize ps.take n = qs at *
  obtain ⟨nz, hnz⟩ : ∃ n, zs.length = n := ⟨_, rfl⟩
  rw [hnz] at hc2 hrH
  rw [hnz]
  replace hnz := hid hnz
  obtain ⟨nq, hnq⟩ : ∃ n, ps.length = n := ⟨_, rfl⟩
  rw [hnq] at hc1 hn hnl
  rw [hnq]
  clear hnq
  have hnpH := hid hnp
  have hxsH := hid hxs
  clear hnp hxs
  have hmin : (if (300 : Int) < nq then (300 : Int) else (nq : Int)) = (n : Int) := by split <;> omega
  have hn1 : (n : Int) ≤ nq := by omega
  have hn2 : (n : Int) ≤ C1 := by omega
  have hn3 : n ≤ C1 := by omega
  clear hn
  go_enter Try.func10, Try.ntmps10
  go_upto_region 1 with (first
    | ((with_reducible refine gate (N := 4) rfl ?_); refine wpList_box_Own rfl (cs := #[.int .i16 a, .int .i16 b, .int .i16 c, .int .i16 d]) (t := 26) (by first | (go_simp; done) | (go_simp; rfl)) M0.out ?_; intro x4 w1 M; (have M1 := hid M); clear M)
    | ((with_reducible refine gate (N := 8) rfl ?_); refine wpList_box_Own rfl (cs := gA (gB 0 0 0 0) (.slice none 0 0) (.slice none 0 0) (.slice none 0 0)) (t := 29) (by first | (go_simp; done) | (go_simp; rfl)) M1.out ?_; intro x8 w2 M; obtain ⟨b0, b1, b2, b3⟩ := b4_cells (p := x4) (a := a) (b := b) (c := c) (d := d) M (by simp); (have M2 := hid M); clear M))
  try simp only [Act.put, List.setIfInBounds_toArray, List.set_cons_zero, List.set_cons_succ]
  go_cut [9] (fun s9 wx => ∃ (x9 : Nat) (A4 : Option Addr) (c4 : Nat), s9 = .pointer (some ⟨x9, 0, none⟩) ∧ Hid (Own w wx [.blk x9 29 (gA (gB a b c d) (.slice none 0 0) (.slice A4 np c4) (.slice none 0 0)), .row 5 1 (.slice A4 np c4) np (ints .u8 pr), .blk x8 29 (gA (gB 0 0 0 0) (.slice none 0 0) (.slice none 0 0) (.slice none 0 0))]))
  case first =>
    go_region_held3 (fun w' => w'.cell? ⟨x4, 0, none⟩ = some (.int .i16 a) ∧ w'.cell? ⟨x4, 1, none⟩ = some (.int .i16 b) ∧ w'.cell? ⟨x4, 2, none⟩ = some (.int .i16 c) ∧ w'.cell? ⟨x4, 3, none⟩ = some (.int .i16 d)) (go_keep)
      (first
        | (go_at_call 13; refine (hCut.out _ (M2.out.alloc 29 (gA (gB 0 0 0 0) (.slice none 0 0) (.slice none 0 0) (.slice none 0 0))).drew.below).mono ?_; rintro _ w3 ⟨_, rfl, M⟩; obtain ⟨A4, c4, rfl⟩ := M.form (.head _); ((have M3' := (M2.out.alloc 29 (gA (gB 0 0 0 0) (.slice none 0 0) (.slice none 0 0) (.slice none 0 0))).drew.lift M)); obtain ⟨b0, b1, b2, b3⟩ := b4_cells (p := x4) (a := a) (b := b) (c := c) (d := d) M3' (by simp); obtain ⟨⟨d0, d1, d2, d3, d4, d5, d6⟩, f0, f1, f2, f3, f4, f5, f6⟩ := g7 (m := w2.heap.size) (g := gB 0 0 0 0) (ve := .slice none 0 0) (vp := .slice none 0 0) (vs := .slice none 0 0) M3' (by simp); ((have n4 : w2.heap.size ≠ x4 := Nat.ne_of_gt (M2.out.lt (g := x4) (t := 26) (cs := #[.int .i16 a, .int .i16 b, .int .i16 c, .int .i16 d]) (by simp)))); (have n4' := n4.symm); (have M3 := hid M3'); (clear M3' M))
        | (go_at_call 13; refine (hCut.out _ M2.out.drew.below).mono ?_; rintro _ w3 ⟨_, rfl, M⟩; obtain ⟨A4, c4, rfl⟩ := M.form (.head _); ((have M3' := M2.out.drew.lift M)); obtain ⟨b0, b1, b2, b3⟩ := b4_cells (p := x4) (a := a) (b := b) (c := c) (d := d) M3' (by simp); ((have n4 : w3.heap.size ≠ x4 := Nat.ne_of_gt (M3'.lt (g := x4) (t := 26) (cs := #[.int .i16 a, .int .i16 b, .int .i16 c, .int .i16 d]) (by simp)))); (have n4' := n4.symm); (have M3 := hid M3'); (clear M3' M)))
    · go_wp2_with fail
      go_meet
      exact ⟨_, A4, c4, rfl, hid (Own.sub (M3.out.alloc 29 (gA (gB a b c d) (.slice none 0 0) (.slice A4 np c4) (.slice none 0 0))) (by simp))⟩
    · go_wp2_with fail
      go_meet
      have MX := g_put (L1 := [.row 5 1 (.slice A4 np c4) np (ints .u8 pr)]) (m := w2.heap.size) M3.out (.int .i16 a) (.int .i16 b) (.int .i16 c) (.int .i16 d) (.slice none 0 0) (.slice A4 np c4) (.slice none 0 0)
      exact ⟨w2.heap.size, A4, c4, rfl, hid (Own.sub (Own.swap (x := .row 5 1 (.slice A4 np c4) np (ints .u8 pr)) MX) (by simp))⟩
  case rest =>
    obtain ⟨x9, A4, c4, rfl, MC⟩ := hcut
    clear M1 M2 b0 b1 b2 b3
    obtain ⟨-, c5', c6⟩ := g_cells (m := x9) (g := gB a b c d) (ve := .slice none 0 0) (vp := .slice A4 np c4) (vs := .slice none 0 0) MC.out List.mem_cons_self
    obtain ⟨-, -, f6⟩ := g_free (m := x9) (g := gB a b c d) (ve := .slice none 0 0) (vp := .slice A4 np c4) (vs := .slice none 0 0) MC.out List.mem_cons_self
    clear c5'
    have MN := hid (MC.out.nil_row 37 3)
    go_upto_region 3 with fail
    refine wp_region_held_drew (S := fun _ => True) (by kernel_rfl) trivial (fun hHeld => ?_)
    repeat (first | (refine wpAnyH_take (i := 0) (v := ?_) rfl (by kernel_rfl) (by decide +kernel) (by decide +kernel) (fun _ _ _ h => h) ?_ (by assumption) ?_; rotate_left; (first | (refine yields_load (by rfl) rfl rfl ?_; intro w hSw; (try dsimp only at hSw); go_split_ands; assumption) | (refine Or.inl ⟨by rfl, ?_⟩; intro w hSw; (try dsimp only at hSw); go_simp; done) | (refine Or.inl ⟨by rfl, ?_⟩; intro w hSw; (try dsimp only at hSw); go_simp; with_reducible rfl) | exact Or.inr ⟨by rfl, rfl⟩); (try simp only [Act.put, List.setIfInBounds_toArray, List.set_cons_zero, List.set_cons_succ, List.getElem_toArray, List.getElem_cons_zero, List.getElem_cons_succ])) | (refine wpAnyH_take (i := 2) (v := ?_) rfl (by kernel_rfl) (by decide +kernel) (by decide +kernel) (fun _ _ _ h => h) ?_ (by assumption) ?_; rotate_left; (first | (refine yields_load (by rfl) rfl rfl ?_; intro w hSw; (try dsimp only at hSw); go_split_ands; assumption) | (refine Or.inl ⟨by rfl, ?_⟩; intro w hSw; (try dsimp only at hSw); go_simp; done) | (refine Or.inl ⟨by rfl, ?_⟩; intro w hSw; (try dsimp only at hSw); go_simp; with_reducible rfl) | exact Or.inr ⟨by rfl, rfl⟩); (try simp only [Act.put, List.setIfInBounds_toArray, List.set_cons_zero, List.set_cons_succ, List.getElem_toArray, List.getElem_cons_zero, List.getElem_cons_succ])) | (refine wpAnyH_take (i := 3) (v := ?_) rfl (by kernel_rfl) (by decide +kernel) (by decide +kernel) (fun _ _ _ h => h) ?_ (by assumption) ?_; rotate_left; (first | (refine yields_load (by rfl) rfl rfl ?_; intro w hSw; (try dsimp only at hSw); go_split_ands; assumption) | (refine Or.inl ⟨by rfl, ?_⟩; intro w hSw; (try dsimp only at hSw); go_simp; done) | (refine Or.inl ⟨by rfl, ?_⟩; intro w hSw; (try dsimp only at hSw); go_simp; with_reducible rfl) | exact Or.inr ⟨by rfl, rfl⟩); (try simp only [Act.put, List.setIfInBounds_toArray, List.set_cons_zero, List.set_cons_succ, List.getElem_toArray, List.getElem_cons_zero, List.getElem_cons_succ])) | (refine wpAnyH_take (i := 4) (v := ?_) rfl (by kernel_rfl) (by decide +kernel) (by decide +kernel) (fun _ _ _ h => h) ?_ (by assumption) ?_; rotate_left; (first | (refine yields_load (by rfl) rfl rfl ?_; intro w hSw; (try dsimp only at hSw); go_split_ands; assumption) | (refine Or.inl ⟨by rfl, ?_⟩; intro w hSw; (try dsimp only at hSw); go_simp; done) | (refine Or.inl ⟨by rfl, ?_⟩; intro w hSw; (try dsimp only at hSw); go_simp; with_reducible rfl) | exact Or.inr ⟨by rfl, rfl⟩); (try simp only [Act.put, List.setIfInBounds_toArray, List.set_cons_zero, List.set_cons_succ, List.getElem_toArray, List.getElem_cons_zero, List.getElem_cons_succ])))
    refine wpAnyH_ready (rs := [1]) (by decide +kernel) (by simp) ?_; refine AllReadyH.cons rfl (fun K hK => ?_) AllReadyH.nil; go_simp
    refine hK.out _ _ trivial (fun hHeld => ?_); clear hK K; (try simp only [Act.put, List.setIfInBounds_toArray, List.set_cons_zero, List.set_cons_succ, List.getElem_toArray, List.getElem_cons_zero, List.getElem_cons_succ])
    refine wpAnyH_ready (rs := [5]) (by decide +kernel) (by simp) ?_; refine AllReadyH.cons rfl (fun K hK => ?_) AllReadyH.nil
    refine step_append_Own (by rfl) (.tmp 23) (.tmp 26) _ rfl sized_spot rfl rfl (L1 := []) (L2 := [.blk x9 29 (gA (gB a b c d) (.slice none 0 0) (.slice A4 np c4) (.slice none 0 0)), .row 5 1 (.slice A4 np c4) np (ints .u8 pr), .blk x8 29 (gA (gB 0 0 0 0) (.slice none 0 0) (.slice none 0 0) (.slice none 0 0))]) MN.out.drew (hpre.out _ MN.out.drew.below) (spC_one qs) (by unfold maxLen; omega) (by omega) ?_
    intro v' w' M'
    simp only [Nat.zero_add, List.nil_append, List.append_eq] at M'
    obtain ⟨A5, c5, rfl⟩ := M'.form (.head _)
    obtain ⟨-, -, c6'⟩ := g_cells (m := x9) (g := gB a b c d) (ve := .slice none 0 0) (vp := .slice A4 np c4) (vs := .slice none 0 0) M' (by simp)
    obtain ⟨-, -, f6'⟩ := g_free (m := x9) (g := gB a b c d) (ve := .slice none 0 0) (vp := .slice A4 np c4) (vs := .slice none 0 0) M' (by simp)
    have M7 := hid M'
    clear M'
    refine hK.out _ _ trivial (fun hHeld => ?_); clear hK K; (try simp only [Act.put, List.setIfInBounds_toArray, List.set_cons_zero, List.set_cons_succ, List.getElem_toArray, List.getElem_cons_zero, List.getElem_cons_succ])
    repeat (first | (refine wpAnyH_take (i := 6) (v := ?_) rfl (by kernel_rfl) (by decide +kernel) (by decide +kernel) (fun _ _ _ h => h) ?_ (by assumption) ?_; rotate_left; (first | (refine yields_load (by rfl) rfl rfl ?_; intro w hSw; (try dsimp only at hSw); go_split_ands; assumption) | (refine Or.inl ⟨by rfl, ?_⟩; intro w hSw; (try dsimp only at hSw); go_simp; done) | (refine Or.inl ⟨by rfl, ?_⟩; intro w hSw; (try dsimp only at hSw); go_simp; with_reducible rfl) | exact Or.inr ⟨by rfl, rfl⟩); (try simp only [Act.put, List.setIfInBounds_toArray, List.set_cons_zero, List.set_cons_succ, List.getElem_toArray, List.getElem_cons_zero, List.getElem_cons_succ])))
    refine wpAnyH_ready (rs := [7]) (by decide +kernel) (by simp) ?_; refine AllReadyH.cons rfl (fun K hK => ?_) AllReadyH.nil; go_simp
    refine hK.out _ _ trivial (fun hHeld => ?_); clear hK K; (try simp only [Act.put, List.setIfInBounds_toArray, List.set_cons_zero, List.set_cons_succ, List.getElem_toArray, List.getElem_cons_zero, List.getElem_cons_succ])
    refine wpAnyH_done (by kernel_rfl) ?_ _
    have M8 := hid (show Own w _ [.row 37 3 (.slice A5 n c5) n (spC qs), .blk x9 29 (gA (gB a b c d) (.slice none 0 0) (.slice A4 np c4) (.slice A5 n c5)), .row 5 1 (.slice A4 np c4) np (ints .u8 pr), .blk x8 29 (gA (gB 0 0 0 0) (.slice none 0 0) (.slice none 0 0) (.slice none 0 0))] from M7.out.set (L1 := [_]) 6 (.slice A5 n c5))
    go_wp2_with fail
    go_loopw [11, 31] (fun s11 i wr => ∃ (k t : Nat) (α : Int) (Ae : Option Addr) (ce : Nat) (es : List Int), k ≤ nz ∧ i = .int .i64 k ∧ s11 = .int .i64 α ∧ (k ≤ 40 → 0 ≤ α ∧ α ≤ 9 * (k : Int)) ∧ es.length = t ∧ t ≤ 40 ∧ t ≤ k ∧ Hid (∀ x ∈ es, 0 ≤ x ∧ x < 65536) ∧ Hid (Own w wr [.row 38 1 (.slice Ae t ce) t (ints .u16 es), .blk x9 29 (gA (gB a b c d) (.slice Ae t ce) (.slice A4 np c4) (.slice A5 n c5)), .row 37 3 (.slice A5 n c5) n (spC qs), .row 5 1 (.slice A4 np c4) np (ints .u8 pr), .blk x8 29 (gA (gB 0 0 0 0) (.slice none 0 0) (.slice none 0 0) (.slice none 0 0))])) (fun _ i _ => nz - (intOf i).toNat)
    case atStart => exact ⟨0, 0, 0, none, 0, [], Nat.zero_le _, rfl, rfl, fun _ => by omega, rfl, by omega, by omega, hid (by simp), hid (M8.out.swap.nil_row 38 1)⟩
    case round =>
      clear M8 M7 MN MC c6 f6 c6' f6'
      obtain ⟨k, t, α, Ae, ce, es, hk, rfl, rfl, hα, hes, ht, htk, hU, MR⟩ := hrel
      by_cases hlt : k < nz
      · obtain ⟨ad, rfl, hz⟩ := (hrH.out.keep (w' := wr) fun k hk _ => MR.out.below.block k hk).cell (ints_get .u8 zs k (by rw [hnz.out]; exact hlt))
        obtain ⟨z0, z1⟩ := hZH.out k
        generalize zs.getD k 0 = z at *
        by_cases h40 : k < 40
        · obtain ⟨α0, α1⟩ := hα (by omega)
          clear hα
          obtain ⟨β, hβ⟩ : ∃ β, α + (1 + z % 9) = β := ⟨_, rfl⟩
          have β0 : 1 ≤ β := by omega
          have β1 : β ≤ 9 * ((k : Int) + 1) := by omega
          have g40 : (k : Int) < 40 := by omega
          obtain ⟨e4, -, -⟩ := g_cells (m := x9) (g := gB a b c d) (ve := .slice Ae t ce) (vp := .slice A4 np c4) (vs := .slice A5 n c5) MR.out (by simp)
          by_cases hβn : β < n
          · go_wp2_with (at_builtin; refine wpList_append_Own rfl (.tmp 50) (.tmp 54) _ rfl sized_u16 rfl rfl (L1 := [.blk wr.heap.size 38 #[.int .u16 (β - 1)]]) (L2 := [.blk x9 29 (gA (gB a b c d) (.slice Ae t ce) (.slice A4 np c4) (.slice A5 n c5)), .row 37 3 (.slice A5 n c5) n (spC qs), .row 5 1 (.slice A4 np c4) np (ints .u8 pr), .blk x8 29 (gA (gB 0 0 0 0) (.slice none 0 0) (.slice none 0 0) (.slice none 0 0))]) (MR.out.alloc _ _) (SliceAt.built (MR.out.alloc _ _) (.head _) 1 1 rfl (by unfold maxLen; omega)) (ints_one .u16 [β - 1]) (by unfold maxLen; omega) (by omega) ?_; intro v' w' M'; obtain ⟨A7, c7, rfl⟩ := M'.tail.form (.head _); obtain ⟨e4, -, -⟩ := g_cells (m := x9) (g := gB a b c d) (ve := .slice Ae t ce) (vp := .slice A4 np c4) (vs := .slice A5 n c5) M' (by simp); obtain ⟨f4, -, -⟩ := g_free (m := x9) (g := gB a b c d) (ve := .slice Ae t ce) (vp := .slice A4 np c4) (vs := .slice A5 n c5) M' (by simp); (have M7 := hid M'.tail); clear M')
            go_roundw
            case rel => exact ⟨k + 1, t + 1, β, A7, c7, es ++ [β - 1], by omega, by go_num, rfl, fun _ => by omega, by simp [hes], by omega, by omega, hid (by
                intro x hx
                rcases List.mem_append.1 hx with hx | hx
                · exact hU.out x hx
                · simp at hx; subst hx; omega), hid (by rw [ints_append]; exact M7.out.set (L1 := [_]) 4 (.slice A7 (t + 1) c7))⟩
            case measure => simp [intOf] <;> omega
          · go_wp2
            go_roundw
            case rel => exact ⟨k + 1, t, β, Ae, ce, es, by omega, by go_num, rfl, fun _ => by omega, hes, ht, by omega, hU, MR⟩
            case measure => simp [intOf] <;> omega
        · clear hα
          have g40 : ¬ (k : Int) < 40 := by omega
          go_wp2
          go_roundw
          case rel => exact ⟨k + 1, t, _, Ae, ce, es, by omega, by go_num, rfl, fun h => by omega, hes, ht, by omega, hU, MR⟩
          case measure => simp [intOf] <;> omega
      · obtain rfl : k = nz := by omega
        obtain ⟨e4, -, -⟩ := g_cells (m := x9) (g := gB a b c d) (ve := .slice Ae t ce) (vp := .slice A4 np c4) (vs := .slice A5 n c5) MR.out (by simp)
        by_cases hn0 : n = 0
        · have g0 : ¬ (n : Int) > 0 := by omega
          clear e4
          go_wp2_with (first
            | ((with_reducible refine gate (N := 85) rfl ?_); (have M7 : Hid (Own w _ [.row 38 1 (.slice Ae t ce) (t) (ints .u16 (es)), .blk x9 29 (gA (gB a b c d) (.slice Ae t ce) (.slice A4 np c4) (.slice A5 n c5)), .row 37 3 (.slice A5 n c5) n (spC qs), .row 5 1 (.slice A4 np c4) np (ints .u8 pr), .blk x8 29 (gA (gB 0 0 0 0) (.slice none 0 0) (.slice none 0 0) (.slice none 0 0))]) := hid (MR.out)); refine wpList_run rfl (exec_load_agg agg_glyph rfl rfl M7.out (g := x9) (t := 29) (cs := gA (gB a b c d) (.slice Ae t ce) (.slice A4 np c4) (.slice A5 n c5)) (vs := (gA (gB a b c d) (.slice Ae t ce) (.slice A4 np c4) (.slice A5 n c5)).toList) (List.mem_cons_of_mem _ List.mem_cons_self) rfl rfl) ?_)
            | ((with_reducible refine gateSt (t := 29) (p := 8) rfl ?_); refine wpList_store_all (n := 7) (L1 := [.row 38 1 (.slice Ae t ce) (t) (ints .u16 (es)), .blk x9 29 (gA (gB a b c d) (.slice Ae t ce) (.slice A4 np c4) (.slice A5 n c5)), .row 37 3 (.slice A5 n c5) n (spC qs), .row 5 1 (.slice A4 np c4) np (ints .u8 pr)]) (mid := (gA (gB 0 0 0 0) (.slice none 0 0) (.slice none 0 0) (.slice none 0 0)).toList) (vs := (gA (gB a b c d) (.slice Ae t ce) (.slice A4 np c4) (.slice A5 n c5)).toList) rfl rfl (by kernel_rfl) rfl rfl rfl rfl rfl (one_all rfl) M7.out ?_; intro w9 M; (have M9 := hid M); clear M))
          refine bodyPost_ret (v := .agg (gA (gB a b c d) (.slice Ae t ce) (.slice A4 np c4) (.slice A5 n c5))) (results_agg (p := 8) rfl agg_glyph _ (by rfl) (M9.out.heap (g := x8) (t := 29) (List.mem_cons_of_mem _ (List.mem_cons_of_mem _ (List.mem_cons_of_mem _ (List.mem_cons_of_mem _ List.mem_cons_self))))) rfl) rfl (.mk ?_)
          refine ⟨(⟨a, b, c, d, es, pr, qs⟩ : Sg), .slice Ae t ce, .slice A4 np c4, .slice A5 n c5, ⟨ha, hb, hc, hd, hU.out, hBx.out, hpt.out.1⟩, rfl, rfl, rfl, rfl, rfl, hpt.out.2.2.symm, by show (es).length ≤ 41; rw [hes]; (try omega), rfl, ?_⟩
          show Own w _ [.row 38 1 (.slice Ae t ce) (es).length (ints .u16 (es)), .row 5 1 (.slice A4 np c4) pr.length (ints .u8 pr), .row 37 3 (.slice A5 n c5) qs.length (spC qs)]
          rw [hes, hnpH.out, hpt.out.2.1]
          exact (M9.out.sub (L' := [.row 38 1 (.slice Ae t ce) (t) (ints .u16 (es)), .row 37 3 (.slice A5 n c5) n (spC qs), .row 5 1 (.slice A4 np c4) np (ints .u8 pr)]) (by simp)).perm (List.Perm.cons _ (List.Perm.swap _ _ _))
        · have g0 : (n : Int) > 0 := by omega
          have n1 : (n : Int) - 1 < 65536 := by omega
          have n2 : 0 ≤ (n : Int) - 1 := by omega
          by_cases ht0 : t = 0
          · subst ht0
            have hN0 := hid hn0
            clear hn0
            have hU2 := hid (show ∀ x ∈ es ++ [(n : Int) - 1], 0 ≤ x ∧ x < 65536 from by
              intro x hx
              rcases List.mem_append.1 hx with hx | hx
              · exact hU.out x hx
              · simp at hx; subst hx; omega)
            have hes2 : (es ++ [(n : Int) - 1]).length = 0 + 1 := by simp [hes]
            go_wp2_with (first
              | (at_builtin; refine wpList_append_Own rfl (.tmp 78) (.tmp 82) _ rfl sized_u16 rfl rfl (L1 := [.blk wr.heap.size 38 #[.int .u16 ((n : Int) - 1)]]) (MR.out.alloc _ _) (SliceAt.built (MR.out.alloc _ _) (.head _) 1 1 rfl (by unfold maxLen; omega)) (ints_one .u16 [(n : Int) - 1]) (by unfold maxLen; omega) (by omega) ?_; intro v' w' M'; obtain ⟨A7, c7, rfl⟩ := M'.tail.form (.head _); (have e4 := M'.cell (g := x9) (List.mem_cons_of_mem _ (List.mem_cons_of_mem _ List.mem_cons_self)) 4); (have f4 := M'.free (g := x9) (List.mem_cons_of_mem _ (List.mem_cons_of_mem _ List.mem_cons_self)) 4); (have M6 := hid M'.tail); clear M'; simp only [List.getElem?_toArray, List.getElem?_cons_zero, List.getElem?_cons_succ] at e4)
              | ((with_reducible refine gate (N := 85) rfl ?_); (have M7 : Hid (Own w _ [.row 38 1 (.slice A7 (0 + 1) c7) ((0 + 1)) (ints .u16 (es ++ [(n : Int) - 1])), .blk x9 29 (gA (gB a b c d) (.slice A7 (0 + 1) c7) (.slice A4 np c4) (.slice A5 n c5)), .row 37 3 (.slice A5 n c5) n (spC qs), .row 5 1 (.slice A4 np c4) np (ints .u8 pr), .blk x8 29 (gA (gB 0 0 0 0) (.slice none 0 0) (.slice none 0 0) (.slice none 0 0))]) := hid (by rw [ints_append]; exact M6.out.set (L1 := [_]) 4 (.slice A7 (0 + 1) c7))); refine wpList_run rfl (exec_load_agg agg_glyph rfl rfl M7.out (g := x9) (t := 29) (cs := gA (gB a b c d) (.slice A7 (0 + 1) c7) (.slice A4 np c4) (.slice A5 n c5)) (vs := (gA (gB a b c d) (.slice A7 (0 + 1) c7) (.slice A4 np c4) (.slice A5 n c5)).toList) (List.mem_cons_of_mem _ List.mem_cons_self) rfl rfl) ?_)
              | ((with_reducible refine gateSt (t := 29) (p := 8) rfl ?_); refine wpList_store_all (n := 7) (L1 := [.row 38 1 (.slice A7 (0 + 1) c7) ((0 + 1)) (ints .u16 (es ++ [(n : Int) - 1])), .blk x9 29 (gA (gB a b c d) (.slice A7 (0 + 1) c7) (.slice A4 np c4) (.slice A5 n c5)), .row 37 3 (.slice A5 n c5) n (spC qs), .row 5 1 (.slice A4 np c4) np (ints .u8 pr)]) (mid := (gA (gB 0 0 0 0) (.slice none 0 0) (.slice none 0 0) (.slice none 0 0)).toList) (vs := (gA (gB a b c d) (.slice A7 (0 + 1) c7) (.slice A4 np c4) (.slice A5 n c5)).toList) rfl rfl (by kernel_rfl) rfl rfl rfl rfl rfl (one_all rfl) M7.out ?_; intro w9 M; (have M9 := hid M); clear M))
            refine bodyPost_ret (v := .agg (gA (gB a b c d) (.slice A7 (0 + 1) c7) (.slice A4 np c4) (.slice A5 n c5))) (results_agg (p := 8) rfl agg_glyph _ (by rfl) (M9.out.heap (g := x8) (t := 29) (List.mem_cons_of_mem _ (List.mem_cons_of_mem _ (List.mem_cons_of_mem _ (List.mem_cons_of_mem _ List.mem_cons_self))))) rfl) rfl (.mk ?_)
            refine ⟨(⟨a, b, c, d, es ++ [(n : Int) - 1], pr, qs⟩ : Sg), .slice A7 (0 + 1) c7, .slice A4 np c4, .slice A5 n c5, ⟨ha, hb, hc, hd, hU2.out, hBx.out, hpt.out.1⟩, rfl, rfl, rfl, rfl, rfl, hpt.out.2.2.symm, by show (es ++ [(n : Int) - 1]).length ≤ 41; rw [hes2]; (try omega), rfl, ?_⟩
            show Own w _ [.row 38 1 (.slice A7 (0 + 1) c7) (es ++ [(n : Int) - 1]).length (ints .u16 (es ++ [(n : Int) - 1])), .row 5 1 (.slice A4 np c4) pr.length (ints .u8 pr), .row 37 3 (.slice A5 n c5) qs.length (spC qs)]
            rw [hes2, hnpH.out, hpt.out.2.1]
            exact (M9.out.sub (L' := [.row 38 1 (.slice A7 (0 + 1) c7) ((0 + 1)) (ints .u16 (es ++ [(n : Int) - 1])), .row 37 3 (.slice A5 n c5) n (spC qs), .row 5 1 (.slice A4 np c4) np (ints .u8 pr)]) (by simp)).perm (List.Perm.cons _ (List.Perm.swap _ _ _))
          · have t0 : ((t : Int) == 0) = false := by rw [beq_eq_false_iff_ne]; omega
            obtain ⟨sx, hsx⟩ : ∃ sx, t = sx + 1 := ⟨t - 1, by omega⟩
            obtain ⟨A9, c9, he, hc9, hm9, -, hr9⟩ := MR.out.slice (e := 38) (sz := 1) (v := .slice Ae t ce) (n := t) (xs := ints .u16 es) List.mem_cons_self
            injection he with he1 he2 he3
            subst he1 he3
            clear he2
            obtain ⟨ad, rfl, hl⟩ := hr9.cell (ints_get .u16 es sx (by rw [hes]; omega))
            have hlb := hU.out (es.getD sx 0) (by rw [List.getD, List.getElem?_eq_getElem (show sx < es.length by rw [hes]; omega)]; exact List.getElem_mem _)
            generalize es.getD sx 0 = la at *
            obtain ⟨l0, l1⟩ := hlb
            have s1 : (t : Int) - 1 = (sx : Int) := by omega
            have s2' : (sx : Int) < t := by omega
            have s3 : sx < t := by omega
            clear hsx hr9
            unfold maxLen at hm9
            by_cases hla : la < (n : Int) - 1
            · have hU2 := hid (show ∀ x ∈ es ++ [(n : Int) - 1], 0 ≤ x ∧ x < 65536 from by
                intro x hx
                rcases List.mem_append.1 hx with hx | hx
                · exact hU.out x hx
                · simp at hx; subst hx; omega)
              have hes2 : (es ++ [(n : Int) - 1]).length = t + 1 := by simp [hes]
              go_wp2_with (first
                | (at_builtin; refine wpList_append_Own rfl (.tmp 78) (.tmp 82) _ rfl sized_u16 rfl rfl (L1 := [.blk wr.heap.size 38 #[.int .u16 ((n : Int) - 1)]]) (MR.out.alloc _ _) (SliceAt.built (MR.out.alloc _ _) (.head _) 1 1 rfl (by unfold maxLen; omega)) (ints_one .u16 [(n : Int) - 1]) (by unfold maxLen; omega) (by omega) ?_; intro v' w' M'; obtain ⟨A7, c7, rfl⟩ := M'.tail.form (.head _); (have e4 := M'.cell (g := x9) (List.mem_cons_of_mem _ (List.mem_cons_of_mem _ List.mem_cons_self)) 4); (have f4 := M'.free (g := x9) (List.mem_cons_of_mem _ (List.mem_cons_of_mem _ List.mem_cons_self)) 4); (have M6 := hid M'.tail); clear M'; simp only [List.getElem?_toArray, List.getElem?_cons_zero, List.getElem?_cons_succ] at e4)
                | ((with_reducible refine gate (N := 85) rfl ?_); (have M7 : Hid (Own w _ [.row 38 1 (.slice A7 (t + 1) c7) ((t + 1)) (ints .u16 (es ++ [(n : Int) - 1])), .blk x9 29 (gA (gB a b c d) (.slice A7 (t + 1) c7) (.slice A4 np c4) (.slice A5 n c5)), .row 37 3 (.slice A5 n c5) n (spC qs), .row 5 1 (.slice A4 np c4) np (ints .u8 pr), .blk x8 29 (gA (gB 0 0 0 0) (.slice none 0 0) (.slice none 0 0) (.slice none 0 0))]) := hid (by rw [ints_append]; exact M6.out.set (L1 := [_]) 4 (.slice A7 (t + 1) c7))); refine wpList_run rfl (exec_load_agg agg_glyph rfl rfl M7.out (g := x9) (t := 29) (cs := gA (gB a b c d) (.slice A7 (t + 1) c7) (.slice A4 np c4) (.slice A5 n c5)) (vs := (gA (gB a b c d) (.slice A7 (t + 1) c7) (.slice A4 np c4) (.slice A5 n c5)).toList) (List.mem_cons_of_mem _ List.mem_cons_self) rfl rfl) ?_)
                | ((with_reducible refine gateSt (t := 29) (p := 8) rfl ?_); refine wpList_store_all (n := 7) (L1 := [.row 38 1 (.slice A7 (t + 1) c7) ((t + 1)) (ints .u16 (es ++ [(n : Int) - 1])), .blk x9 29 (gA (gB a b c d) (.slice A7 (t + 1) c7) (.slice A4 np c4) (.slice A5 n c5)), .row 37 3 (.slice A5 n c5) n (spC qs), .row 5 1 (.slice A4 np c4) np (ints .u8 pr)]) (mid := (gA (gB 0 0 0 0) (.slice none 0 0) (.slice none 0 0) (.slice none 0 0)).toList) (vs := (gA (gB a b c d) (.slice A7 (t + 1) c7) (.slice A4 np c4) (.slice A5 n c5)).toList) rfl rfl (by kernel_rfl) rfl rfl rfl rfl rfl (one_all rfl) M7.out ?_; intro w9 M; (have M9 := hid M); clear M))
              refine bodyPost_ret (v := .agg (gA (gB a b c d) (.slice A7 (t + 1) c7) (.slice A4 np c4) (.slice A5 n c5))) (results_agg (p := 8) rfl agg_glyph _ (by rfl) (M9.out.heap (g := x8) (t := 29) (List.mem_cons_of_mem _ (List.mem_cons_of_mem _ (List.mem_cons_of_mem _ (List.mem_cons_of_mem _ List.mem_cons_self))))) rfl) rfl (.mk ?_)
              refine ⟨(⟨a, b, c, d, es ++ [(n : Int) - 1], pr, qs⟩ : Sg), .slice A7 (t + 1) c7, .slice A4 np c4, .slice A5 n c5, ⟨ha, hb, hc, hd, hU2.out, hBx.out, hpt.out.1⟩, rfl, rfl, rfl, rfl, rfl, hpt.out.2.2.symm, by show (es ++ [(n : Int) - 1]).length ≤ 41; rw [hes2]; (try omega), rfl, ?_⟩
              show Own w _ [.row 38 1 (.slice A7 (t + 1) c7) (es ++ [(n : Int) - 1]).length (ints .u16 (es ++ [(n : Int) - 1])), .row 5 1 (.slice A4 np c4) pr.length (ints .u8 pr), .row 37 3 (.slice A5 n c5) qs.length (spC qs)]
              rw [hes2, hnpH.out, hpt.out.2.1]
              exact (M9.out.sub (L' := [.row 38 1 (.slice A7 (t + 1) c7) ((t + 1)) (ints .u16 (es ++ [(n : Int) - 1])), .row 37 3 (.slice A5 n c5) n (spC qs), .row 5 1 (.slice A4 np c4) np (ints .u8 pr)]) (by simp)).perm (List.Perm.cons _ (List.Perm.swap _ _ _))
            · go_wp2_with (first
                | ((with_reducible refine gate (N := 85) rfl ?_); (have M7 : Hid (Own w _ [.row 38 1 (.slice (some ad) t ce) (t) (ints .u16 (es)), .blk x9 29 (gA (gB a b c d) (.slice (some ad) t ce) (.slice A4 np c4) (.slice A5 n c5)), .row 37 3 (.slice A5 n c5) n (spC qs), .row 5 1 (.slice A4 np c4) np (ints .u8 pr), .blk x8 29 (gA (gB 0 0 0 0) (.slice none 0 0) (.slice none 0 0) (.slice none 0 0))]) := hid (MR.out)); refine wpList_run rfl (exec_load_agg agg_glyph rfl rfl M7.out (g := x9) (t := 29) (cs := gA (gB a b c d) (.slice (some ad) t ce) (.slice A4 np c4) (.slice A5 n c5)) (vs := (gA (gB a b c d) (.slice (some ad) t ce) (.slice A4 np c4) (.slice A5 n c5)).toList) (List.mem_cons_of_mem _ List.mem_cons_self) rfl rfl) ?_)
                | ((with_reducible refine gateSt (t := 29) (p := 8) rfl ?_); refine wpList_store_all (n := 7) (L1 := [.row 38 1 (.slice (some ad) t ce) (t) (ints .u16 (es)), .blk x9 29 (gA (gB a b c d) (.slice (some ad) t ce) (.slice A4 np c4) (.slice A5 n c5)), .row 37 3 (.slice A5 n c5) n (spC qs), .row 5 1 (.slice A4 np c4) np (ints .u8 pr)]) (mid := (gA (gB 0 0 0 0) (.slice none 0 0) (.slice none 0 0) (.slice none 0 0)).toList) (vs := (gA (gB a b c d) (.slice (some ad) t ce) (.slice A4 np c4) (.slice A5 n c5)).toList) rfl rfl (by kernel_rfl) rfl rfl rfl rfl rfl (one_all rfl) M7.out ?_; intro w9 M; (have M9 := hid M); clear M))
              refine bodyPost_ret (v := .agg (gA (gB a b c d) (.slice (some ad) t ce) (.slice A4 np c4) (.slice A5 n c5))) (results_agg (p := 8) rfl agg_glyph _ (by rfl) (M9.out.heap (g := x8) (t := 29) (List.mem_cons_of_mem _ (List.mem_cons_of_mem _ (List.mem_cons_of_mem _ (List.mem_cons_of_mem _ List.mem_cons_self))))) rfl) rfl (.mk ?_)
              refine ⟨(⟨a, b, c, d, es, pr, qs⟩ : Sg), .slice (some ad) t ce, .slice A4 np c4, .slice A5 n c5, ⟨ha, hb, hc, hd, hU.out, hBx.out, hpt.out.1⟩, rfl, rfl, rfl, rfl, rfl, hpt.out.2.2.symm, by show (es).length ≤ 41; rw [hes]; (try omega), rfl, ?_⟩
              show Own w _ [.row 38 1 (.slice (some ad) t ce) (es).length (ints .u16 (es)), .row 5 1 (.slice A4 np c4) pr.length (ints .u8 pr), .row 37 3 (.slice A5 n c5) qs.length (spC qs)]
              rw [hes, hnpH.out, hpt.out.2.1]
              exact (M9.out.sub (L' := [.row 38 1 (.slice (some ad) t ce) (t) (ints .u16 (es)), .row 37 3 (.slice A5 n c5) n (spC qs), .row 5 1 (.slice A4 np c4) np (ints .u8 pr)]) (by simp)).perm (List.Perm.cons _ (List.Perm.swap _ _ _))
end Go.Proofs.Ytmmepjcndofnbaa
