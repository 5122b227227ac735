/- The document's glyph that bytes begin with. -/
import Derived.Test.YtmmepjcndofnbaaSimpW
import Derived.Deep.DeepCutAuto
namespace Go.Proofs.Ytmmepjcndofnbaa
open Go Go.RowKit
set_option linter.unusedVariables false
set_option linter.unusedSimpArgs false
set_option maxRecDepth 1000000

abbrev rNil : Array Value := rA 0 0 0 0 (.slice none 0 0) (.slice none 0 0) (.slice none 0 0)
section
variable {W0 w : World} {L : List Ent} {m : Nat} {zs : List Int} {R : List Value}
theorem rb_cell (M : Own W0 w (.blk m 46 (ints .i64 zs ++ R).toArray :: L)) {i : Nat} (h : i < zs.length) : w.cell? ⟨m, i, none⟩ = some (.int .i64 (zs.getD i 0)) ∧ w.frozen? ⟨m, i, none⟩ = false := by
  refine ⟨?_, M.free (.head _) i⟩
  rw [M.cell (.head _)]
  rw [List.getElem?_toArray, List.getElem?_append_left (by rw [ints_length]; exact h)]
  exact ints_get .i64 zs i h
theorem rb_set (M : Own W0 w (.blk m 46 (ints .i64 zs ++ R).toArray :: L)) {i : Nat} (h : i < zs.length) (x : Int) : Own W0 (w.setCell ⟨m, i, none⟩ (.int .i64 x)) (.blk m 46 (ints .i64 (zs.set i x) ++ R).toArray :: L) := by
  have := M.set (L1 := []) i (.int .i64 x)
  rw [List.nil_append, List.setIfInBounds_toArray, List.set_append_left _ _ (by rw [ints_length]; exact h)] at this
  have e : (ints .i64 zs).set i (.int .i64 x) = ints .i64 (zs.set i x) := by unfold ints; rw [List.map_set]
  rwa [e] at this
end
/-- The points, of which only X is known. -/
def pxs (fl xs : List Int) (t : Nat) : List (Int × Int × Bool) := (List.range t).map fun i => (xs.getD i 0, 0, bitB (fl.getD i 0) 1)
theorem pxs_length (fl xs : List Int) (t : Nat) : (pxs fl xs t).length = t := by simp [pxs]
theorem pxs_succ (fl : List Int) {xs : List Int} {t : Nat} (h : xs.length = t) (x : Int) : pxs fl (xs ++ [x]) (t + 1) = pxs fl xs t ++ [(x, 0, bitB (fl.getD t 0) 1)] := by
  unfold pxs
  rw [List.range_succ, List.map_append, List.map_cons, List.map_nil]
  congr 1
  · refine List.map_congr_left fun i hi => ?_
    have := List.mem_range.1 hi
    rw [getD_app (by omega)]
  · simp [List.getD, List.getElem?_append_right, h]
theorem pxs_all {fl xs : List Int} {t : Nat} (h : fl.length = t) : pxs fl xs t = ptsOf fl xs [] := by unfold pxs ptsOf; rw [h]; simp
theorem pts_at {fl xs ys : List Int} {i : Nat} (h : i < fl.length) : pX (ptsOf fl xs ys) i = xs.getD i 0 ∧ pY (ptsOf fl xs ys) i = ys.getD i 0 ∧ pO (ptsOf fl xs ys) i = bitB (fl.getD i 0) 1 := by
  simp [pX, pY, pO, ptsOf, List.getD, h]
theorem pts_length (fl xs ys : List Int) : (ptsOf fl xs ys).length = fl.length := by simp [ptsOf]
theorem pts_set {fl xs ys : List Int} {t : Nat} (ht : ys.length = t) (h : t < fl.length) (y : Int) : (dpC (ptsOf fl xs ys)).set (t * 3 + 1) (.int .i64 y) = dpC (ptsOf fl xs (ys ++ [y])) := by
  apply List.ext_getElem?
  intro k
  obtain ⟨i, r, hr, rfl⟩ : ∃ i r, r < 3 ∧ k = i * 3 + r := ⟨k / 3, k % 3, by omega, by omega⟩
  rw [List.getElem?_set]
  by_cases hi : i < fl.length
  · obtain ⟨a1, a2, a3⟩ := dpC_get (ptsOf fl xs ys) i (by rw [pts_length]; exact hi)
    obtain ⟨b1, b2, b3⟩ := dpC_get (ptsOf fl xs (ys ++ [y])) i (by rw [pts_length]; exact hi)
    obtain ⟨c1, c2, c3⟩ := pts_at (xs := xs) (ys := ys) hi
    obtain ⟨d1, d2, d3⟩ := pts_at (xs := xs) (ys := ys ++ [y]) hi
    rw [c1] at a1; rw [c2] at a2; rw [c3] at a3; rw [d1] at b1; rw [d2] at b2; rw [d3] at b3
    rcases (show r = 0 ∨ r = 1 ∨ r = 2 by omega) with rfl | rfl | rfl
    · rw [if_neg (by omega), Nat.add_zero, a1, b1]
    · by_cases e : i = t
      · subst e
        rw [if_pos rfl, if_pos (by rw [dpC_length, pts_length]; omega), b2]
        congr 2
        simp [List.getD, ← ht]
      · rw [if_neg (by omega), a2, b2]
        congr 2
        by_cases hl : i < ys.length
        · rw [getD_app hl]
        · simp [List.getD, List.getElem?_eq_none (show ys.length ≤ i by omega), List.getElem?_eq_none (show (ys ++ [y]).length ≤ i by simp; omega)]
    · rw [if_neg (by omega), a3, b3]
  · rw [if_neg (by omega), List.getElem?_eq_none (by rw [dpC_length, pts_length]; omega), List.getElem?_eq_none (by rw [dpC_length, pts_length]; omega)]
/-- What is parsed by the document. -/
def RefParseP (w : World) (l : List Int) (r : Value) (w' : World) : Prop :=
  (∃ (g : Sg) (n : Nat) (ve vp vs : Value), parseS l = some (g, n) ∧ r = .tuple #[.agg (rA g.b0 g.b1 g.b2 g.b3 ve vp vs), .int .i64 n, .bool true] ∧ Own w w' [.row 3 1 ve g.ends.length (ints .i64 g.ends), .row 5 1 vp g.prog.length (ints .u8 g.prog), .row 66 3 vs g.pts.length (dpC g.pts)]) ∨
  (parseS l = none ∧ r = .tuple #[.agg rNil, .int .i64 0, .bool false] ∧ Below w.heap.size w w')
theorem parseS_head {l : List Int} (hB : Bytes l) (h : ¬ (n2 l 0 ≤ 32767 ∧ 12 + 2 * (n2 l 0).toNat ≤ l.length)) : parseS l = none := by
  have hb := n2_bound hB 0
  have hH : headB l = false := by
    rw [Bool.eq_false_iff]
    intro hc
    unfold headB pN at hc
    simp only [Bool.and_eq_true, decide_eq_true_eq] at hc
    exact h ⟨by omega, hc.2.1⟩
  unfold parseS; rw [hH]; rfl
set_option maxHeartbeats 8000000 in
theorem refParse_calls12 (w : World) {V : Value} {l : List Int} (h1 : BytesAt w V l) (hB : Bytes l) (hn : l.length ≤ 140737488355328) :
    Calls Try.prog 21 #[V] w (Ret fun r w' => RefParseP w l r w') := by
  have M0 := hid (Own.start w)
  have h1H := hid h1
  have hN2 := hid (fun w1 (h : Below w.heap.size w w1) (a : Nat) (ha : a ≤ 4611686018427387904) => N2_calls w1 a ha hB (h1.below h))
  obtain ⟨A, C, rfl, hc1, hm1, -⟩ := h1
  unfold maxLen at hm1
  have hBH := hid hB
  obtain ⟨nb0, nb1⟩ := n2_bound hB 0
  obtain ⟨N, hN⟩ : ∃ N : Nat, n2 l 0 = N := ⟨(n2 l 0).toNat, by omega⟩
  have hN2a := hid (fun w1 (h : Below w.heap.size w w1) => show Calls Try.prog 47 #[.slice A l.length C, .int .i64 0] w1 (Ret fun r w' => r = .tuple #[.int .i64 (n2 l 0), .bool (decide (2 ≤ l.length))] ∧ Below w1.heap.size w1 w') from hN2.out w1 h 0 (by omega))
  rw [hN] at nb0 nb1 hN2a
  replace hN := hid hN
  have hwN1 : IntKind.i64.wrap (2 * (N : Int)) = 2 * N := IntWalk.i64_in _ (by omega)
  have hwN2 : IntKind.i64.wrap (12 + 2 * (N : Int)) = 12 + 2 * N := IntWalk.i64_in _ (by omega)
  clear nb0
  replace nb1 := hid nb1
  obtain ⟨n, hln⟩ : ∃ n, l.length = n := ⟨_, rfl⟩
  rw [hln] at hN2 hN2a hc1 hn ⊢
  rw [hln] at h1H
  replace hln := hid hln
  clear hB
  by_cases hA : 2 ≤ n ∧ N ≤ 32767 ∧ 12 + 2 * N ≤ n
  · obtain ⟨q1, q2', q3'⟩ := hA
    have q2 : decide ((32767 : Int) < N) = false := decide_eq_false (by omega)
    have q3 : decide ((n : Int) < 12 + 2 * (N : Int)) = false := decide_eq_false (by omega)
    have q23 := hid (show N ≤ 32767 ∧ 12 + 2 * N ≤ n from ⟨q2', q3'⟩)
    clear q2' q3'
    have hr0 := h1H.out
    obtain ⟨A', C', he, -, -, -, hrd⟩ := hr0
    (injection he with he1 he2 he3); subst he1 he3
    obtain ⟨ad, rfl, -, -⟩ := hrd.2 (by omega)
    have hRd := hid (fun w1 (h : Below w.heap.size w w1) (p : Nat) (hp : p < n) => show w1.cell? (ad.add p) = some (.int .u8 (l.getD p 0)) from by
      obtain ⟨ad', e, hc⟩ := (hrd.keep (w' := w1) fun k hk _ => h.block k hk).cell (ints_get .u8 l p (by rw [hln.out]; exact hp))
      injection e with e; subst e; exact hc)
    clear he2 hrd
    go_enter Try.func21, Try.ntmps21
    go_wp2_with (first
      | ((with_reducible refine gate (N := 2) rfl ?_); refine wpList_box_Own rfl (cs := rNil) (t := 46) (by first | (go_simp; done) | (go_simp; rfl)) M0.out ?_; intro m0 w1 M; (have M1 := hid M); clear M)
      | ((with_reducible refine gate (N := 5) rfl ?_); refine wpList_box_Own rfl (cs := rNil) (t := 46) (by first | (go_simp; done) | (go_simp; rfl)) M1.out ?_; intro m w2 M; (have M2 := hid M); clear M)
      | (go_at_call 47; (with_reducible refine (hN2a.out _ M2.out.below).mono ?_); rintro _ w3 ⟨_, rfl, rfl, hb⟩; (have M3 := hid (M2.out.keep hb)); clear hb))
    have hsg := hid (show sgn (n2 l 0) = N from by rw [hN.out]; unfold sgn; rw [if_neg (by have := q23.out; omega)])
    replace q2 := hid q2
    replace q3 := hid q3
    clear M1 M2 hN2a
    go_loopw [8] (fun i wr => ∃ (j : Nat), j ≤ 4 ∧ i = .int .i64 j ∧ Hid (Own w wr [.blk m 46 (ints .i64 (boxK l j) ++ nil3).toArray, .blk m0 46 rNil])) (fun i _ => 4 - (intOf i).toNat)
    case atStart => exact ⟨0, Nat.zero_le _, rfl, M3⟩
    case round =>
      clear M3
      obtain ⟨j, hj, rfl, MR⟩ := hrel
      by_cases hlt : j < 4
      · have hNj := hid (fun w1 (h : Below w.heap.size w w1) => show Calls Try.prog 47 #[.slice (some ad) n C, .int .i64 (2 + 2 * (j : Int))] w1 _ from hN2.out w1 h (2 + 2 * j) (by omega))
        obtain ⟨z0, z1⟩ := n2_bound hBH.out (2 + 2 * j)
        have hset := hid (boxK_set l hlt)
        have hw1 : IntKind.i64.wrap (2 * (j : Int)) = 2 * j := IntWalk.i64_in _ (by omega)
        have hw2 : IntKind.i64.wrap (2 + 2 * (j : Int)) = 2 + 2 * j := IntWalk.i64_in _ (by omega)
        generalize n2 l (2 + 2 * j) = z at *
        generalize decide (2 + 2 * j + 2 ≤ n) = d at *
        -- <B
        go_wp2_with (first
          | (go_at_call 47; (with_reducible refine (hNj.out _ MR.out.below).mono ?_); rintro _ w5 ⟨_, rfl, rfl, hb⟩; ((have M5 := hid (MR.out.keep hb))); (clear hb))
          | (go_at_call 48; (with_reducible refine (Sign_calls _ z0 z1).mono ?_); rintro _ w6 ⟨_, rfl, rfl, rfl⟩; obtain ⟨cx, fx⟩ := rb_cell (i := j) M5.out (by rw [boxK_length l (by omega)]; omega)))
        go_roundw
        case rel => exact ⟨j + 1, by omega, by go_num, hid (by rw [← hset.out]; exact rb_set M5.out (by rw [boxK_length l (by omega)]; omega) _)⟩
        case measure => simp [intOf] <;> omega
        -- B>
      · obtain rfl : j = 4 := by omega
        have M10 : Hid (Own w wr [.blk m 46 (rA (sgn (n2 l 2)) (sgn (n2 l 4)) (sgn (n2 l 6)) (sgn (n2 l 8)) (.slice none 0 0) (.slice none 0 0) (.slice none 0 0)), .blk m0 46 rNil]) := MR
        clear MR
        obtain ⟨b0, hb0⟩ : ∃ b, sgn (n2 l 2) = b := ⟨_, rfl⟩
        obtain ⟨b1, hb1⟩ : ∃ b, sgn (n2 l 4) = b := ⟨_, rfl⟩
        obtain ⟨b2, hb2⟩ : ∃ b, sgn (n2 l 6) = b := ⟨_, rfl⟩
        obtain ⟨b3, hb3⟩ : ∃ b, sgn (n2 l 8) = b := ⟨_, rfl⟩
        rw [hb0, hb1, hb2, hb3] at M10
        have hbx := hid (show (⟨sgn (n2 l 2), sgn (n2 l 4), sgn (n2 l 6), sgn (n2 l 8), [], [], []⟩ : Sg) = ⟨b0, b1, b2, b3, [], [], []⟩ by rw [hb0, hb1, hb2, hb3])
        clear hb0 hb1 hb2 hb3
        go_wp2
        go_loopw [11, 12] (fun o i wr => ∃ (j : Nat), j ≤ N ∧ i = .int .i64 j ∧ o = .int .i64 (nP (u16s l 10 N) j) ∧ Hid (riseB (u16s l 10 N) j = true) ∧ Hid (∃ (B : Option Addr) (d : Nat), Own w wr [.row 3 1 (.slice B j d) j (ints .i64 (u16s l 10 j)), .blk m 46 (rA b0 b1 b2 b3 (.slice B j d) (.slice none 0 0) (.slice none 0 0)), .blk m0 46 rNil])) (fun _ i _ => N - (intOf i).toNat)
        case atStart => exact ⟨0, Nat.zero_le _, rfl, rfl, hid (decide_eq_true fun i hi => by omega), hid ⟨none, 0, M10.out.nil_row 3 1⟩⟩
        case round =>
          clear M10
          obtain ⟨j, hj, rfl, rfl, hr, hM⟩ := hrel
          obtain ⟨B, d, MR⟩ := hM.out
          clear hM
          replace MR := hid MR
          have hpb := hid (show 0 ≤ nP (u16s l 10 N) j ∧ nP (u16s l 10 N) j ≤ 65536 from by
            cases j with
            | zero => exact ⟨Int.le_refl _, by show (0 : Int) ≤ _; omega⟩
            | succ j =>
              have := n2_bound hBH.out (10 + 2 * j)
              show 0 ≤ (u16s l 10 N).getD j 0 + 1 ∧ (u16s l 10 N).getD j 0 + 1 ≤ 65536
              rw [u16s_get _ _ _ _ (by omega)]; omega)
          obtain ⟨pp, hp⟩ : ∃ p, nP (u16s l 10 N) j = p := ⟨_, rfl⟩
          rw [hp] at hpb ⊢
          obtain ⟨p0, p1⟩ := hpb.out
          replace hp := hid hp
          by_cases hlt : j < N
          · have hjb : j < 65536 := by have := q23.out; omega
            -- <E
            have hNj := hid (fun w1 (h : Below w.heap.size w w1) => show Calls Try.prog 47 #[.slice (some ad) n C, .int .i64 (10 + 2 * (j : Int))] w1 _ from hN2.out w1 h (10 + 2 * j) (by have := q23.out; omega))
            obtain ⟨z0, z1⟩ := n2_bound hBH.out (10 + 2 * j)
            have hy := hid (show (u16s l 10 N).getD j 0 = n2 l (10 + 2 * j) from u16s_get _ _ _ _ hlt)
            have hU := hid (u16s_succ l 10 j)
            generalize n2 l (10 + 2 * j) = z at *
            generalize decide (10 + 2 * j + 2 ≤ n) = dd at *
            have hrs := hid (show ¬ z < pp → riseB (u16s l 10 N) (j + 1) = true from fun hge => by rw [riseB_succ, hr.out, hp.out, hy.out]; simp; omega)
            have hno := hid (show z < pp → parseS l = none from fun h => parseS_ends hBH.out (n := N) (N := N) hsg.out (by omega) (by omega) (fun f => by
              have := of_decide_eq_true f.1 j hlt
              rw [hy.out, hp.out] at this; omega))
            have hnx := hid (show nP (u16s l 10 N) (j + 1) = z + 1 from by rw [← hy.out]; rfl)
            have hwj1 : IntKind.i64.wrap (2 * (j : Int)) = 2 * j := IntWalk.i64_in _ (by have := q23.out; omega)
            have hwj2 : IntKind.i64.wrap (10 + 2 * (j : Int)) = 10 + 2 * j := IntWalk.i64_in _ (by have := q23.out; omega)
            by_cases q4 : z < pp
            · have hnone := hno.out q4
              have MF' := hid (MR.out.sub (L' := [.blk m0 46 rNil]) (by simp))
              clear hno hrs hnx
              go_upto_region 16 with (go_at_call 47; (with_reducible refine (hNj.out _ MR.out.below).mono ?_); rintro _ w5 ⟨_, rfl, rfl, hb⟩; (have MF := hid (MF'.out.keep hb)); clear hb)
              go_wp2_with (first
                | ((with_reducible refine gateSt (t := 46) (p := 2) rfl ?_); refine wpList_store_all (n := 7) (L1 := []) (mid := rNil.toList) (vs := rNil.toList) rfl rfl (by kernel_rfl) rfl rfl rfl rfl rfl (one_all rfl) MF.out ?_; intro w18 M; (have M18 := hid M); clear M)
                | (refine bodyPost_ret (v := .tuple #[.agg rNil, .int .i64 0, .bool false]) ?_ rfl (Ret.mk (.inr ⟨hnone, rfl, M18.out.below⟩)); exact results_agg_tmps2 (p := 2) (q := 3) (s := 4) rfl agg_ref _ (by rfl) (M18.out.heap (.head _)) rfl))
            · go_wp2_with (first
                | (go_at_call 47; (with_reducible refine (hNj.out _ MR.out.below).mono ?_); rintro _ w5 ⟨_, rfl, rfl, hb⟩; (have M5 := hid (MR.out.keep hb)); clear hb; obtain ⟨⟨-, -, -, -, r4, -, -⟩, -⟩ := r_cells (m := m) (a := b0) (b := b1) (c := b2) (d := b3) (ve := .slice B j d) (vp := .slice none 0 0) (vs := .slice none 0 0) M5.out (by simp))
                | (at_builtin; refine wpList_append_Own rfl (.tmp 89) (.tmp 91) _ rfl sized_intH rfl rfl (L1 := [.blk w5.heap.size 3 #[.int .i64 z]]) (L2 := [.blk m 46 (rA b0 b1 b2 b3 (.slice B j d) (.slice none 0 0) (.slice none 0 0)), .blk m0 46 rNil]) (M5.out.alloc _ _) (SliceAt.built (M5.out.alloc _ _) (.head _) 1 1 rfl (by unfold maxLen; omega)) (one_all rfl) ((by have := q23.out; unfold maxLen; omega)) ((by have := q23.out; omega)) ?_; intro v' w' M'; obtain ⟨A7, c7, rfl⟩ := M'.tail.form (.head _); obtain ⟨⟨-, -, -, -, r4', -, -⟩, -, -, -, -, f4', -, -⟩ := r_cells (m := m) (a := b0) (b := b1) (c := b2) (d := b3) (ve := .slice B j d) (vp := .slice none 0 0) (vs := .slice none 0 0) M' (by simp); (have M7 := hid M'.tail); clear M'))
              go_roundw
              case rel =>
                refine ⟨_, _, _, _, ?_, rfl, rfl, rfl, rfl⟩
                exact ⟨j + 1, by omega, by go_num, by rw [hnx.out], hrs.out q4, hid ⟨A7, c7, by rw [hU.out, ints_append]; exact M7.out.set (L1 := [_]) 4 (.slice A7 (j + 1) c7)⟩⟩
              case measure => simp [intOf] <;> omega
            -- E>
          · obtain rfl : j = N := by omega
            have hjb : j < 65536 := by have := q23.out; omega
            obtain ⟨z, hz⟩ : ∃ z : Nat, n2 l (10 + 2 * j) = z := ⟨(n2 l (10 + 2 * j)).toNat, by have := n2_bound hBH.out (10 + 2 * j); omega⟩
            have hz1 : z < 65536 := by have := n2_bound hBH.out (10 + 2 * j); omega
            have hNz := hid (fun w1 (h : Below w.heap.size w w1) => show Calls Try.prog 47 #[.slice (some ad) n C, .int .i64 (10 + 2 * (j : Int))] w1 (Ret fun r w' => r = .tuple #[.int .i64 z, .bool (decide (10 + 2 * j + 2 ≤ n))] ∧ Below w1.heap.size w1 w') from hz ▸ hN2.out w1 h (10 + 2 * j) (by omega))
            obtain ⟨Q, hQ⟩ : ∃ Q : Nat, pp = Q := ⟨pp.toNat, by omega⟩
            subst hQ
            have hQle : Q ≤ 65536 := by omega
            have hps := hid (parseS_of (N := j) (z := z) (Q := Q) hsg.out (by omega) (by omega) hz hp.out hr.out hBH.out)
            rw [hln.out] at hps
            have hwj1 : IntKind.i64.wrap (10 + 2 * (j : Int)) = 10 + 2 * j := IntWalk.i64_in _ (by omega)
            have hwj2 : IntKind.i64.wrap (12 + 2 * (j : Int) + z) = 12 + 2 * j + z := IntWalk.i64_in _ (by omega)
            clear hz hr hp p0 p1
            generalize decide (10 + 2 * j + 2 ≤ n) = dd at *
            by_cases q5 : n < 12 + 2 * j + z
            · -- <P
              have hnone : parseS l = none := by rw [hps.out, if_neg (by omega)]
              have q6 : decide ((n : Int) < 12 + 2 * (j : Int) + z) = true := decide_eq_true (by omega)
              have MF' := hid (MR.out.sub (L' := [.blk m0 46 rNil]) (by simp))
              clear q5
              go_upto_region 21 with (go_at_call 47; (with_reducible refine (hNz.out _ MR.out.below).mono ?_); rintro _ w5 ⟨_, rfl, rfl, hb⟩; (have MF := hid (MF'.out.keep hb)); clear hb)
              go_wp2_with (first
                | ((with_reducible refine gateSt (t := 46) (p := 2) rfl ?_); refine wpList_store_all (n := 7) (L1 := []) (mid := rNil.toList) (vs := rNil.toList) rfl rfl (by kernel_rfl) rfl rfl rfl rfl rfl (one_all rfl) MF.out ?_; intro w18 M; (have M18 := hid M); clear M)
                | (refine bodyPost_ret (v := .tuple #[.agg rNil, .int .i64 0, .bool false]) ?_ rfl (Ret.mk (.inr ⟨hnone, rfl, M18.out.below⟩)); exact results_agg_tmps2 (p := 2) (q := 3) (s := 4) rfl agg_ref _ (by rfl) (M18.out.heap (.head _)) rfl))
              -- P>
            · have q6 : decide ((n : Int) < 12 + 2 * (j : Int) + z) = false := decide_eq_false (by omega)
              have hk := hid (show 12 + 2 * j + z ≤ n by omega)
              clear q5
              have hPart := hid (fun w1 (h : Below w.heap.size w w1) => show Calls Try.prog 49 #[.slice (some ad) n C, .int .i64 (12 + 2 * (j : Int)), .int .i64 (12 + 2 * (j : Int) + z)] w1 _ from part_calls w1 (12 + 2 * j) (12 + 2 * j + z) (by omega) (by omega) (h1H.out.below h) (by rw [hln.out]; omega))
              have hcut : (l.take (12 + 2 * j + z)).drop (12 + 2 * j) = (l.drop (12 + 2 * j)).take z := by rw [List.drop_take]; congr 1; omega
              rw [hcut] at hPart
              obtain ⟨pb, hpb2⟩ : ∃ pb, (l.drop (12 + 2 * j)).take z = pb := ⟨_, rfl⟩
              rw [hpb2] at hPart hps
              obtain ⟨np, hnp⟩ : ∃ np, pb.length = np := ⟨_, rfl⟩
              rw [hnp] at hPart
              replace hnp := hid hnp
              replace hpb2 := hid hpb2
              clear hcut
              go_wp2_with (first
                | (go_at_call 47; (with_reducible refine (hNz.out _ MR.out.below).mono ?_); rintro _ w5 ⟨_, rfl, rfl, hb⟩; (have M5 := hid (MR.out.keep hb)); clear hb)
                | (go_at_call 49; (with_reducible refine (hPart.out _ M5.out.below).mono ?_); rintro _ w6 ⟨vp, rfl, M⟩; obtain ⟨Ap, cp, rfl⟩ := M.form (.head _); (have M6 := hid (M5.out.lift M)); clear M; obtain ⟨⟨-, -, -, -, -, r5, -⟩, -, -, -, -, -, f5, -⟩ := r_cells (m := m) (a := b0) (b := b1) (c := b2) (d := b3) (ve := .slice B j d) (vp := .slice none 0 0) (vs := .slice none 0 0) M6.out (by simp)))
              have M7 : Hid (Own w (w6.setCell ⟨m, 5, none⟩ (.slice Ap np cp)) [.row 5 1 (.slice Ap np cp) np (ints .u8 pb), .row 3 1 (.slice B j d) j (ints .i64 (u16s l 10 j)), .blk m 46 (rA b0 b1 b2 b3 (.slice B j d) (.slice Ap np cp) (.slice none 0 0)), .blk m0 46 rNil]) := hid (M6.out.set (L1 := [_, _]) 5 (.slice Ap np cp))
              clear M6 M5 MR r5 f5 hPart hNz q6 hwj1 hwN1 hwN2 hwj2
              obtain ⟨k0, hk0⟩ : ∃ k0, 12 + 2 * j + z = k0 := ⟨_, rfl⟩
              rw [hk0] at hps hk
              have hk0c : (12 + 2 * (j : Int) + z) = k0 := by omega
              rw [hk0c]
              clear hk0 hk0c
              go_loopw [17, 18] (fun p o wr => ∃ (e m2 : Nat) (A2 : Option Addr) (c2 : Nat), p = .int .i64 e ∧ o = .slice A2 m2 c2 ∧ m2 ≤ Q ∧ e ≤ n ∧ Hid (∃ done, done.length = m2 ∧ Bytes done ∧ flS l k0 Q = (flS l e (Q - m2)).map (fun r => (done ++ r.1, r.2)) ∧ Own w wr [.row 5 1 (.slice A2 m2 c2) m2 (ints .u8 done), .row 5 1 (.slice Ap np cp) np (ints .u8 pb), .row 3 1 (.slice B j d) j (ints .i64 (u16s l 10 j)), .blk m 46 (rA b0 b1 b2 b3 (.slice B j d) (.slice Ap np cp) (.slice none 0 0)), .blk m0 46 rNil])) (fun _ o _ => Q - sLen o)
              case atStart => exact ⟨k0, 0, none, 0, rfl, rfl, Nat.zero_le _, hk.out, hid ⟨[], rfl, bytes_nil, by cases flS l k0 (Q - 0) with | none => simp_all | some r => simp_all, M7.out.nil_row _ _⟩⟩
              case round =>
                clear M7
                obtain ⟨e, m2, A2, c2, rfl, rfl, hm2, hen, hR⟩ := hrel
                obtain ⟨done, hdl, hdB, hfl, MH⟩ := hR.out
                replace hdl := hid hdl
                replace hdB := hid hdB
                replace hfl := hid hfl
                replace MH := hid MH
                clear hR
                by_cases hlt : m2 < Q
                · -- <L
                  obtain ⟨x0, x1⟩ := hBH.out.get e
                  obtain ⟨y0, y1⟩ := hBH.out.get (e + 1)
                  have hE := hid (show fWid l e = if bitB (l.getD e 0) 8 then 2 else 1 from rfl)
                  have hK := hid (show fRep l e = if bitB (l.getD e 0) 8 then 1 + (l.getD (e + 1) 0).toNat else 1 from rfl)
                  have hOk := hid (show flOk l e (Q - m2) = decide (e + fWid l e ≤ n ∧ l.getD e 0 ≤ 127 ∧ fRep l e ≤ Q - m2) from by rw [← hln.out]; rfl)
                  have hS := hid (flS_pos l e (left := Q - m2) (by omega))
                  have hBit := hid (fun w1 => bit_calls w1 x0 x1 (k := 8) (by omega) (by omega))
                  have hcA := hid (fun (h : e < n) => hRd.out wr MH.out.below e h)
                  have hcB := hid (fun (h : e + 1 < n) => hRd.out wr MH.out.below (e + 1) h)
                  generalize hx : l.getD e 0 = x at *
                  generalize hy : l.getD (e + 1) 0 = y at *
                  generalize fWid l e = E at *
                  generalize fRep l e = K at *
                  generalize flOk l e (Q - m2) = ok at *
                  replace hx := hid hx
                  replace hy := hid hy
                  obtain ⟨q, rfl⟩ : ∃ q : Nat, y = q := ⟨y.toNat, by omega⟩
                  have hq256 : q < 256 := by omega
                  have hnoneH := hid (show ok = false → parseS l = none from fun h => by
                    rw [hps.out, if_pos hk.out]; unfold bodyS; rw [hfl.out, hS.out, h]; rfl)
                  have hcont := hid (show ok = true → flS l k0 Q = (flS l (e + E) (Q - (m2 + K))).map (fun r => ((done ++ List.replicate K x) ++ r.1, r.2)) from fun h => by
                    rw [hfl.out, hS.out, h, if_pos rfl, Option.map_map, Nat.sub_sub]
                    congr 1; funext r; simp)
                  have MF' := hid (MH.out.sub (L' := [.blk m0 46 rNil]) (by simp))
                  have we1 : IntKind.i64.wrap ((e : Int) + 1) = (e : Int) + 1 := IntWalk.i64_in _ (by omega)
                  have we2 : IntKind.i64.wrap ((e : Int) + 1 + 1) = (e : Int) + 1 + 1 := IntWalk.i64_in _ (by omega)
                  have wm1 : IntKind.i64.wrap ((m2 : Int) + 1) = (m2 : Int) + 1 := IntWalk.i64_in _ (by omega)
                  have wq0 : IntKind.i64.wrap (q : Int) = q := IntWalk.i64_in _ (by omega)
                  have wm2 : IntKind.i64.wrap ((m2 : Int) + 1 + q) = (m2 : Int) + 1 + q := IntWalk.i64_in _ (by omega)
                  clear hS hfl
                  obtain ⟨KX, hKX⟩ : ∃ k, K = k + 1 := ⟨K - 1, by have := hK.out; split at this <;> omega⟩
                  subst hKX
                  obtain ⟨bb, hbb⟩ : ∃ b, bitB x 8 = b := ⟨_, rfl⟩
                  rw [hbb] at hBit hE hK
                  clear hbb
                  have hKb : KX ≤ 256 := by have := hK.out; split at this <;> omega
                  have hEb : E ≤ 2 := by have := hE.out; split at this <;> omega
                  by_cases g1 : n ≤ e
                  · have hnone := hnoneH.out (by rw [hOk.out]; exact decide_eq_false (by have := hE.out; split at this <;> omega))
                    have MF := MF'
                    clear hcA hcB
                    go_wp2_with (first
                      | ((with_reducible refine gateSt (t := 46) (p := 2) rfl ?_); refine wpList_store_all (n := 7) (L1 := []) (mid := rNil.toList) (vs := rNil.toList) rfl rfl (by kernel_rfl) rfl rfl rfl rfl rfl (one_all rfl) MF.out ?_; intro w18 M; (have M18 := hid M); clear M)
                      | (refine bodyPost_ret (v := .tuple #[.agg rNil, .int .i64 0, .bool false]) ?_ rfl (Ret.mk (.inr ⟨hnone, rfl, M18.out.below⟩)); exact results_agg_tmps2 (p := 2) (q := 3) (s := 4) rfl agg_ref _ (by rfl) (M18.out.heap (.head _)) rfl))
                  · have hce := hcA.out (by omega)
                    go_upto_if 137 with (go_at_call 50; (with_reducible refine (hBit.out _).mono ?_); rintro _ _ ⟨_, rfl, rfl, rfl⟩)
                    go_cut [17, 20] (fun a b wx => a = .int .i64 ((e : Int) + E) ∧ b = .int .i64 (KX : Int) ∧ e + E ≤ n ∧ wr = wx)
                    case first =>
                      cases bb
                      · have hE1 : E = 1 := by rw [hE.out]; rfl
                        have hK1 : KX = 0 := by have := hK.out; simpa using this
                        replace hE1 := hid hE1
                        replace hK1 := hid hK1
                        clear hcA hcB hce
                        go_wp2
                        go_meet
                        exact ⟨by rw [hE1.out]; rfl, by rw [hK1.out]; rfl, by rw [hE1.out]; omega, rfl⟩
                      · have hE1 : E = 2 := by rw [hE.out]; rfl
                        have hK1 : KX = q := by have := hK.out; simp at this; omega
                        replace hE1 := hid hE1
                        replace hK1 := hid hK1
                        by_cases g2 : (n : Int) ≤ (e : Int) + 1
                        · have hnone := hnoneH.out (by rw [hOk.out]; exact decide_eq_false (by have := hE1.out; omega))
                          have MF := MF'
                          clear hcA hcB hce
                          go_wp2_with (first
                            | ((with_reducible refine gateSt (t := 46) (p := 2) rfl ?_); refine wpList_store_all (n := 7) (L1 := []) (mid := rNil.toList) (vs := rNil.toList) rfl rfl (by kernel_rfl) rfl rfl rfl rfl rfl (one_all rfl) MF.out ?_; intro w18 M; (have M18 := hid M); clear M)
                            | (refine bodyPost_ret (v := .tuple #[.agg rNil, .int .i64 0, .bool false]) ?_ rfl (Ret.mk (.inr ⟨hnone, rfl, M18.out.below⟩)); exact results_agg_tmps2 (p := 2) (q := 3) (s := 4) rfl agg_ref _ (by rfl) (M18.out.heap (.head _)) rfl))
                        · have hcf := hcB.out (by omega)
                          have hcf' : wr.cell? ⟨ad.block, ad.off + (e + 1), none⟩ = some (.int .u8 (q : Int)) := by simpa [Addr.add] using hcf
                          clear hcA hcB hce
                          go_wp2
                          go_meet
                          exact ⟨by rw [hE1.out]; exact congrArg (Value.int .i64) (by omega), by rw [hK1.out], by rw [hE1.out]; omega, rfl⟩
                    obtain ⟨h17, h20, hEn, hw⟩ := hcut
                    subst h17 h20 hw
                    clear hcA hcB hce hBit hE hK we1 we2 wq0 wm2
                    have wm2 : IntKind.i64.wrap ((m2 : Int) + 1 + KX) = (m2 : Int) + 1 + KX := IntWalk.i64_in _ (by omega)
                    obtain ⟨eE, heE⟩ : ∃ k, e + E = k := ⟨_, rfl⟩
                    have heE' : (e : Int) + E = eE := by omega
                    rw [heE']
                    rw [heE] at hEn hcont hOk
                    replace heE := hid heE
                    clear heE'
                    have MF := MF'
                    by_cases g3 : x > 127
                    · have hnone := hnoneH.out (by rw [hOk.out]; exact decide_eq_false (by omega))
                      clear hcont wm2 wm1
                      go_wp2_with (first
                        | ((with_reducible refine gateSt (t := 46) (p := 2) rfl ?_); refine wpList_store_all (n := 7) (L1 := []) (mid := rNil.toList) (vs := rNil.toList) rfl rfl (by kernel_rfl) rfl rfl rfl rfl rfl (one_all rfl) MF.out ?_; intro w18 M; (have M18 := hid M); clear M)
                        | (refine bodyPost_ret (v := .tuple #[.agg rNil, .int .i64 0, .bool false]) ?_ rfl (Ret.mk (.inr ⟨hnone, rfl, M18.out.below⟩)); exact results_agg_tmps2 (p := 2) (q := 3) (s := 4) rfl agg_ref _ (by rfl) (M18.out.heap (.head _)) rfl))
                    · by_cases g4 : (Q : Int) < (m2 : Int) + 1 + KX
                      · have hnone := hnoneH.out (by rw [hOk.out]; exact decide_eq_false (by omega))
                        clear hcont
                        go_wp2_with (first
                          | ((with_reducible refine gateSt (t := 46) (p := 2) rfl ?_); refine wpList_store_all (n := 7) (L1 := []) (mid := rNil.toList) (vs := rNil.toList) rfl rfl (by kernel_rfl) rfl rfl rfl rfl rfl (one_all rfl) MF.out ?_; intro w18 M; (have M18 := hid M); clear M)
                          | (refine bodyPost_ret (v := .tuple #[.agg rNil, .int .i64 0, .bool false]) ?_ rfl (Ret.mk (.inr ⟨hnone, rfl, M18.out.below⟩)); exact results_agg_tmps2 (p := 2) (q := 3) (s := 4) rfl agg_ref _ (by rfl) (M18.out.heap (.head _)) rfl))
                      · have hok := hid (show ok = true by rw [hOk.out]; exact decide_eq_true (by omega))
                        clear MF MF'
                        go_wp2
                        go_loopw [18, 21] (fun o i wr => ∃ (kk : Nat) (A3 : Option Addr) (c3 : Nat), kk ≤ KX + 1 ∧ i = .int .i64 kk ∧ o = .slice A3 (m2 + kk) c3 ∧ Hid (Own w wr [.row 5 1 (.slice A3 (m2 + kk) c3) (m2 + kk) (ints .u8 (done ++ List.replicate kk x)), .row 5 1 (.slice Ap np cp) np (ints .u8 pb), .row 3 1 (.slice B j d) j (ints .i64 (u16s l 10 j)), .blk m 46 (rA b0 b1 b2 b3 (.slice B j d) (.slice Ap np cp) (.slice none 0 0)), .blk m0 46 rNil])) (fun _ i _ => KX + 1 - (intOf i).toNat)
                        case atStart => exact ⟨0, A2, c2, Nat.zero_le _, rfl, rfl, by simpa using MH⟩
                        case round =>
                          clear MH
                          obtain ⟨kk, A3, c3, hkk, rfl, rfl, MR⟩ := hrel
                          by_cases hlt3 : kk < KX + 1
                          · have hc4 : (kk : Int) ≤ KX := by omega
                            go_wp2_with (at_builtin; refine wpList_append_Own rfl (.tmp 167) (.tmp 169) _ rfl sized_u8 rfl rfl (L1 := [.blk wr.heap.size 5 #[.int .u8 x]]) (L2 := [.row 5 1 (.slice Ap np cp) np (ints .u8 pb), .row 3 1 (.slice B j d) j (ints .i64 (u16s l 10 j)), .blk m 46 (rA b0 b1 b2 b3 (.slice B j d) (.slice Ap np cp) (.slice none 0 0)), .blk m0 46 rNil]) (MR.out.alloc _ _) (SliceAt.built (MR.out.alloc _ _) (.head _) 1 1 rfl (by unfold maxLen; omega)) (ints_one .u8 [x]) (by unfold maxLen; omega) (by omega) ?_; intro v' w' M'; obtain ⟨A7, c7, rfl⟩ := M'.tail.form (.head _); (have M7 := hid M'.tail); clear M')
                            go_roundw
                            case rel => exact ⟨kk + 1, A7, c7, by omega, by go_num, rfl, hid (by have h7 := M7.out; rw [List.replicate_succ', ← List.append_assoc, ints_append]; exact h7)⟩
                            case measure => simp [intOf] <;> omega
                          · obtain rfl : kk = KX + 1 := by omega
                            have hc4 : ¬ (((KX + 1 : Nat) : Int) ≤ KX) := by omega
                            go_wp2
                            go_roundw
                            case rel => exact ⟨eE, m2 + (KX + 1), A3, c3, by go_num, rfl, by omega, by omega, hid ⟨done ++ List.replicate (KX + 1) x, by rw [List.length_append, hdl.out, List.length_replicate], hdB.out.append (bytes_rep x0 x1 _), hcont.out hok.out, MR.out⟩⟩
                            case measure => simp [sLen] <;> omega
                  -- L>
                · obtain rfl : m2 = Q := by omega
                  have hfe : flS l k0 m2 = some (done, e) := by rw [hfl.out, Nat.sub_self, flS_zero]; simp
                  have hps2 := hid (show parseS l = ((numK l 2 16 done e m2).bind fun xx => (numK l 4 32 done xx.2.1 m2).map fun yy => ((done, xx.1, yy.1), yy.2.1)).map (fun r => (⟨b0, b1, b2, b3, u16s l 10 j, pb, ptsOf r.1.1 r.1.2.1 r.1.2.2⟩, r.2)) from by
                    have hb := hbx.out
                    simp only [Sg.mk.injEq, and_true] at hb
                    obtain ⟨h0, h1, h2, h3⟩ := hb
                    rw [hps.out, if_pos hk.out]
                    unfold bodyS
                    rw [hfe, Option.bind_some, hdl.out, h0, h1, h2, h3])
                  clear hps hfe hfl hbx hN2 q23 q2 q3 hsg hN nb1
                  go_wp2
                  go_loopw [17, 22, 173] (fun p xx i wr => ∃ (t e2 : Nat) (x : Int), t ≤ m2 ∧ i = .int .i64 t ∧ p = .int .i64 e2 ∧ xx = .int .i64 x ∧ e2 ≤ n ∧ Hid (I16 x) ∧ Hid (∃ (xs : List Int) (A3 : Option Addr) (c3 : Nat), xs.length = t ∧ numK l 2 16 done e t = some (xs, e2, x) ∧ Own w wr [.row 66 3 (.slice A3 t c3) t (dpC (pxs done xs t)), .blk m 46 (rA b0 b1 b2 b3 (.slice B j d) (.slice Ap np cp) (.slice A3 t c3)), .row 5 1 (.slice A2 m2 c2) m2 (ints .u8 done), .row 5 1 (.slice Ap np cp) np (ints .u8 pb), .row 3 1 (.slice B j d) j (ints .i64 (u16s l 10 j)), .blk m0 46 rNil])) (fun _ _ i _ => m2 - (intOf i).toNat)
                  case atStart => exact ⟨0, e, 0, Nat.zero_le _, rfl, rfl, rfl, hen, hid (by decide), hid ⟨[], none, 0, rfl, rfl, (MH.out.nil_row 66 3).perm (List.Perm.cons _ (List.perm_middle (l₁ := [_, _, _])))⟩⟩
                  case round =>
                    clear MH
                    obtain ⟨t, e2, x, ht, rfl, rfl, rfl, he2, hx, hR⟩ := hrel
                    obtain ⟨xs, A3, c3, hxl, hnum, MR⟩ := hR.out
                    replace hxl := hid hxl
                    replace hnum := hid hnum
                    replace MR := hid MR
                    clear hR
                    by_cases hlt : t < m2
                    · -- <X
                      obtain ⟨f0, f1⟩ := hdB.out.get t
                      obtain ⟨adf, hadf⟩ := MR.out.row_ad (e := 5) (A := A2) (n := m2) (c := c2) (vs := ints .u8 done) (by simp) (by omega)
                      subst hadf
                      have hcf := MR.out.at (e := 5) (k := .u8) (xs := done) (n := m2) (c := c2) (ad := adf) (by simp) hdl.out hlt rfl
                      have hNum := hid (fun w1 (h : Below w.heap.size w w1) => number_calls12 w1 (V := .slice (some ad) n C) (l := l) e2 (by omega) hBH.out (h1H.out.below h) f0 f1 (.inl ⟨rfl, rfl⟩))
                      have hnS := hid (show numK l 2 16 done e (t + 1) = (numK l 2 16 done e t).bind (nStep l 2 16 (done.getD t 0)) from rfl)
                      have hstep := hid (show nStep l 2 16 (done.getD t 0) (xs, e2, x) = if nbOk l e2 (done.getD t 0) 2 16 && fitB (x + nbV l e2 (done.getD t 0) 2 16) then some (xs ++ [x + nbV l e2 (done.getD t 0) 2 16], e2 + (chW (done.getD t 0) 2 16).toNat, x + nbV l e2 (done.getD t 0) 2 16) else none from rfl)
                      have hat := hid (nbOk_at (l := l) (p := e2) (by rw [hln.out]; exact he2) (done.getD t 0) 2 16)
                      have hch := hid (show chW (done.getD t 0) 2 16 = ((chW (done.getD t 0) 2 16).toNat : Int) from by unfold chW; split <;> (try split) <;> rfl)
                      have hBit := hid (fun w1 => bit_calls w1 f0 f1 (k := 1) (by omega) (by omega))
                      have hps1 := hid (pxs_succ done hxl.out)
                      rw [hln.out] at hat
                      obtain ⟨x0, x1⟩ := hx.out
                      have hNumP : ∀ r, NumP l e2 (done.getD t 0) 2 16 r → ∃ dn kn : Int, r = .tuple #[.int .i64 dn, .int .i64 kn, .bool (nbOk l e2 (done.getD t 0) 2 16)] ∧ -32768 ≤ dn ∧ dn < 65536 ∧ 0 ≤ kn ∧ kn ≤ 2 ∧ (nbOk l e2 (done.getD t 0) 2 16 = true → dn = nbV l e2 (done.getD t 0) 2 16 ∧ kn = chW (done.getD t 0) 2 16) := fun r h => h
                      replace hNumP := hid hNumP
                      generalize nStep l 2 16 (done.getD t 0) = stp at *
                      generalize nbOk l e2 (done.getD t 0) 2 16 = ok at *
                      generalize nbV l e2 (done.getD t 0) 2 16 = nv at *
                      generalize chW (done.getD t 0) 2 16 = cw at *
                      generalize bitB (done.getD t 0) 1 = on at *
                      generalize done.getD t 0 = f at *
                      generalize cw.toNat = cwn at *
                      have MF' := hid (MR.out.sub (L' := [.blk m0 46 rNil]) (by simp))
                      go_upto_region 46 with (go_at_call 51; (with_reducible refine (hNum.out _ MR.out.below).mono ?_); rintro _ w5 ⟨_, rfl, hP, hb⟩; obtain ⟨dn, kn, rfl, d0, d1, kn0, kn1, hok⟩ := hNumP.out _ hP; (replace hok := hid hok); (have M5 := hid (MR.out.keep hb)); (have MF := hid (MF'.out.keep hb)); clear hP hb)
                      have wz : IntKind.i64.wrap (x + dn) = x + dn := IntWalk.i64_in _ (by omega)
                      have we : IntKind.i64.wrap ((e2 : Int) + kn) = (e2 : Int) + kn := IntWalk.i64_in _ (by omega)
                      have hfit := hid (fun w1 => within_calls w1 (x + dn))
                      have hfb := hid (show fitB (x + dn) = decide (-32768 ≤ x + dn ∧ x + dn ≤ 32767) from rfl)
                      obtain ⟨z, hz⟩ : ∃ z, x + dn = z := ⟨_, rfl⟩
                      rw [hz] at wz hfit hfb
                      obtain ⟨fz, hfz⟩ : ∃ b, fitB z = b := ⟨_, rfl⟩
                      rw [hfz] at hfit hfb
                      have hno := hid (show (ok && fz) = false → parseS l = none from fun h => by
                        have h1 : numK l 2 16 done e (t + 1) = none := by
                          rw [hnS.out, hnum.out, Option.bind_some, hstep.out]
                          cases hok1 : ok
                          · rfl
                          · have := (hok.out hok1).1
                            rw [← this, hz, hfz]
                            rw [hok1] at h
                            rw [show fz = false by simpa using h]; rfl
                        rw [hps2.out, numK_none h1 m2 (by omega)]; rfl)
                      have hyes := hid (show (ok && fz) = true → kn = cwn ∧ e2 + cwn ≤ n ∧ I16 z ∧ numK l 2 16 done e (t + 1) = some (xs ++ [z], e2 + cwn, z) from fun h => by
                        rw [Bool.and_eq_true] at h
                        obtain ⟨h1, h2⟩ := h
                        obtain ⟨h3, h4⟩ := hok.out h1
                        refine ⟨by rw [h4]; exact hch.out, ?_, ?_, ?_⟩
                        · have := hat.out; rw [h1] at this; exact of_decide_eq_true this.symm
                        · rw [h2] at hfb; have h5 : -32768 ≤ z ∧ z ≤ 32767 := of_decide_eq_true hfb.out.symm; exact ⟨h5.1, by omega⟩
                        · rw [hnS.out, hnum.out, Option.bind_some, hstep.out, ← h3, hz, hfz, h1, h2]; rfl)
                      clear hNum hnS hstep hat hch hNumP hok hfb hnum hfz
                      obtain ⟨nb, hnb⟩ : ∃ b, (!(ok && fz)) = b := ⟨_, rfl⟩
                      go_upto_region 47 with fail
                      go_cut [194] (fun c wx => c = .bool nb ∧ w5 = wx)
                      case first =>
                        clear hno hyes
                        cases ok
                        · go_wp2
                          go_meet
                          exact ⟨congrArg Value.bool (by rw [← hnb]; rfl), rfl⟩
                        · go_wp2_with (go_at_call 25; (with_reducible refine (hfit.out _).mono ?_); rintro _ _ ⟨_, rfl, rfl, rfl⟩)
                          go_meet
                          exact ⟨congrArg Value.bool (by rw [← hnb]; cases fz <;> rfl), rfl⟩
                      obtain ⟨hc, hw⟩ := hcut
                      subst hc hw
                      clear hfit
                      cases nb
                      · obtain ⟨hkn, hen2, hz16, hnum2⟩ := hyes.out (by revert hnb; cases ok <;> cases fz <;> simp)
                        replace hnum2 := hid hnum2
                        subst hkn
                        clear hno hyes hnb MF MF' MR
                        have wee : IntKind.i64.wrap ((e2 : Int) + cwn) = (e2 : Int) + cwn := IntWalk.i64_in _ (by omega)
                        go_upto_region 50 with fail
                        have MW := hid M5.out.drew
                        clear M5
                        refine wp_region_until (S := fun w' => w'.cell? ⟨m, 6, none⟩ = some (.slice A3 t c3)) 9 (by kernel_rfl) (MW.out.cell (g := m) (t := 46) (cs := rA b0 b1 b2 b3 (.slice B j d) (.slice Ap np cp) (.slice A3 t c3)) (by simp) 6) (fun hHeld => ?_)
                        revert MW hHeld
                        generalize w5.drew = w6
                        intro MW hHeld
                        repeat (first | (refine wpAnyV_take (i := 0) (v := ?_) rfl (by kernel_rfl) (by decide +kernel) (by decide +kernel) [] (by decide +kernel) (by decide +kernel) (by decide) (fun _ _ _ h => h) ?_ (by assumption) ?_; rotate_left; (first | (refine yields_load (by rfl) rfl rfl ?_; intro w hSw; (try dsimp only at hSw); go_split_ands; assumption) | (refine Or.inl ⟨by rfl, ?_⟩; intro w hSw; (try dsimp only at hSw); go_simp; done) | (refine Or.inl ⟨by rfl, ?_⟩; intro w hSw; (try dsimp only at hSw); go_simp; with_reducible rfl) | exact Or.inr ⟨by rfl, rfl⟩); (try simp only [Act.put, List.setIfInBounds_toArray, List.set_cons_zero, List.set_cons_succ, List.getElem_toArray, List.getElem_cons_zero, List.getElem_cons_succ])) | (refine wpAnyV_take (i := 1) (v := ?_) rfl (by kernel_rfl) (by decide +kernel) (by decide +kernel) [] (by decide +kernel) (by decide +kernel) (by decide) (fun _ _ _ h => h) ?_ (by assumption) ?_; rotate_left; (first | (refine yields_load (by rfl) rfl rfl ?_; intro w hSw; (try dsimp only at hSw); go_split_ands; assumption) | (refine Or.inl ⟨by rfl, ?_⟩; intro w hSw; (try dsimp only at hSw); go_simp; done) | (refine Or.inl ⟨by rfl, ?_⟩; intro w hSw; (try dsimp only at hSw); go_simp; with_reducible rfl) | exact Or.inr ⟨by rfl, rfl⟩); (try simp only [Act.put, List.setIfInBounds_toArray, List.set_cons_zero, List.set_cons_succ, List.getElem_toArray, List.getElem_cons_zero, List.getElem_cons_succ])) | (refine wpAnyV_take (i := 2) (v := ?_) rfl (by kernel_rfl) (by decide +kernel) (by decide +kernel) [] (by decide +kernel) (by decide +kernel) (by decide) (fun _ _ _ h => h) ?_ (by assumption) ?_; rotate_left; (first | (refine yields_load (by rfl) rfl rfl ?_; intro w hSw; (try dsimp only at hSw); go_split_ands; assumption) | (refine Or.inl ⟨by rfl, ?_⟩; intro w hSw; (try dsimp only at hSw); go_simp; done) | (refine Or.inl ⟨by rfl, ?_⟩; intro w hSw; (try dsimp only at hSw); go_simp; with_reducible rfl) | exact Or.inr ⟨by rfl, rfl⟩); (try simp only [Act.put, List.setIfInBounds_toArray, List.set_cons_zero, List.set_cons_succ, List.getElem_toArray, List.getElem_cons_zero, List.getElem_cons_succ])) | (refine wpAnyV_take (i := 3) (v := ?_) rfl (by kernel_rfl) (by decide +kernel) (by decide +kernel) [] (by decide +kernel) (by decide +kernel) (by decide) (fun _ _ _ h => h) ?_ (by assumption) ?_; rotate_left; (first | (refine yields_load (by rfl) rfl rfl ?_; intro w hSw; (try dsimp only at hSw); go_split_ands; assumption) | (refine Or.inl ⟨by rfl, ?_⟩; intro w hSw; (try dsimp only at hSw); go_simp; done) | (refine Or.inl ⟨by rfl, ?_⟩; intro w hSw; (try dsimp only at hSw); go_simp; with_reducible rfl) | exact Or.inr ⟨by rfl, rfl⟩); (try simp only [Act.put, List.setIfInBounds_toArray, List.set_cons_zero, List.set_cons_succ, List.getElem_toArray, List.getElem_cons_zero, List.getElem_cons_succ])))
                        refine wpAnyV_ready (rs := [4]) (by decide +kernel) (by simp) ?_; refine (AllReadyV.cons rfl (by decide) (fun K hK => ?_) AllReadyV.nil)
                        go_simp
                        refine (hBit.out _).mono ?_
                        rintro _ _ ⟨_, rfl, rfl, rfl⟩
                        go_wp2_with fail
                        refine hK.out _ _ hHeld (fun hHeld => ?_); clear hK K; (try simp only [Act.put, List.setIfInBounds_toArray, List.set_cons_zero, List.set_cons_succ, List.getElem_toArray, List.getElem_cons_zero, List.getElem_cons_succ])
                        repeat (first | (refine wpAnyV_take (i := 5) (v := ?_) rfl (by kernel_rfl) (by decide +kernel) (by decide +kernel) [] (by decide +kernel) (by decide +kernel) (by decide) (fun _ _ _ h => h) ?_ (by assumption) ?_; rotate_left; (first | (refine yields_load (by rfl) rfl rfl ?_; intro w hSw; (try dsimp only at hSw); go_split_ands; assumption) | (refine Or.inl ⟨by rfl, ?_⟩; intro w hSw; (try dsimp only at hSw); go_simp; done) | (refine Or.inl ⟨by rfl, ?_⟩; intro w hSw; (try dsimp only at hSw); go_simp; with_reducible rfl) | exact Or.inr ⟨by rfl, rfl⟩); (try simp only [Act.put, List.setIfInBounds_toArray, List.set_cons_zero, List.set_cons_succ, List.getElem_toArray, List.getElem_cons_zero, List.getElem_cons_succ])))
                        refine wpAnyV_ready (rs := [6]) (by decide +kernel) (by simp) ?_; refine (AllReadyV.cons rfl (by decide) (fun K hK => ?_) AllReadyV.nil)
                        go_simp
                        have M3 := hid (MW.out.alloc 66 #[.int .i64 z, .int .i64 0, .bool on])
                        have hc := M3.out.cell (g := m) (t := 46) (cs := rA b0 b1 b2 b3 (.slice B j d) (.slice Ap np cp) (.slice A3 t c3)) (by simp) 6
                        refine hK.out _ _ hc (fun hHeld => ?_); clear hK K; (try simp only [Act.put, List.setIfInBounds_toArray, List.set_cons_zero, List.set_cons_succ, List.getElem_toArray, List.getElem_cons_zero, List.getElem_cons_succ])
                        clear hc
                        refine wpAnyV_ready (rs := [7]) (by decide +kernel) (by simp) ?_; refine (AllReadyV.cons rfl (by decide) (fun K hK => ?_) AllReadyV.nil)
                        refine step_append_Own (by rfl) (.tmp 200) (.tmp 205) _ rfl sized_rsp rfl rfl (L1 := [.blk w6.heap.size 66 #[.int .i64 z, .int .i64 0, .bool on]]) (L2 := [.blk m 46 (rA b0 b1 b2 b3 (.slice B j d) (.slice Ap np cp) (.slice A3 t c3)), .row 5 1 (.slice (some adf) m2 c2) m2 (ints .u8 done), .row 5 1 (.slice Ap np cp) np (ints .u8 pb), .row 3 1 (.slice B j d) j (ints .i64 (u16s l 10 j)), .blk m0 46 rNil]) M3.out (SliceAt.built M3.out (.head _) 3 1 rfl (by unfold maxLen; omega)) (one_all rfl) (by unfold maxLen; omega) (by omega) ?_
                        intro v' w' M'
                        obtain ⟨A7, c7, rfl⟩ := M'.tail.form (.head _)
                        have M7 := hid M'.tail
                        clear M' M3 MW
                        have hc := M7.out.cell (g := m) (t := 46) (cs := rA b0 b1 b2 b3 (.slice B j d) (.slice Ap np cp) (.slice A3 t c3)) (by simp) 6
                        refine hK.out _ _ hc (fun hHeld => ?_); clear hK K; (try simp only [Act.put, List.setIfInBounds_toArray, List.set_cons_zero, List.set_cons_succ, List.getElem_toArray, List.getElem_cons_zero, List.getElem_cons_succ])
                        clear hc
                        have f6 := M7.out.free (g := m) (t := 46) (cs := rA b0 b1 b2 b3 (.slice B j d) (.slice Ap np cp) (.slice A3 t c3)) (by simp) 6
                        have cc6 := M7.out.cell (g := m) (t := 46) (cs := rA b0 b1 b2 b3 (.slice B j d) (.slice Ap np cp) (.slice A3 t c3)) (by simp) 6
                        repeat (first | (refine wpAnyV_take (i := 8) (v := ?_) rfl (by kernel_rfl) (by decide +kernel) (by decide +kernel) [] (by decide +kernel) (by decide +kernel) (by decide) (fun _ _ _ h => h) ?_ (by assumption) ?_; rotate_left; (first | (refine yields_load (by rfl) rfl rfl ?_; intro w hSw; (try dsimp only at hSw); go_split_ands; assumption) | (refine Or.inl ⟨by rfl, ?_⟩; intro w hSw; (try dsimp only at hSw); go_simp; done) | (refine Or.inl ⟨by rfl, ?_⟩; intro w hSw; (try dsimp only at hSw); go_simp; with_reducible rfl) | exact Or.inr ⟨by rfl, rfl⟩); (try simp only [Act.put, List.setIfInBounds_toArray, List.set_cons_zero, List.set_cons_succ, List.getElem_toArray, List.getElem_cons_zero, List.getElem_cons_succ])))
                        refine wpAnyV_ready (rs := [9]) (by decide +kernel) (by simp) ?_; refine AllReadyV.last rfl (fun K hK => ?_); go_simp
                        refine hK.out _ _ (fun hHeld => ?_); clear hK K; (try simp only [Act.put, List.setIfInBounds_toArray, List.set_cons_zero, List.set_cons_succ, List.getElem_toArray, List.getElem_cons_zero, List.getElem_cons_succ])
                        refine wpAnyH_done (by kernel_rfl) ?_ _
                        go_wp2_with fail
                        go_roundw
                        case rel => exact ⟨t + 1, e2 + cwn, z, by omega, by go_num, by go_num, rfl, hen2, hid hz16, hid ⟨xs ++ [z], A7, c7, by rw [List.length_append, hxl.out]; rfl, hnum2.out, by rw [hps1.out, dpC_append]; exact M7.out.set (L1 := [_]) 6 (.slice A7 (t + 1) c7)⟩⟩
                        case measure => simp [intOf] <;> omega
                      · have hnone := hno.out (by revert hnb; cases ok <;> cases fz <;> simp)
                        clear hno hyes hnb MF' MR M5
                        go_wp2_with (first
                          | ((with_reducible refine gateSt (t := 46) (p := 2) rfl ?_); refine wpList_store_all (n := 7) (L1 := []) (mid := rNil.toList) (vs := rNil.toList) rfl rfl (by kernel_rfl) rfl rfl rfl rfl rfl (one_all rfl) MF.out ?_; intro w18 M; (have M18 := hid M); clear M)
                          | (refine bodyPost_ret (v := .tuple #[.agg rNil, .int .i64 0, .bool false]) ?_ rfl (Ret.mk (.inr ⟨hnone, rfl, M18.out.below⟩)); exact results_agg_tmps2 (p := 2) (q := 3) (s := 4) rfl agg_ref _ (by rfl) (M18.out.heap (.head _)) rfl))
                      -- X>
                    · obtain rfl : t = m2 := by omega
                      -- <Y
                      have hps3 := hid (show parseS l = ((numK l 4 32 done e2 t).map fun yy => ((done, xs, yy.1), yy.2.1)).map (fun r => (⟨b0, b1, b2, b3, u16s l 10 j, pb, ptsOf r.1.1 r.1.2.1 r.1.2.2⟩, r.2)) from by
                        rw [hps2.out, hnum.out, Option.bind_some])
                      rw [pxs_all hdl.out] at MR
                      clear hps2 hnum hx hxl hlt
                      go_wp2
                      go_loopw [17, 23, 211] (fun p yy i wr => ∃ (t2 e3 : Nat) (y : Int), t2 ≤ t ∧ i = .int .i64 t2 ∧ p = .int .i64 e3 ∧ yy = .int .i64 y ∧ e3 ≤ n ∧ Hid (I16 y) ∧ Hid (∃ ys : List Int, ys.length = t2 ∧ numK l 4 32 done e2 t2 = some (ys, e3, y) ∧ Own w wr [.row 66 3 (.slice A3 t c3) t (dpC (ptsOf done xs ys)), .blk m 46 (rA b0 b1 b2 b3 (.slice B j d) (.slice Ap np cp) (.slice A3 t c3)), .row 5 1 (.slice A2 t c2) t (ints .u8 done), .row 5 1 (.slice Ap np cp) np (ints .u8 pb), .row 3 1 (.slice B j d) j (ints .i64 (u16s l 10 j)), .blk m0 46 rNil])) (fun _ _ i _ => t - (intOf i).toNat)
                      case atStart => exact ⟨0, e2, 0, Nat.zero_le _, rfl, rfl, rfl, he2, hid (by decide), hid ⟨[], rfl, rfl, MR.out⟩⟩
                      case round =>
                        clear MR
                        obtain ⟨t2, e3, y, ht2, rfl, rfl, rfl, he3, hy, hR⟩ := hrel
                        obtain ⟨ys, hyl, hnum, MR⟩ := hR.out
                        replace hyl := hid hyl
                        replace hnum := hid hnum
                        replace MR := hid MR
                        clear hR
                        by_cases hlt : t2 < t
                        · -- <V
                          obtain ⟨f0, f1⟩ := hdB.out.get t2
                          obtain ⟨adf, hadf⟩ := MR.out.row_ad (e := 5) (A := A2) (n := t) (c := c2) (vs := ints .u8 done) (by simp) (by omega)
                          subst hadf
                          obtain ⟨g3, hg3⟩ := MR.out.row_at (e := 66) (sz := 3) (A := A3) (n := t) (c := c3) (xs := dpC (ptsOf done xs ys)) (by simp) (by omega)
                          subst hg3
                          have hcf := MR.out.at (e := 5) (k := .u8) (xs := done) (n := t) (c := c2) (ad := adf) (by simp) hdl.out hlt rfl
                          have hNum := hid (fun w1 (h : Below w.heap.size w w1) => number_calls12 w1 (V := .slice (some ad) n C) (l := l) e3 (by omega) hBH.out (h1H.out.below h) f0 f1 (.inr ⟨rfl, rfl⟩))
                          have hnS := hid (show numK l 4 32 done e2 (t2 + 1) = (numK l 4 32 done e2 t2).bind (nStep l 4 32 (done.getD t2 0)) from rfl)
                          have hstep := hid (show nStep l 4 32 (done.getD t2 0) (ys, e3, y) = if nbOk l e3 (done.getD t2 0) 4 32 && fitB (y + nbV l e3 (done.getD t2 0) 4 32) then some (ys ++ [y + nbV l e3 (done.getD t2 0) 4 32], e3 + (chW (done.getD t2 0) 4 32).toNat, y + nbV l e3 (done.getD t2 0) 4 32) else none from rfl)
                          have hat := hid (nbOk_at (l := l) (p := e3) (by rw [hln.out]; exact he3) (done.getD t2 0) 4 32)
                          have hch := hid (show chW (done.getD t2 0) 4 32 = ((chW (done.getD t2 0) 4 32).toNat : Int) from by unfold chW; split <;> (try split) <;> rfl)
                          rw [hln.out] at hat
                          obtain ⟨y0, y1⟩ := hy.out
                          have hNumP : ∀ r, NumP l e3 (done.getD t2 0) 4 32 r → ∃ dn kn : Int, r = .tuple #[.int .i64 dn, .int .i64 kn, .bool (nbOk l e3 (done.getD t2 0) 4 32)] ∧ -32768 ≤ dn ∧ dn < 65536 ∧ 0 ≤ kn ∧ kn ≤ 2 ∧ (nbOk l e3 (done.getD t2 0) 4 32 = true → dn = nbV l e3 (done.getD t2 0) 4 32 ∧ kn = chW (done.getD t2 0) 4 32) := fun r h => h
                          replace hNumP := hid hNumP
                          generalize nStep l 4 32 (done.getD t2 0) = stp at *
                          generalize nbOk l e3 (done.getD t2 0) 4 32 = ok at *
                          generalize nbV l e3 (done.getD t2 0) 4 32 = nv at *
                          generalize chW (done.getD t2 0) 4 32 = cw at *
                          generalize done.getD t2 0 = f at *
                          generalize cw.toNat = cwn at *
                          have MF' := hid (MR.out.sub (L' := [.blk m0 46 rNil]) (by simp))
                          go_upto_region 56 with (go_at_call 51; (with_reducible refine (hNum.out _ MR.out.below).mono ?_); rintro _ w5 ⟨_, rfl, hP, hb⟩; obtain ⟨dn, kn, rfl, d0, d1, kn0, kn1, hok⟩ := hNumP.out _ hP; (replace hok := hid hok); (have M5 := hid (MR.out.keep hb)); (have MF := hid (MF'.out.keep hb)); clear hP hb)
                          have wz : IntKind.i64.wrap (y + dn) = y + dn := IntWalk.i64_in _ (by omega)
                          have hfit := hid (fun w1 => within_calls w1 (y + dn))
                          have hfb := hid (show fitB (y + dn) = decide (-32768 ≤ y + dn ∧ y + dn ≤ 32767) from rfl)
                          obtain ⟨z, hz⟩ : ∃ z, y + dn = z := ⟨_, rfl⟩
                          rw [hz] at wz hfit hfb
                          obtain ⟨fz, hfz⟩ : ∃ b, fitB z = b := ⟨_, rfl⟩
                          rw [hfz] at hfit hfb
                          have hno := hid (show (ok && fz) = false → parseS l = none from fun h => by
                            have h1 : numK l 4 32 done e2 (t2 + 1) = none := by
                              rw [hnS.out, hnum.out, Option.bind_some, hstep.out]
                              cases hok1 : ok
                              · rfl
                              · have := (hok.out hok1).1
                                rw [← this, hz, hfz]
                                rw [hok1] at h
                                rw [show fz = false by simpa using h]; rfl
                            rw [hps3.out, numK_none h1 t (by omega)]; rfl)
                          have hyes := hid (show (ok && fz) = true → kn = cwn ∧ e3 + cwn ≤ n ∧ I16 z ∧ numK l 4 32 done e2 (t2 + 1) = some (ys ++ [z], e3 + cwn, z) from fun h => by
                            rw [Bool.and_eq_true] at h
                            obtain ⟨h1, h2⟩ := h
                            obtain ⟨h3, h4⟩ := hok.out h1
                            refine ⟨by rw [h4]; exact hch.out, ?_, ?_, ?_⟩
                            · have := hat.out; rw [h1] at this; exact of_decide_eq_true this.symm
                            · rw [h2] at hfb; have h5 : -32768 ≤ z ∧ z ≤ 32767 := of_decide_eq_true hfb.out.symm; exact ⟨h5.1, by omega⟩
                            · rw [hnS.out, hnum.out, Option.bind_some, hstep.out, ← h3, hz, hfz, h1, h2]; rfl)
                          clear hNum hnS hstep hat hch hNumP hok hfb hnum hfz
                          obtain ⟨nb, hnb⟩ : ∃ b, (!(ok && fz)) = b := ⟨_, rfl⟩
                          go_upto_region 57 with fail
                          go_cut [233] (fun c wx => c = .bool nb ∧ w5 = wx)
                          case first =>
                            clear hno hyes
                            cases ok
                            · go_wp2
                              go_meet
                              exact ⟨congrArg Value.bool (by rw [← hnb]; rfl), rfl⟩
                            · go_wp2_with (go_at_call 25; (with_reducible refine (hfit.out _).mono ?_); rintro _ _ ⟨_, rfl, rfl, rfl⟩)
                              go_meet
                              exact ⟨congrArg Value.bool (by rw [← hnb]; cases fz <;> rfl), rfl⟩
                          obtain ⟨hc, hw⟩ := hcut
                          subst hc hw
                          clear hfit
                          cases nb
                          · obtain ⟨hkn, hen2, hz16, hnum2⟩ := hyes.out (by revert hnb; cases ok <;> cases fz <;> simp)
                            replace hnum2 := hid hnum2
                            subst hkn
                            clear hno hyes hnb MF MF' MR
                            have wee : IntKind.i64.wrap ((e3 : Int) + cwn) = (e3 : Int) + cwn := IntWalk.i64_in _ (by omega)
                            have c6 := M5.out.cell (g := m) (t := 46) (cs := rA b0 b1 b2 b3 (.slice B j d) (.slice Ap np cp) (.slice (some ⟨g3, 0, none⟩) t c3)) (by simp) 6
                            obtain ⟨MS, hcs, hfs⟩ := Own.row_set (L1 := []) M5.out (t2 * 3 + 1) (by omega) (.int .i64 z)
                            rw [pts_set hyl.out (by rw [hdl.out]; exact hlt)] at MS
                            rw [(dpC_get (ptsOf done xs ys) t2 (by rw [pts_length, hdl.out]; exact hlt)).2.1] at hcs
                            replace MS := hid MS
                            go_wp2
                            go_roundw
                            case rel => exact ⟨t2 + 1, e3 + cwn, z, by omega, by go_num, by go_num, rfl, hen2, hid hz16, hid ⟨ys ++ [z], by rw [List.length_append, hyl.out]; rfl, hnum2.out, MS.out⟩⟩
                            case measure => simp [intOf] <;> omega
                          · have hnone := hno.out (by revert hnb; cases ok <;> cases fz <;> simp)
                            clear hno hyes hnb MF' MR M5
                            go_wp2_with (first
                              | ((with_reducible refine gateSt (t := 46) (p := 2) rfl ?_); refine wpList_store_all (n := 7) (L1 := []) (mid := rNil.toList) (vs := rNil.toList) rfl rfl (by kernel_rfl) rfl rfl rfl rfl rfl (one_all rfl) MF.out ?_; intro w18 M; (have M18 := hid M); clear M)
                              | (refine bodyPost_ret (v := .tuple #[.agg rNil, .int .i64 0, .bool false]) ?_ rfl (Ret.mk (.inr ⟨hnone, rfl, M18.out.below⟩)); exact results_agg_tmps2 (p := 2) (q := 3) (s := 4) rfl agg_ref _ (by rfl) (M18.out.heap (.head _)) rfl))
                          -- V>
                        · obtain rfl : t2 = t := by omega
                          have hfin := hid (show parseS l = some (⟨b0, b1, b2, b3, u16s l 10 j, pb, ptsOf done xs ys⟩, e3) from by rw [hps3.out, hnum.out]; rfl)
                          go_wp2_with (first
                            | ((with_reducible refine gate (N := 245) rfl ?_); refine wpList_run rfl (exec_load_agg agg_ref rfl rfl MR.out (g := m) (t := 46) (cs := rA b0 b1 b2 b3 (.slice B j d) (.slice Ap np cp) (.slice A3 t2 c3)) (vs := (rA b0 b1 b2 b3 (.slice B j d) (.slice Ap np cp) (.slice A3 t2 c3)).toList) (by simp) rfl rfl) ?_)
                            | ((with_reducible refine gateSt (t := 46) (p := 2) rfl ?_); refine wpList_store_all (n := 7) (L1 := [.row 66 3 (.slice A3 t2 c3) t2 (dpC (ptsOf done xs ys)), .blk m 46 (rA b0 b1 b2 b3 (.slice B j d) (.slice Ap np cp) (.slice A3 t2 c3)), .row 5 1 (.slice A2 t2 c2) t2 (ints .u8 done), .row 5 1 (.slice Ap np cp) np (ints .u8 pb), .row 3 1 (.slice B j d) j (ints .i64 (u16s l 10 j))]) (mid := rNil.toList) (vs := (rA b0 b1 b2 b3 (.slice B j d) (.slice Ap np cp) (.slice A3 t2 c3)).toList) rfl rfl (by kernel_rfl) rfl rfl rfl rfl rfl (one_all rfl) MR.out ?_; intro w18 M; (have M18 := hid M); clear M)
                            | (refine bodyPost_ret (v := .tuple #[.agg (rA b0 b1 b2 b3 (.slice B j d) (.slice Ap np cp) (.slice A3 t2 c3)), .int .i64 e3, .bool true]) ?_ rfl (Ret.mk (.inl ⟨_, e3, .slice B j d, .slice Ap np cp, .slice A3 t2 c3, hfin.out, rfl, ?_⟩)); (exact results_agg_tmps2 (p := 2) (q := 3) (s := 4) rfl agg_ref _ (by rfl) (M18.out.heap (g := m0) (t := 46) (cs := rA b0 b1 b2 b3 (.slice B j d) (.slice Ap np cp) (.slice A3 t2 c3)) (by simp)) rfl); (dsimp only; rw [u16s_length, hnp.out, pts_length, hdl.out]; exact (M18.out.sub (L' := [.row 66 3 (.slice A3 t2 c3) t2 (dpC (ptsOf done xs ys)), .row 5 1 (.slice Ap np cp) np (ints .u8 pb), .row 3 1 (.slice B j d) j (ints .i64 (u16s l 10 j))]) (by simp)).perm (List.reverse_perm [_, _, _]).symm)))
                      -- Y>
  · have hnone : parseS l = none := parseS_head hBH.out fun h => by rw [hN.out, hln.out] at h; omega
    -- <F
    by_cases q1 : 2 ≤ n
    · by_cases q2 : ¬ ((N : Int) > 32767)
      · have q3 : (n : Int) < 12 + 2 * (N : Int) := by omega
        clear hA
        go_enter Try.func21, Try.ntmps21
        go_wp2_with (first
          | ((with_reducible refine gate (N := 2) rfl ?_); refine wpList_box_Own rfl (cs := rNil) (t := 46) (by first | (go_simp; done) | (go_simp; rfl)) M0.out ?_; intro m0 w1 M; (have M1 := hid M); clear M)
          | ((with_reducible refine gate (N := 5) rfl ?_); refine wpList_box_Own rfl (cs := rNil) (t := 46) (by first | (go_simp; done) | (go_simp; rfl)) M1.out ?_; intro m w2 M; (have M2 := hid M); clear M)
          | (go_at_call 47; (with_reducible refine (hN2a.out _ M2.out.below).mono ?_); rintro _ w3 ⟨_, rfl, rfl, hb⟩; (have M3 := hid (M2.out.keep hb)); clear hb)
          | ((with_reducible refine gate (N := 53) rfl ?_); refine wpList_run rfl (exec_load_agg agg_ref rfl rfl M3.out (g := m) (t := 46) (cs := rNil) (vs := rNil.toList) (.head _) rfl rfl) ?_)
          | ((with_reducible refine gateSt (t := 46) (p := 2) rfl ?_); refine wpList_store_all (n := 7) (L1 := [.blk m 46 rNil]) (mid := rNil.toList) (vs := rNil.toList) rfl rfl (by kernel_rfl) rfl rfl rfl rfl rfl (one_all rfl) M3.out ?_; intro w18 M; (have M18 := hid M); clear M)
          | (refine bodyPost_ret (v := .tuple #[.agg rNil, .int .i64 0, .bool false]) ?_ rfl (Ret.mk (.inr ⟨hnone, rfl, M18.out.below⟩)); exact results_agg_tmps2 (p := 2) (q := 3) (s := 4) rfl agg_ref _ (by rfl) (M18.out.heap (g := m0) (t := 46) (cs := rNil) (by simp)) rfl))
      · clear hA
        go_enter Try.func21, Try.ntmps21
        go_wp2_with (first
          | ((with_reducible refine gate (N := 2) rfl ?_); refine wpList_box_Own rfl (cs := rNil) (t := 46) (by first | (go_simp; done) | (go_simp; rfl)) M0.out ?_; intro m0 w1 M; (have M1 := hid M); clear M)
          | ((with_reducible refine gate (N := 5) rfl ?_); refine wpList_box_Own rfl (cs := rNil) (t := 46) (by first | (go_simp; done) | (go_simp; rfl)) M1.out ?_; intro m w2 M; (have M2 := hid M); clear M)
          | (go_at_call 47; (with_reducible refine (hN2a.out _ M2.out.below).mono ?_); rintro _ w3 ⟨_, rfl, rfl, hb⟩; (have M3 := hid (M2.out.keep hb)); clear hb)
          | ((with_reducible refine gate (N := 53) rfl ?_); refine wpList_run rfl (exec_load_agg agg_ref rfl rfl M3.out (g := m) (t := 46) (cs := rNil) (vs := rNil.toList) (.head _) rfl rfl) ?_)
          | ((with_reducible refine gateSt (t := 46) (p := 2) rfl ?_); refine wpList_store_all (n := 7) (L1 := [.blk m 46 rNil]) (mid := rNil.toList) (vs := rNil.toList) rfl rfl (by kernel_rfl) rfl rfl rfl rfl rfl (one_all rfl) M3.out ?_; intro w18 M; (have M18 := hid M); clear M)
          | (refine bodyPost_ret (v := .tuple #[.agg rNil, .int .i64 0, .bool false]) ?_ rfl (Ret.mk (.inr ⟨hnone, rfl, M18.out.below⟩)); exact results_agg_tmps2 (p := 2) (q := 3) (s := 4) rfl agg_ref _ (by rfl) (M18.out.heap (g := m0) (t := 46) (cs := rNil) (by simp)) rfl))
    · clear hA
      go_enter Try.func21, Try.ntmps21
      go_wp2_with (first
        | ((with_reducible refine gate (N := 2) rfl ?_); refine wpList_box_Own rfl (cs := rNil) (t := 46) (by first | (go_simp; done) | (go_simp; rfl)) M0.out ?_; intro m0 w1 M; (have M1 := hid M); clear M)
        | ((with_reducible refine gate (N := 5) rfl ?_); refine wpList_box_Own rfl (cs := rNil) (t := 46) (by first | (go_simp; done) | (go_simp; rfl)) M1.out ?_; intro m w2 M; (have M2 := hid M); clear M)
        | (go_at_call 47; (with_reducible refine (hN2a.out _ M2.out.below).mono ?_); rintro _ w3 ⟨_, rfl, rfl, hb⟩; (have M3 := hid (M2.out.keep hb)); clear hb)
        | ((with_reducible refine gate (N := 53) rfl ?_); refine wpList_run rfl (exec_load_agg agg_ref rfl rfl M3.out (g := m) (t := 46) (cs := rNil) (vs := rNil.toList) (.head _) rfl rfl) ?_)
        | ((with_reducible refine gateSt (t := 46) (p := 2) rfl ?_); refine wpList_store_all (n := 7) (L1 := [.blk m 46 rNil]) (mid := rNil.toList) (vs := rNil.toList) rfl rfl (by kernel_rfl) rfl rfl rfl rfl rfl (one_all rfl) M3.out ?_; intro w18 M; (have M18 := hid M); clear M)
        | (refine bodyPost_ret (v := .tuple #[.agg rNil, .int .i64 0, .bool false]) ?_ rfl (Ret.mk (.inr ⟨hnone, rfl, M18.out.below⟩)); exact results_agg_tmps2 (p := 2) (q := 3) (s := 4) rfl agg_ref _ (by rfl) (M18.out.heap (g := m0) (t := 46) (cs := rNil) (by simp)) rfl))
    -- F>
end Go.Proofs.Ytmmepjcndofnbaa
