/- Layer 4: DotAlls. -/
import Derived.Test.YtodhhkibpgcikaaDotC
import Derived.Test.YtodhhkibpgcikaaLaw04A
import Derived.Test.YtodhhkibpgcikaaAgg
import Derived.Deep.RegionHeld3
namespace Go.Proofs.Ytodhhkibpgcikaa
open Go Go.RowKit
set_option linter.unusedVariables false
set_option linter.unusedSimpArgs false
set_option maxRecDepth 100000

theorem tt_succ {α : Type} (xs : List α) {k m : Nat} (h : k < xs.length) (hm : k < m) : (xs.take (k + 1)).take m = (xs.take k).take m ++ [xs[k]] := by
  rw [List.take_of_length_le (i := m) (l := xs.take (k + 1)) (by simp; omega), List.take_of_length_le (i := m) (l := xs.take k) (by simp; omega), List.take_succ_eq_append_getElem h]
theorem tt_same {α : Type} (xs : List α) {k m : Nat} (hm : ¬ k < m) : (xs.take (k + 1)).take m = (xs.take k).take m := by
  rw [List.take_take, List.take_take, Nat.min_eq_left (by omega), Nat.min_eq_left (by omega)]
/-- A point, cut to what isn't too far. -/
def smP (p : Int × Int × Bool) : Int × Int × Bool := (p.1.tmod 1099511627776, p.2.1.tmod 1099511627776, p.2.2)
theorem smP_ok (p : Int × Int × Bool) : PtOk (smP p) := by
  have h1 := small_bd p.1
  have h2 := small_bd p.2.1
  exact ⟨⟨by show _ ≤ p.1.tmod _; omega, by show p.1.tmod _ ≤ _; omega⟩, ⟨by show _ ≤ p.2.1.tmod _; omega, by show p.2.1.tmod _ ≤ _; omega⟩⟩
/-- The three cells of a point in a row of points. -/
theorem pt_cells {W0 w : World} {L : List Ent} {ad : Addr} {n c : Nat} {qs : List (Int × Int × Bool)} (M : Own W0 w L) (h : .row 29 3 (.slice (some ad) n c) n (qs.flatMap ptC) ∈ L) {k : Nat} {x y : Int} {on : Bool} (hk : k < qs.length) (hq : qs[k] = (x, y, on)) :
    w.cell? (ad.add (k * 3)) = some (.int .i64 x) ∧ w.cell? ⟨(ad.add (k * 3)).block, (ad.add (k * 3)).off + 1, none⟩ = some (.int .i64 y) ∧ w.cell? ⟨(ad.add (k * 3)).block, (ad.add (k * 3)).off + 2, none⟩ = some (.bool on) := by
  obtain ⟨A9, c9, he, -, -, -, hr⟩ := M.slice h
  injection he with he1 he2 he3
  subst he1
  obtain ⟨a0, h0, e0⟩ := hr.cell (j := k * 3) (u := .int .i64 x) (by have := flatMap_get3 qs k 0 hk (by omega); simpa [ptC, hq] using this)
  obtain ⟨a1, h1, e1⟩ := hr.cell_at (m := k * 3) (j := 1) (u := .int .i64 y) (by omega) (by have := flatMap_get3 qs k 1 hk (by omega); simpa [ptC, hq] using this)
  obtain ⟨a2, h2, e2⟩ := hr.cell_at (m := k * 3) (j := 2) (u := .bool on) (by omega) (by have := flatMap_get3 qs k 2 hk (by omega); simpa [ptC, hq] using this)
  injection h0 with h0; subst h0
  injection h1 with h1; subst h1
  injection h2 with h2; subst h2
  exact ⟨e0, e1, e2⟩
theorem mat_cells {W0 w : World} {L : List Ent} {m : Nat} {a b c d : Int} (M : Own W0 w L) (h : .blk m 27 #[.int .i16 a, .int .i16 b, .int .i16 c, .int .i16 d] ∈ L) :
    w.cell? ⟨m, 0, none⟩ = some (.int .i16 a) ∧ w.cell? ⟨m, 1, none⟩ = some (.int .i16 b) ∧ w.cell? ⟨m, 2, none⟩ = some (.int .i16 c) ∧ w.cell? ⟨m, 3, none⟩ = some (.int .i16 d) := ⟨M.cell h 0, M.cell h 1, M.cell h 2, M.cell h 3⟩
theorem Own.row_at' {W0 w : World} {L : List Ent} {e : TypeId} {sz n c : Nat} {A : Option Addr} {xs : List Value} (M : Own W0 w L) (h : .row e sz (.slice A n c) n xs ∈ L) (hn : 0 < n) : ∃ ad, A = some ad := by
  obtain ⟨A9, c9, he, -, -, -, hr⟩ := M.slice h
  injection he with he1 he2 he3
  subst he1
  obtain ⟨ad, e, -⟩ := hr.2 hn
  exact ⟨ad, e⟩

set_option maxHeartbeats 8000000 in
theorem dotAlls_calls (w : World) {V : Value} {ps : List (Int × Int × Bool)} {a b c d : Int} (u v : Int) (ha : -32768 ≤ a ∧ a < 32768) (hb : -32768 ≤ b ∧ b < 32768) (hc : -32768 ≤ c ∧ c < 32768) (hd : -32768 ≤ d ∧ d < 32768)
    (hs : SliceAt w w.heap.size 3 V ps.length (ps.flatMap ptC)) :
    Calls Try.prog 6 #[V, .agg #[.int .i16 a, .int .i16 b, .int .i16 c, .int .i16 d], .int .i64 u, .int .i64 v] w (Ret fun r w' => r = .bool true ∧ Below w.heap.size w w') := by
  have M0 := hid (Own.start w)
  obtain ⟨A1, CC, rfl, hc1, hm1, hA1, hr1⟩ := hs
  unfold maxLen at hm1
  have hrH := hid hr1
  clear hr1 hA1
  have hu := small_bd u
  have hv := small_bd v
  have S := hid (fun w n => small_calls w n)
  obtain ⟨N, hN⟩ : ∃ N, ps.length = N := ⟨_, rfl⟩
  rw [hN] at hc1 hrH
  rw [hN]
  replace hN := hid hN
  go_enter Try.func6, Try.ntmps6
  go_wp2_with (first
    | ((with_reducible refine gate (N := 5) rfl ?_); refine wpList_box_Own rfl (cs := #[.int .i16 a, .int .i16 b, .int .i16 c, .int .i16 d]) (t := 27) (by first | (go_simp; done) | (go_simp; rfl)) M0.out ?_; intro m w1 M; (have M1 := hid M); clear M)
    | (go_at_call 8; refine (awake_calls _).mono ?_; rintro _ _ ⟨_, rfl, rfl, rfl⟩)
    | (go_at_call 11; refine (S.out _ _).mono ?_; rintro _ _ ⟨_, rfl, rfl, rfl⟩))
  generalize u.tmod 1099511627776 = u at *
  generalize v.tmod 1099511627776 = v at *
  go_loopw [9, 24] (fun o i wr => ∃ (k t : Nat) (A : Option Addr) (c' : Nat), k ≤ N ∧ i = .int .i64 k ∧ o = .slice A t c' ∧ t ≤ 20 ∧ Hid (t = min k 20) ∧ Hid (Own w wr [.row 29 3 (.slice A t c') t ((((ps.take k).take 20).map smP).flatMap ptC), .blk m 27 #[.int .i16 a, .int .i16 b, .int .i16 c, .int .i16 d]])) (fun _ i _ => N - (intOf i).toNat)
  case atStart => exact ⟨0, 0, none, 0, Nat.zero_le _, rfl, rfl, by omega, hid (by simp), hid (by simpa using M1.out.nil_row 29 3)⟩
  case round =>
    obtain ⟨k, t, A, c', hk, rfl, rfl, ht, htk, MH⟩ := hrel
    by_cases hlt : k < N
    · have hlt' : k < ps.length := by rw [hN.out]; exact hlt
      have hr := hrH.out.keep (w' := wr) fun k hk _ => MH.out.below.block k hk
      obtain ⟨ad, rfl, e0⟩ := hr.cell (j := k * 3) (u := .int .i64 ps[k].1) (by have := flatMap_get3 ps k 0 hlt' (by omega); simpa [ptC] using this)
      obtain ⟨ad1, h1, e1⟩ := hr.cell_at (m := k * 3) (j := 1) (u := .int .i64 ps[k].2.1) (by omega) (by have := flatMap_get3 ps k 1 hlt' (by omega); simpa [ptC] using this)
      obtain ⟨ad2, h2, e2⟩ := hr.cell_at (m := k * 3) (j := 2) (u := .bool ps[k].2.2) (by omega) (by have := flatMap_get3 ps k 2 hlt' (by omega); simpa [ptC] using this)
      injection h1 with h1; subst h1
      injection h2 with h2; subst h2
      have hsm := hid (show smP ps[k] = (ps[k].1.tmod 1099511627776, ps[k].2.1.tmod 1099511627776, ps[k].2.2) from rfl)
      by_cases h20 : k < 20
      · have hst := hid (tt_succ ps hlt' h20)
        generalize ps[k] = p at *
        obtain ⟨x, y, on⟩ := p
        simp only at e0 e1 e2 hsm
        have hz0 : (k : Int) < 20 := by omega
        clear hr
        go_wp2_with (first
          | ((with_reducible refine gate (N := 11) rfl ?_); refine wpList_box_Own rfl (cs := #[.int .i64 0, .int .i64 0, .bool false]) (t := 29) (by first | (go_simp; done) | (go_simp; rfl)) MH.out ?_; intro q w2 M; (clear e0 e1 e2); (have M2 := hid M); clear M)
          | ((with_reducible refine gateSt (t := 29) (p := 11) rfl ?_); refine wpList_store_all (n := 3) (L1 := []) (mid := [.int .i64 0, .int .i64 0, .bool false]) (vs := [.int .i64 x, .int .i64 y, .bool on]) rfl rfl (by kernel_rfl) rfl rfl rfl rfl rfl (one_all rfl) M2.out ?_; intro w3 M; obtain ⟨k0, k1, k2⟩ := point_cells M; (have M3 := hid M); clear M))
        try simp only [Act.put, List.setIfInBounds_toArray, List.set_cons_zero, List.set_cons_succ]
        go_region_held3 (fun w' => w'.cell? ⟨q, 0, none⟩ = some (.int .i64 x) ∧ w'.cell? ⟨q, 1, none⟩ = some (.int .i64 y) ∧ w'.cell? ⟨q, 2, none⟩ = some (.bool on)) (go_keep)
          (first
            | (go_at_call 11; refine (S.out _ _).mono ?_; rintro _ _ ⟨_, rfl, rfl, rfl⟩)
            | (refine step_append_Own (by rfl) (.tmp 31) (.tmp 41) _ rfl sized_pt rfl rfl (L1 := [.blk w3.heap.size 29 #[.int .i64 (x.tmod 1099511627776), .int .i64 (y.tmod 1099511627776), .bool on], .blk q 29 #[.int .i64 x, .int .i64 y, .bool on]]) (L2 := [.blk m 27 #[.int .i16 a, .int .i16 b, .int .i16 c, .int .i16 d]]) (M3.out.drew.alloc _ _) (SliceAt.built (M3.out.drew.alloc _ _) (.head _) 3 1 rfl (by unfold maxLen; omega)) (pt_one [(x.tmod 1099511627776, y.tmod 1099511627776, on)]) (by unfold maxLen; omega) (by omega) ?_; intro v' w' M'; obtain ⟨A7, c7, rfl⟩ := M'.tail.tail.form (.head _); obtain ⟨k0, k1, k2⟩ := point_cells M'.tail; (have M7 := hid M'.tail.tail); clear M'))
        go_wp2_with fail
        go_roundw
        case rel => exact ⟨k + 1, t + 1, A7, c7, by omega, by go_num, rfl, by have := htk.out; omega, hid (by have := htk.out; omega), hid (by rw [hst.out, List.map_append, List.flatMap_append]; simp only [List.map_cons, List.map_nil, hsm.out]; exact M7.out)⟩
        case measure => simp [intOf] <;> omega
      · have hst := hid (tt_same ps h20)
        generalize ps[k] = p at *
        obtain ⟨x, y, on⟩ := p
        simp only at e0 e1 e2 hsm
        have hz0 : ¬ (k : Int) < 20 := by omega
        clear hr
        go_wp2_with (first
          | ((with_reducible refine gate (N := 11) rfl ?_); refine wpList_box_Own rfl (cs := #[.int .i64 0, .int .i64 0, .bool false]) (t := 29) (by first | (go_simp; done) | (go_simp; rfl)) MH.out ?_; intro q w2 M; (clear e0 e1 e2); (have M2 := hid M); clear M)
          | ((with_reducible refine gateSt (t := 29) (p := 11) rfl ?_); refine wpList_store_all (n := 3) (L1 := []) (mid := [.int .i64 0, .int .i64 0, .bool false]) (vs := [.int .i64 x, .int .i64 y, .bool on]) rfl rfl (by kernel_rfl) rfl rfl rfl rfl rfl (one_all rfl) M2.out ?_; intro w3 M; obtain ⟨k0, k1, k2⟩ := point_cells M; (have M3 := hid M); clear M))
        go_roundw
        case rel => exact ⟨k + 1, t, A, c', by omega, by go_num, rfl, ht, hid (by have := htk.out; omega), hid (by rw [hst.out]; exact M3.out.sub (by simp))⟩
        case measure => simp [intOf] <;> omega
    · obtain rfl : k = N := by omega
      have hPok : ∀ p ∈ ((ps.take k).take 20).map smP, PtOk p := by
        intro p hp
        obtain ⟨p', -, rfl⟩ := List.mem_map.1 hp
        exact smP_ok p'
      have hql : (((ps.take k).take 20).map smP).length = t := by
        rw [List.length_map, List.length_take, List.length_take, hN.out]
        have := htk.out; omega
      generalize ((ps.take k).take 20).map smP = qs at *
      have hPokH := hid hPok
      have hqlH := hid hql
      have hAll := hid (fun w V (h : SliceAt w w.heap.size 3 V t (qs.flatMap ptC)) => show Calls Try.prog 17 #[V, .agg #[.int .i16 a, .int .i16 b, .int .i16 c, .int .i16 d], .int .i64 u, .int .i64 v] w (Ret fun r w' => Own w w' [.row 29 3 r t ((qs.map (goTo a b c d u v)).flatMap ptC)]) from by
        have := all_calls w (V := V) (ps := qs) ha hb hc hd (u := u) (v := v) (by omega) (by omega) (by rw [hql]; exact h) (by omega) hPok
        rwa [hql] at this)
      clear hPok hql htk
      go_wp2_with (first
        | (at_builtin; refine wpList_append_Own rfl (.tmp 44) (.tmp 45) _ rfl sized_pt rfl rfl (L1 := []) (L2 := [_, _]) ((MH.out.alloc 29 #[]).as_row (L1 := []) 3 0 rfl (by unfold maxLen; omega)) ((MH.out.alloc 29 #[]).slice (e := 29) (v := .slice A t c') (n := t) (xs := qs.flatMap ptC) (by simp)) (pt_one qs) (by unfold maxLen; omega) (by omega) ?_; intro v' w' M'; (simp only [Nat.zero_add, List.nil_append, List.append_eq] at M'); obtain ⟨A3, c3, rfl⟩ := M'.form (.head _); obtain ⟨m0, m1, m2, m3⟩ := mat_cells M' (m := m) (a := a) (b := b) (c := c) (d := d) (by simp); (have M3 := hid M'); clear M')
        | (go_at_call 17; (with_reducible refine (hAll.out _ _ (M3.out.slice (e := 29) (v := .slice A t c') (n := t) (xs := qs.flatMap ptC) (by simp))).mono ?_); rintro _ w4 ⟨_, rfl, M⟩; obtain ⟨A4, c4, rfl⟩ := M.form (.head _); (have M4 := hid (M3.out.lift M)); clear M))
      go_loopw [59] (fun i wr => ∃ k : Nat, k ≤ t ∧ i = .int .i64 k ∧ Hid (Own w wr [.row 29 3 (.slice A4 t c4) t ((qs.map (goTo a b c d u v)).flatMap ptC), .row 29 3 (.slice A3 t c3) t (qs.flatMap ptC), .row 29 3 (.slice A t c') t (qs.flatMap ptC), .blk m 27 #[.int .i16 a, .int .i16 b, .int .i16 c, .int .i16 d]])) (fun i _ => t - (intOf i).toNat)
      case atStart => exact ⟨0, Nat.zero_le _, rfl, M4⟩
      case round =>
        clear MH M3 M4
        obtain ⟨j, hj, rfl, MR⟩ := hrel
        by_cases hjt : j < t
        · obtain ⟨ad1, rfl⟩ := MR.out.row_at' (.head _) (by omega)
          obtain ⟨ad2, rfl⟩ := MR.out.row_at' (.tail _ (.head _)) (by omega)
          obtain ⟨ad3, rfl⟩ := MR.out.row_at' (.tail _ (.tail _ (.head _))) (by omega)
          have hjq : j < qs.length := by rw [hqlH.out]; exact hjt
          obtain ⟨⟨x, y, on⟩, hq⟩ : ∃ q, qs[j] = q := ⟨_, rfl⟩
          have hok := hPokH.out qs[j] (List.getElem_mem _)
          rw [hq] at hok
          obtain ⟨hx, hy⟩ := hok
          simp only at hx hy
          have hg : (qs.map (goTo a b c d u v))[j]'(by simpa using hjq) = (rnd (a * x + c * y) + u, rnd (b * x + d * y) + v, on) := by
            rw [List.getElem_map, hq]; rfl
          have hcl := hid (fun w' L (M : Own w w' L) (h1 : .row 29 3 (.slice (some ad1) t c4) t ((qs.map (goTo a b c d u v)).flatMap ptC) ∈ L) (h2 : .row 29 3 (.slice (some ad2) t c3) t (qs.flatMap ptC) ∈ L) (h3 : .row 29 3 (.slice (some ad3) t c') t (qs.flatMap ptC) ∈ L) (h4 : .blk m 27 #[.int .i16 a, .int .i16 b, .int .i16 c, .int .i16 d] ∈ L) =>
            And.intro (pt_cells M h1 (by simpa using hjq) hg) (And.intro (pt_cells M h2 hjq hq) (And.intro (pt_cells M h3 hjq hq) (And.intro (M.cell h4 0) (And.intro (M.cell h4 1) (And.intro (M.cell h4 2) (M.cell h4 3)))))))
          have APx := hid (fun w => apply_calls w (x := x) (y := y) (on := on) ha hb hc hd hx hy)
          have b1 := mul_small ha hx
          have b2 := mul_small hc hy
          have b3 := mul_small hb hx
          have b4 := mul_small hd hy
          have MVx := hid (fun w => move_calls w (x := rnd (a * x + c * y)) (y := rnd (b * x + d * y)) (u := u) (v := v) (on := on) (by unfold rnd; omega) (by unfold rnd; omega) (by omega) (by omega))
          generalize rnd (a * x + c * y) = rx at *
          generalize rnd (b * x + d * y) = ry at *
          clear b1 b2 b3 b4 hg
          obtain ⟨⟨r0, r1, r2⟩, ⟨s0, s1, s2⟩, ⟨t0, t1, t2⟩, m0, m1, m2, m3⟩ := hcl.out _ _ MR.out (.head _) (.tail _ (.head _)) (.tail _ (.tail _ (.head _))) (.tail _ (.tail _ (.tail _ (.head _))))
          go_wp2_with (first
            | ((with_reducible refine gate (N := 15) rfl ?_); refine wpList_box_Own rfl (cs := #[.int .i64 0, .int .i64 0, .bool false]) (t := 29) (by first | (go_simp; done) | (go_simp; rfl)) MR.out ?_; intro q w5 M; (clear r0 r1 r2 s0 s1 s2 t0 t1 t2 m0 m1 m2 m3); (have M5 := hid M); clear M)
            | ((with_reducible refine gateSt (t := 29) (p := 15) rfl ?_); refine wpList_store_all (n := 3) (L1 := []) (mid := [.int .i64 0, .int .i64 0, .bool false]) (vs := [.int .i64 x, .int .i64 y, .bool on]) rfl rfl (by kernel_rfl) rfl rfl rfl rfl rfl (one_all rfl) M5.out ?_; intro w6 M; obtain ⟨k0, k1, k2⟩ := point_cells M; obtain ⟨⟨r0, r1, r2⟩, ⟨s0, s1, s2⟩, ⟨t0, t1, t2⟩, m0, m1, m2, m3⟩ := hcl.out _ _ M (by simp) (by simp) (by simp) (by simp); (have M6 := hid M); clear M))
          try simp only [Act.put, List.setIfInBounds_toArray, List.set_cons_zero, List.set_cons_succ]
          clear s0 s1 s2
          go_region_held3 (fun w' => (w'.cell? ⟨q, 0, none⟩ = some (.int .i64 x) ∧ w'.cell? ⟨q, 1, none⟩ = some (.int .i64 y) ∧ w'.cell? ⟨q, 2, none⟩ = some (.bool on)) ∧
              (w'.cell? (ad1.add (j * 3)) = some (.int .i64 (rx + u)) ∧ w'.cell? ⟨(ad1.add (j * 3)).block, (ad1.add (j * 3)).off + 1, none⟩ = some (.int .i64 (ry + v)) ∧ w'.cell? ⟨(ad1.add (j * 3)).block, (ad1.add (j * 3)).off + 2, none⟩ = some (.bool on)) ∧
              (w'.cell? (ad3.add (j * 3)) = some (.int .i64 x) ∧ w'.cell? ⟨(ad3.add (j * 3)).block, (ad3.add (j * 3)).off + 1, none⟩ = some (.int .i64 y) ∧ w'.cell? ⟨(ad3.add (j * 3)).block, (ad3.add (j * 3)).off + 2, none⟩ = some (.bool on)) ∧
              w'.cell? ⟨m, 0, none⟩ = some (.int .i16 a) ∧ w'.cell? ⟨m, 1, none⟩ = some (.int .i16 b) ∧ w'.cell? ⟨m, 2, none⟩ = some (.int .i16 c) ∧ w'.cell? ⟨m, 3, none⟩ = some (.int .i16 d)) (go_keep)
            (first
              | (go_at_call 12; (with_reducible refine (APx.out _).mono ?_); rintro _ w7 ⟨_, rfl, rfl, hb⟩; ((have M7' := M6.out.drew.keep hb)); obtain ⟨k0, k1, k2⟩ := point_cells M7'; obtain ⟨⟨r0, r1, r2⟩, ⟨s0, s1, s2⟩, ⟨t0, t1, t2⟩, m0, m1, m2, m3⟩ := hcl.out _ _ M7' (by simp) (by simp) (by simp) (by simp); (clear s0 s1 s2 hb); (have M7 := hid M7'); (clear M7'))
              | (go_at_call 13; (with_reducible refine (MVx.out _).mono ?_); rintro _ w8 ⟨_, rfl, rfl, hb⟩; ((have M8' := M7.out.keep hb)); obtain ⟨k0, k1, k2⟩ := point_cells M8'; obtain ⟨⟨r0, r1, r2⟩, ⟨s0, s1, s2⟩, ⟨t0, t1, t2⟩, m0, m1, m2, m3⟩ := hcl.out _ _ M8' (by simp) (by simp) (by simp) (by simp); (clear s0 s1 s2 hb); (have M8 := hid M8'); (clear M8')))
          go_wp2_with fail
          go_roundw
          case rel => exact ⟨j + 1, by omega, by go_num, hid (M8.out.tail)⟩
          case measure => simp [intOf] <;> omega
        · obtain rfl : j = t := by omega
          go_wp2
          go_ret
          exact .mk ⟨rfl, MR.out.below⟩
end Go.Proofs.Ytodhhkibpgcikaa
