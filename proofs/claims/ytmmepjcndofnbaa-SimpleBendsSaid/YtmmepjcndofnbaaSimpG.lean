/- Layer 12: the contours of a glyph (SimpleContours). -/
import Derived.Test.YtmmepjcndofnbaaSimpF
import Derived.Test.YtmmepjcndofnbaaHeld
namespace Go.Proofs.Ytmmepjcndofnbaa
open Go Go.RowKit
set_option linter.unusedVariables false
set_option linter.unusedSimpArgs false
set_option maxRecDepth 100000

theorem pt_take (l : List (Int × Int × Bool)) {b j : Nat} (h : j < b) : pX (l.take b) j = pX l j ∧ pY (l.take b) j = pY l j ∧ pO (l.take b) j = pO l j := by
  simp [pX, pY, pO, List.getD, List.getElem?_take, h]
theorem pt_drop (l : List (Int × Int × Bool)) (a j : Nat) : pX (l.drop a) j = pX l (a + j) ∧ pY (l.drop a) j = pY l (a + j) ∧ pO (l.drop a) j = pO l (a + j) := by
  simp [pX, pY, pO, List.getD, List.getElem?_drop]
/-- A contour's length and its points. -/
theorem cnt_parts {g : Sg} (hO : g.Ok) (hR : sgR g = true) {k : Nat} (hk : k < g.ends.length) :
    ∃ p e n : Nat, nP g.ends k = p ∧ g.ends.getD k 0 = e ∧ p + n = e + 1 ∧ e + 1 ≤ g.pts.length ∧ (cntAt g k).length = n ∧ ∀ j, j < n → pX (cntAt g k) j = pX g.pts (p + j) ∧ pY (cntAt g k) j = pY g.pts (p + j) ∧ pO (cntAt g k) j = pO g.pts (p + j) := by
  obtain ⟨hrise, -, -, hn, -⟩ := sgR_parts hR
  have h1 := nP_mono hrise (k + 1) (by omega) k (by omega)
  have h2 := nP_mono hrise g.ends.length (Nat.le_refl _) (k + 1) (by omega)
  obtain ⟨b0, -⟩ := nP_bound hO k
  obtain ⟨e0, -⟩ := hO.end k
  rw [← hn] at h2
  have h3 : nP g.ends (k + 1) = g.ends.getD k 0 + 1 := rfl
  unfold cntAt
  rw [h3] at h1 h2 ⊢
  generalize nP g.ends k = p at *
  generalize g.ends.getD k 0 = e at *
  obtain ⟨p, rfl⟩ : ∃ p' : Nat, p = p' := ⟨p.toNat, by omega⟩
  obtain ⟨e, rfl⟩ : ∃ p' : Nat, e = p' := ⟨e.toNat, by omega⟩
  refine ⟨p, e, e + 1 - p, rfl, rfl, by omega, by omega, by simp; omega, fun j hj => ?_⟩
  obtain ⟨q1, q2, q3⟩ := pt_drop (g.pts.take ((e : Int) + 1).toNat) p j
  obtain ⟨r1, r2, r3⟩ := pt_take g.pts (b := ((e : Int) + 1).toNat) (j := p + j) (by omega)
  rw [show ((p : Int)).toNat = p from rfl, q1, q2, q3, r1, r2, r3]
  exact ⟨rfl, rfl, rfl⟩
/-- The three cells of a point. -/
theorem dpt_at {w : World} {B : Nat} {ad : Addr} {ps : List (Int × Int × Bool)} {n : Nat} (hn : ps.length = n) (hr : Reads w B 3 (some ad) n (dpC ps)) {i : Nat} (hi : i < n) :
    w.cell? (ad.add (i * 3)) = some (.int .i64 (pX ps i)) ∧ w.cell? ⟨(ad.add (i * 3)).block, (ad.add (i * 3)).off + 1, none⟩ = some (.int .i64 (pY ps i)) ∧ w.cell? ⟨(ad.add (i * 3)).block, (ad.add (i * 3)).off + 2, none⟩ = some (.bool (pO ps i)) := by
  have hg := dpC_get ps i (by omega)
  obtain ⟨a0, he, q0⟩ := hr.cell hg.1
  injection he with he; subst he
  obtain ⟨a1, he, q1⟩ := hr.cell_at (m := i * 3) (j := 1) (by omega) hg.2.1
  injection he with he; subst he
  obtain ⟨a2, he, q2⟩ := hr.cell_at (m := i * 3) (j := 2) (by omega) hg.2.2
  injection he with he; subst he
  exact ⟨q0, q1, q2⟩
theorem cl_get {g : Sg} {l : CL} {n k : Nat} (h : l.map (·.2) = cntK g n) (hk : k < n) : ∃ v, (l.map (·.1))[k]? = some v ∧ .row 35 3 v (cntAt g k).length (dpC (cntAt g k)) ∈ cRows l := by
  have hl : l.length = n := by have := congrArg List.length h; simpa [cntK] using this
  have hk' : k < l.length := by omega
  have h2 : (l.map (·.2))[k]? = (cntK g n)[k]? := by rw [h]
  rw [List.getElem?_map, List.getElem?_eq_getElem hk'] at h2
  have h3 : (cntK g n)[k]? = some (cntAt g k) := by simp [cntK, hk]
  rw [h3] at h2
  have h4 : l[k].2 = cntAt g k := by injection h2
  exact ⟨l[k].1, by rw [List.getElem?_map, List.getElem?_eq_getElem hk']; rfl, List.mem_map.2 ⟨l[k], List.getElem_mem _, by rw [h4]⟩⟩
theorem cl_len {g : Sg} {l : CL} {n : Nat} (h : l.map (·.2) = cntK g n) : l.length = n := by have := congrArg List.length h; simpa [cntK] using this
theorem cRows_mineX (l : CL) {e : TypeId} {sz n : Nat} {v : Value} {xs : List Value} : ∀ y ∈ Ent.row e sz v n xs :: cRows l, y.mine := by
  intro y hy
  rcases List.mem_cons.1 hy with rfl | hy
  · trivial
  · exact cRows_mine l y hy
theorem dp_cells {W0 w : World} {L : List Ent} {p : Nat} {x y : Int} {on : Bool} (M : Own W0 w L) (h : .blk p 35 #[.int .i64 x, .int .i64 y, .bool on] ∈ L) :
    w.cell? ⟨p, 0, none⟩ = some (.int .i64 x) ∧ w.cell? ⟨p, 1, none⟩ = some (.int .i64 y) ∧ w.cell? ⟨p, 2, none⟩ = some (.bool on) := ⟨M.cell h 0, M.cell h 1, M.cell h 2⟩

set_option maxHeartbeats 4000000 in
theorem simpleContours_calls (w : World) {V1 V2 : Value} {ps : List (Int × Int × Bool)} {zs : List Int}
    (h1 : SliceAt w w.heap.size 3 V1 ps.length (spC ps)) (hp : ∀ p ∈ ps, I16 p.1 ∧ I16 p.2.1) (h2 : BytesAt w V2 zs) (hZ : Bytes zs) :
    Calls Try.prog 3 #[V1, V2] w (Ret fun r w' => r = .bool true ∧ Below w.heap.size w w') := by
  have M0 := hid (Own.start w)
  have z0 : I16 0 := by simp [I16]
  have hMade := hid (fun w1 (h : Below w.heap.size w w1) => made_calls w1 (xs := []) z0 z0 z0 z0 (h1.below h) hp (h2.below h) hZ (SliceAt.nil w1 _ _ : BytesAt w1 (.slice none 0 0) []) (fun x hx => by cases hx))
  clear h1 hp h2 hZ
  go_enter Try.func3, Try.ntmps3
  go_upto_region 4 with (first
    | (go_at_call 9; refine (awake_calls _).mono ?_; rintro _ w1 ⟨_, rfl, rfl, hb⟩; (have M1 := hid (M0.out.keep hb)); clear hb)
    | (go_at_call 10; (with_reducible refine (hMade.out _ M1.out.below).mono ?_); rintro _ w2 ⟨_, rfl, hMd⟩; obtain ⟨g, ve, vp, vs, hO, -, -, -, -, -, -, hel, rfl, MM⟩ := hMd; obtain ⟨Ae, ce, rfl⟩ := MM.form (.head _); obtain ⟨Ap, cp, rfl⟩ := MM.form (.tail _ (.head _)); obtain ⟨As, cs, rfl⟩ := MM.form (.tail _ (.tail _ (.head _))); ((have hbw := hid (M1.out.lift MM).below)); ((have M2 := hid (Own.start w2))); ((have hG := hid (show GAt w2 g (.slice Ae g.ends.length ce) (.slice Ap g.prog.length cp) (.slice As g.pts.length cs) from ⟨MM.slice (.head _), MM.slice (.tail _ (.head _)), MM.slice (.tail _ (.tail _ (.head _)))⟩))); (clear MM M1))
    | ((with_reducible refine gate (N := 5) rfl ?_); refine wpList_box_Own rfl (cs := gA (gB 0 0 0 0) (.slice none 0 0) (.slice none 0 0) (.slice none 0 0)) (t := 29) (by first | (go_simp; done) | (go_simp; rfl)) M2.out ?_; intro m w3 M; (have M3 := hid M); clear M)
    | ((with_reducible refine gateSt (t := 29) (p := 5) rfl ?_); refine wpList_store_all (n := 7) (L1 := []) (mid := (gA (gB 0 0 0 0) (.slice none 0 0) (.slice none 0 0) (.slice none 0 0)).toList) (vs := (gA g (.slice Ae g.ends.length ce) (.slice Ap g.prog.length cp) (.slice As g.pts.length cs)).toList) rfl rfl (by kernel_rfl) rfl rfl rfl rfl rfl (one_all rfl) M3.out ?_; intro w4 M; (clear M3 M2); (have M4 := hid M); clear M))
  try simp only [Act.put, List.setIfInBounds_toArray, List.set_cons_zero, List.set_cons_succ]
  have M4 : Hid (Own w2 w4 [.blk m 29 (gA g (.slice Ae g.ends.length ce) (.slice Ap g.prog.length cp) (.slice As g.pts.length cs))]) := M4
  have hRt := hid (fun w' (h : Below w2.heap.size w2 w') => right_calls w' hO (hG.out.below h))
  cases hR : sgR g with
  | false =>
    have hCn := hid (cont_no w4 hO (hG.out.below M4.out.below) hR)
    rw [hR] at hRt
    clear hR
    go_wp2_with (first
      | ((with_reducible refine gate (N := 19) rfl ?_); refine wpList_run rfl (exec_load_agg agg_glyph rfl rfl M4.out (g := m) (t := 29) (cs := gA g (.slice Ae g.ends.length ce) (.slice Ap g.prog.length cp) (.slice As g.pts.length cs)) (vs := (gA g (.slice Ae g.ends.length ce) (.slice Ap g.prog.length cp) (.slice As g.pts.length cs)).toList) List.mem_cons_self rfl rfl) ?_)
      | (go_at_call 11; (with_reducible refine (hCn.out).mono ?_); rintro _ w5 ⟨_, rfl, rfl, hb⟩; (have M5 := hid (M4.out.keep hb)); clear hb)
      | ((with_reducible refine gate (N := 21) rfl ?_); refine wpList_run rfl (exec_load_agg agg_glyph rfl rfl M5.out (g := m) (t := 29) (cs := gA g (.slice Ae g.ends.length ce) (.slice Ap g.prog.length cp) (.slice As g.pts.length cs)) (vs := (gA g (.slice Ae g.ends.length ce) (.slice Ap g.prog.length cp) (.slice As g.pts.length cs)).toList) List.mem_cons_self rfl rfl) ?_)
      | (go_at_call 12; (with_reducible refine (hRt.out _ M5.out.below).mono ?_); rintro _ w6 ⟨_, rfl, rfl, hb⟩; (have M6 := hid (M5.out.keep hb)); clear hb))
    go_ret
    exact .mk ⟨rfl, (((Own.start w).keep hbw.out).keep M6.out.below).below⟩
  | true =>
    have hCn := hid (cont_yes w4 hO (hG.out.below M4.out.below) hR)
    rw [hR] at hRt
    have hRH := hid hR
    clear hR
    go_wp2_with (first
      | ((with_reducible refine gate (N := 19) rfl ?_); refine wpList_run rfl (exec_load_agg agg_glyph rfl rfl M4.out (g := m) (t := 29) (cs := gA g (.slice Ae g.ends.length ce) (.slice Ap g.prog.length cp) (.slice As g.pts.length cs)) (vs := (gA g (.slice Ae g.ends.length ce) (.slice Ap g.prog.length cp) (.slice As g.pts.length cs)).toList) List.mem_cons_self rfl rfl) ?_)
      | (go_at_call 11; (with_reducible refine (hCn.out).mono ?_); rintro _ w5 ⟨_, rfl, hC⟩; obtain ⟨l, hlk, MC⟩ := hC; ((have hll := cl_len hlk)); (rw [hll] at MC); obtain ⟨Ac, cc, rfl⟩ := MC.form (.head _); ((have M5 := hid (M4.out.lift MC (cRows_mineX l)))); ((have hlk := hid hlk)); (clear MC))
      | ((with_reducible refine gate (N := 21) rfl ?_); refine wpList_run rfl (exec_load_agg agg_glyph rfl rfl M5.out (g := m) (t := 29) (cs := gA g (.slice Ae g.ends.length ce) (.slice Ap g.prog.length cp) (.slice As g.pts.length cs)) (vs := (gA g (.slice Ae g.ends.length ce) (.slice Ap g.prog.length cp) (.slice As g.pts.length cs)).toList) (by simp) rfl rfl) ?_)
      | (go_at_call 12; (with_reducible refine (hRt.out _ M5.out.below).mono ?_); rintro _ w6 ⟨_, rfl, rfl, hb⟩; obtain ⟨c4, c5, c6⟩ := g_cells (m := m) (g := g) (ve := .slice Ae g.ends.length ce) (vp := .slice Ap g.prog.length cp) (vs := .slice As g.pts.length cs) (M5.out.keep hb) (by simp); (have M6 := hid (M5.out.keep hb)); clear hb))
    clear M4 M5 hCn hRt c4 c5 c6 hel hll
    obtain ⟨-, -, bne, bns, -⟩ := sgR_parts hRH.out
    have bns2 : g.pts.length ≤ 65536 := by have := nP_bound hO g.ends.length; omega
    obtain ⟨he, -, hs⟩ := hG.out
    obtain ⟨A', c', he', hce, hme, -, hre⟩ := he
    injection he' with e1 e2 e3
    subst e1 e3
    clear e2
    obtain ⟨A', c', he', hcs, hms, -, hrs⟩ := hs
    injection he' with e1 e2 e3
    subst e1 e3
    clear e2
    unfold maxLen at hme hms
    have hOH := hid hO
    have hCP := hid (fun k hk => cnt_parts (k := k) hO hRH.out hk)
    obtain ⟨ne, hne⟩ : ∃ n, g.ends.length = n := ⟨_, rfl⟩
    obtain ⟨np, hnp⟩ : ∃ n, g.prog.length = n := ⟨_, rfl⟩
    obtain ⟨ns, hns⟩ : ∃ n, g.pts.length = n := ⟨_, rfl⟩
    rw [hne] at hre hce bne bns hCP hlk
    rw [hns] at hrs hcs bns bns2 hCP
    have hEA := hid (fun ad (e : Ae = some ad) w' hb i hi => int_at (w' := w') (i := i) hne (e ▸ hre) hb hi)
    have hSA := hid (fun ad (e : As = some ad) w' hb i hi => spot_at (w' := w') (i := i) hns (e ▸ hrs) hb hi)
    have heS := hid (fun (h : 0 < ne) => show ∃ ad, Ae = some ad by obtain ⟨ad, e, -⟩ := hre.2 h; exact ⟨ad, e⟩)
    have hsS := hid (fun (h : 0 < ns) => show ∃ ad, As = some ad by obtain ⟨ad, e, -⟩ := hrs.2 h; exact ⟨ad, e⟩)
    simp only [gA, hne, hnp, hns] at M6 ⊢
    replace M6 : Hid (Own w2 w6 (.row 33 1 (.slice Ac ne cc) ne (l.map (·.1)) :: (cRows l ++ [.blk m 29 (gA g (.slice Ae ne ce) (.slice Ap np cp) (.slice As ns cs))]))) := M6
    replace bns := hid bns
    clear hre hrs hne hnp hns hO hRH hG
    go_loopw [35, 7] (fun i a wr => ∃ k : Nat, k ≤ ne ∧ i = .int .i64 k ∧ a = .int .i64 (nP g.ends k) ∧ Hid (Own w2 wr (.row 33 1 (.slice Ac ne cc) ne (l.map (·.1)) :: (cRows l ++ [.blk m 29 (gA g (.slice Ae ne ce) (.slice Ap np cp) (.slice As ns cs))])))) (fun i _ _ => ne - (intOf i).toNat)
    case atStart => exact ⟨0, Nat.zero_le _, rfl, rfl, M6⟩
    case round =>
      clear M6
      obtain ⟨k, hk, rfl, rfl, MR⟩ := hrel
      obtain ⟨c4, c5, c6⟩ := g_cells (m := m) (g := g) (ve := .slice Ae ne ce) (vp := .slice Ap np cp) (vs := .slice As ns cs) MR.out (by simp)
      by_cases hlt : k < ne
      · obtain ⟨ad, rfl⟩ := heS.out (by omega)
        obtain ⟨p, e, n, hnp, hee, hpn, hens, hcl, hpt⟩ := hCP.out k hlt
        obtain ⟨v, hv, hmem⟩ := cl_get hlk.out hlt
        have hmem2 := List.mem_append_left [.blk m 29 (gA g (.slice (some ad) ne ce) (.slice Ap np cp) (.slice As ns cs))] hmem
        obtain ⟨An, cn, rfl⟩ := MR.out.form (List.mem_cons_of_mem _ hmem2)
        rw [hcl] at hv hmem2
        obtain ⟨A9, c9, he, hc9, hm9, -, hr9⟩ := MR.out.slice (e := 33) (sz := 1) (v := .slice Ac ne cc) (n := ne) (xs := l.map (·.1)) List.mem_cons_self
        injection he with he1 he2 he3
        subst he1 he3
        clear he2
        obtain ⟨a9, rfl, hcellc⟩ := hr9.cell hv
        have hn1 := hid (show nP g.ends (k + 1) = (e : Int) + 1 by rw [← hee]; rfl)
        have hee' := hid hee
        have hptH := hid hpt
        have hclH := hid hcl
        replace hmem2 := hid hmem2
        rw [hnp]
        clear hr9 hv hmem hnp hcl hpt hee
        have k5 : k ≤ 65536 := by omega
        go_wp2_with fail
        clear c4 c5 c6 hcellc
        go_loopw [42, 7] (fun j a wr => ∃ t : Nat, t ≤ n ∧ j = .int .i64 t ∧ a = .int .i64 ((p + t : Nat) : Int) ∧ Hid (Own w2 wr (.row 33 1 (.slice (some a9) ne cc) ne (l.map (·.1)) :: (cRows l ++ [.blk m 29 (gA g (.slice (some ad) ne ce) (.slice Ap np cp) (.slice As ns cs))])))) (fun j _ _ => n - (intOf j).toNat)
        case atStart => exact ⟨0, Nat.zero_le _, rfl, rfl, MR⟩
        case round =>
          clear MR
          obtain ⟨t, ht, rfl, rfl, MT⟩ := hrel
          obtain ⟨c4, c5, c6⟩ := g_cells (m := m) (g := g) (ve := .slice (some ad) ne ce) (vp := .slice Ap np cp) (vs := .slice As ns cs) MT.out (by simp)
          by_cases htl : t < n
          · have hts : p + t < ns := by omega
            obtain ⟨ad2, rfl⟩ := hsS.out (by omega)
            obtain ⟨k1, k2, k3⟩ := hSA.out ad2 rfl wr MT.out.below (p + t) hts
            obtain ⟨A9, c9, he, hc9', hm9', -, hr9⟩ := MT.out.slice (e := 35) (sz := 3) (v := .slice An n cn) (n := n) (xs := dpC (cntAt g k)) (List.mem_cons_of_mem _ hmem2.out)
            injection he with he1 he2 he3
            subst he1 he3
            clear he2
            obtain ⟨a8, rfl, -⟩ := hr9.2 (by omega)
            obtain ⟨l1, l2, l3⟩ := dpt_at hclH.out hr9 htl
            obtain ⟨q1, q2, q3⟩ := hptH.out t htl
            rw [q1] at l1; rw [q2] at l2; rw [q3] at l3
            clear q1 q2 q3 hr9
            unfold maxLen at hm9'
            obtain ⟨⟨x0, x1⟩, ⟨y0, y1⟩⟩ := hOH.out.at (p + t)
            obtain ⟨x, hx⟩ : ∃ x, pX g.pts (p + t) = x := ⟨_, rfl⟩
            obtain ⟨y, hy⟩ : ∃ x, pY g.pts (p + t) = x := ⟨_, rfl⟩
            obtain ⟨on, hon⟩ : ∃ x, pO g.pts (p + t) = x := ⟨_, rfl⟩
            have hK := hid (fun w' (hb : Below w2.heap.size w2 w') => show w'.cell? (ad2.add ((p + t) * 3)) = some (.int .i16 x) ∧ w'.cell? ⟨(ad2.add ((p + t) * 3)).block, (ad2.add ((p + t) * 3)).off + 1, none⟩ = some (.int .i16 y) ∧ w'.cell? ⟨(ad2.add ((p + t) * 3)).block, (ad2.add ((p + t) * 3)).off + 2, none⟩ = some (.bool on) by
              rw [← hx, ← hy, ← hon]; exact hSA.out ad2 rfl w' hb (p + t) hts)
            rw [hx] at l1 x0 x1; rw [hy] at l2 y0 y1; rw [hon] at l3
            clear hx hy hon k1 k2 k3
            have pt1 : ((p + t : Nat) : Int) < ns := by omega
            have pt2 : (0 : Int) ≤ ((p + t : Nat) : Int) := by omega
            have hqt := hid (show p + (t + 1) = p + t + 1 from rfl)
            generalize p + t = q at *
            go_wp2_with (first
              | ((with_reducible refine gate (N := 11) rfl ?_); refine wpList_box_Own rfl (cs := #[.int .i64 0, .int .i64 0, .bool false]) (t := 35) (by first | (go_simp; done) | (go_simp; rfl)) MT.out ?_; intro d1 w7 M; (clear l1 l2 l3 c4 c5 c6); (have M7 := hid M); clear M)
              | ((with_reducible refine gateSt (t := 35) (p := 11) rfl ?_); refine wpList_store_all (n := 3) (L1 := []) (mid := [.int .i64 0, .int .i64 0, .bool false]) (vs := [.int .i64 x, .int .i64 y, .bool on]) rfl rfl (by kernel_rfl) rfl rfl rfl rfl rfl (one_all rfl) M7.out ?_; intro w8 M; obtain ⟨c4, c5, c6⟩ := g_cells (m := m) (g := g) (ve := .slice (some ad) ne ce) (vp := .slice Ap np cp) (vs := .slice (some ad2) ns cs) M (by simp); obtain ⟨k1, k2, k3⟩ := hK.out _ M.below; (have M8 := hid M); clear M)
              | ((with_reducible refine gate (N := 12) rfl ?_); refine wpList_box_Own rfl (cs := #[.int .i16 0, .int .i16 0, .bool false]) (t := 37) (by first | (go_simp; done) | (go_simp; rfl)) M8.out ?_; intro d2 w9 M; (clear k1 k2 k3 c4 c5 c6); (have M9 := hid M); clear M)
              | ((with_reducible refine gateSt (t := 37) (p := 12) rfl ?_); refine wpList_store_all (n := 3) (L1 := []) (mid := [.int .i16 0, .int .i16 0, .bool false]) (vs := [.int .i16 x, .int .i16 y, .bool on]) rfl rfl (by kernel_rfl) rfl rfl rfl rfl rfl (one_all rfl) M9.out ?_; intro w10 M; obtain ⟨k1, k2, k3⟩ := sp_cells (p := d2) (x := x) (y := y) (on := on) M (by simp); obtain ⟨l1, l2, l3⟩ := dp_cells (p := d1) (x := x) (y := y) (on := on) M (by simp); (have M10 := hid M); clear M))
            go_roundw
            case rel => exact ⟨t + 1, by omega, by go_num, by rw [hqt.out]; go_num, hid (M10.out.sub (by simp))⟩
            case measure => simp [intOf] <;> omega
          · obtain rfl : t = n := by omega
            clear c6 c4 c5
            have hpe : ((p + t : Nat) : Int) = (e : Int) + 1 := by omega
            have hcell := hEA.out ad rfl wr MT.out.below k hlt
            rw [hee'.out] at hcell
            obtain ⟨c4, c5, c6⟩ := g_cells (m := m) (g := g) (ve := .slice (some ad) ne ce) (vp := .slice Ap np cp) (vs := .slice As ns cs) MT.out (by simp)
            rw [hpe]
            have e5 : e < 65536 := by omega
            have q0 : ¬ (t : Int) < t := by omega
            clear hpe hpn
            go_wp2
            go_roundw
            case rel => exact ⟨k + 1, by omega, by go_num, by rw [hn1.out], MT⟩
            case measure => simp [intOf] <;> omega
      · obtain rfl : k = ne := by omega
        clear c4 c5
        go_wp2
        go_ret
        exact .mk ⟨by rw [bns.out]; simp, (((Own.start w).keep hbw.out).keep MR.out.below).below⟩
end Go.Proofs.Ytmmepjcndofnbaa
