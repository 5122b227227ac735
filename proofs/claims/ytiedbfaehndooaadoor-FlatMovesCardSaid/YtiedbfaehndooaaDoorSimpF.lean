/- Package simple: the contours. -/
import Derived.Test.YtiedbfaehndooaaDoorSimpE
namespace Go.Proofs.YtiedbfaehndooaaDoor
open Go Go.RowKit
set_option linter.unusedVariables false
set_option linter.unusedSimpArgs false
set_option maxRecDepth 100000

/-- A point's cells, as the package dot has them. -/
def dpC (ps : List (Int × Int × Bool)) : List Value := ps.flatMap fun p => [.int .i64 p.1, .int .i64 p.2.1, .bool p.2.2]
theorem dpC_append (a b : List (Int × Int × Bool)) : dpC (a ++ b) = dpC a ++ dpC b := List.flatMap_append
theorem dpC_length (ps : List (Int × Int × Bool)) : (dpC ps).length = ps.length * 3 := by
  induction ps with
  | nil => rfl
  | cons p ps ih => unfold dpC at *; rw [List.flatMap_cons, List.length_append, ih]; simp; omega
theorem dpC_get (ps : List (Int × Int × Bool)) : ∀ i, i < ps.length → (dpC ps)[i * 3]? = some (.int .i64 (pX ps i)) ∧ (dpC ps)[i * 3 + 1]? = some (.int .i64 (pY ps i)) ∧ (dpC ps)[i * 3 + 2]? = some (.bool (pO ps i)) := by
  induction ps with
  | nil => intro i h; simp at h
  | cons p ps ih =>
    intro i h
    cases i with
    | zero => exact ⟨rfl, rfl, rfl⟩
    | succ i =>
      have := ih i (by simpa using h)
      rw [Nat.succ_mul]
      exact this
theorem sized_dpt : Sized Tryd.prog 31 30 3 24 := .mk' Tryd.underlying31 (.agg #[.int .i64 0, .int .i64 0, .bool false]) (by kernel_rfl)
theorem sized_dpts : Sized Tryd.prog 23 31 1 24 := .mk' Tryd.underlying23 (.slice none 0 0) (by kernel_rfl)

/-- The contour number i: its points. -/
def cntAt (g : Sg) (i : Nat) : List (Int × Int × Bool) := (g.pts.take (nP g.ends (i + 1)).toNat).drop (nP g.ends i).toNat
def cntK (g : Sg) (k : Nat) : List (List (Int × Int × Bool)) := (List.range k).map (cntAt g)
theorem cntK_succ (g : Sg) (k : Nat) : cntK g (k + 1) = cntK g k ++ [cntAt g k] := by simp [cntK, List.range_succ]
/-- The rows of contours. -/
abbrev CL := List (Value × List (Int × Int × Bool))
def cRows (l : CL) : List Ent := l.map fun p => .row 30 3 p.1 p.2.length (dpC p.2)
theorem cRows_mine (l : CL) : ∀ y ∈ cRows l, y.mine := by
  intro y hy
  obtain ⟨p, -, rfl⟩ := List.mem_map.1 hy
  trivial
theorem cRows_snoc (l : CL) (p : Value × List (Int × Int × Bool)) : cRows (l ++ [p]) = cRows l ++ [.row 30 3 p.1 p.2.length (dpC p.2)] := by simp [cRows]
theorem nP_mono {g : Sg} {n : Nat} (h : riseB g.ends n = true) : ∀ j, j ≤ n → ∀ i, i ≤ j → nP g.ends i ≤ nP g.ends j
  | 0, _, i, hi => by rw [show i = 0 by omega]; exact Int.le_refl _
  | j + 1, hj, i, hi => by
    by_cases e : i = j + 1
    · rw [e]; exact Int.le_refl _
    · have h1 := nP_mono h j (by omega) i (by omega)
      have h2 := of_decide_eq_true h j (by omega)
      simp only [nP] at h1 h2 ⊢
      omega

theorem cont_no (w : World) {g : Sg} {ve vp vs : Value} (hO : g.Ok) (hG : GAt w g ve vp vs) (hR : sgR g = false) :
    Calls Tryd.prog 37 #[.agg (gA g ve vp vs)] w (Ret fun r w' => r = .slice none 0 0 ∧ Below w.heap.size w w') := by
  have M0 := hid (Own.start w)
  have hRt := hid (fun w1 (h : Below w.heap.size w w1) => right_calls w1 hO (hG.below h))
  rw [hR] at hRt
  clear hR
  go_enter Tryd.func37, Tryd.ntmps37
  go_wp2_with (first
    | ((with_reducible refine gate (N := 1) rfl ?_); refine wpList_box_Own rfl (cs := gA g ve vp vs) (t := 52) (by first | (go_simp; done) | (go_simp; rfl)) M0.out ?_; intro m w1 M; (have M1 := hid M); clear M)
    | ((with_reducible refine gate (N := 9) rfl ?_); refine wpList_run rfl (exec_load_agg agg_glyph rfl rfl M1.out (g := m) (t := 52) (cs := gA g ve vp vs) (vs := (gA g ve vp vs).toList) (.head _) rfl rfl) ?_)
    | (go_at_call 16; refine (hRt.out _ M1.out.below).mono ?_; rintro _ w2 ⟨_, rfl, rfl, hb⟩; (have M2 := hid (M1.out.keep hb)); clear hb))
  go_ret
  exact .mk ⟨rfl, M2.out.below⟩

/-- What is told: rows of points, each a contour. -/
def ContP (g : Sg) (w : World) (r : Value) (w' : World) : Prop := ∃ l : CL, l.map (·.2) = cntK g g.ends.length ∧ Own w w' (.row 31 1 r l.length (l.map (·.1)) :: cRows l)

set_option maxHeartbeats 4000000 in
theorem cont_yes (w : World) {g : Sg} {ve vp vs : Value} (hO : g.Ok) (hG : GAt w g ve vp vs) (hR : sgR g = true) :
    Calls Tryd.prog 37 #[.agg (gA g ve vp vs)] w (Ret fun r w' => ContP g w r w') := by
  have M0 := hid (Own.start w)
  have hRt := hid (fun w1 (h : Below w.heap.size w w1) => right_calls w1 hO (hG.below h))
  rw [hR] at hRt
  obtain ⟨hrise, -, bne, bns, -⟩ := sgR_parts hR
  have bns2 : g.pts.length ≤ 65536 := by have := nP_bound hO g.ends.length; omega
  obtain ⟨he, hp, hs⟩ := hG
  obtain ⟨Ae, ce, rfl, hce, hme, -, hre⟩ := he
  obtain ⟨Ap, cp, rfl, hcp, hmp, -, -⟩ := hp
  obtain ⟨As, cs, rfl, hcs, hms, -, hrs⟩ := hs
  unfold maxLen at hme hmp hms
  have hOH := hid hO
  have hmono := hid (fun j hj i hi => nP_mono hrise j hj i hi)
  have hnb := hid (fun k => nP_bound hO k)
  obtain ⟨ne, hne⟩ : ∃ n, g.ends.length = n := ⟨_, rfl⟩
  obtain ⟨np, hnp⟩ : ∃ n, g.prog.length = n := ⟨_, rfl⟩
  obtain ⟨ns, hns⟩ : ∃ n, g.pts.length = n := ⟨_, rfl⟩
  rw [hne] at hre hce bne bns hmono
  rw [hnp] at hcp
  rw [hns] at hrs hcs bns bns2
  have hEA := hid (fun ad (e : Ae = some ad) w' hb i hi => int_at (w' := w') (i := i) hne (e ▸ hre) hb hi)
  have hSA := hid (fun ad (e : As = some ad) w' hb i hi => spot_at (w' := w') (i := i) hns (e ▸ hrs) hb hi)
  have heS := hid (fun (h : 0 < ne) => show ∃ ad, Ae = some ad by obtain ⟨ad, e, -⟩ := hre.2 h; exact ⟨ad, e⟩)
  have hsS := hid (fun (h : 0 < ns) => show ∃ ad, As = some ad by obtain ⟨ad, e, -⟩ := hrs.2 h; exact ⟨ad, e⟩)
  have hneH := hid hne
  have hnsH := hid hns
  replace bns := hid bns
  simp only [gA, hne, hnp, hns]
  simp only [gA, hne, hnp, hns] at hRt
  clear hre hrs hne hnp hns hO hR hrise
  go_enter Tryd.func37, Tryd.ntmps37
  go_wp2_with (first
    | ((with_reducible refine gate (N := 1) rfl ?_); refine wpList_box_Own rfl (cs := gA g (.slice Ae ne ce) (.slice Ap np cp) (.slice As ns cs)) (t := 52) (by first | (go_simp; done) | (go_simp; rfl)) M0.out ?_; intro m w1 M; (have M1 := hid M); clear M)
    | ((with_reducible refine gate (N := 9) rfl ?_); refine wpList_run rfl (exec_load_agg agg_glyph rfl rfl M1.out (g := m) (t := 52) (cs := gA g (.slice Ae ne ce) (.slice Ap np cp) (.slice As ns cs)) (vs := (gA g (.slice Ae ne ce) (.slice Ap np cp) (.slice As ns cs)).toList) (.head _) rfl rfl) ?_)
    | (go_at_call 16; refine (hRt.out _ M1.out.below).mono ?_; rintro _ w2 ⟨_, rfl, rfl, hb⟩; obtain ⟨c4, c5, c6⟩ := g_cells (m := m) (g := g) (ve := .slice Ae ne ce) (vp := .slice Ap np cp) (vs := .slice As ns cs) (M1.out.keep hb) List.mem_cons_self; (have M2 := hid (M1.out.keep hb)); clear hb))
  clear c4 c5 c6
  go_loopw [3, 4, 15] (fun o a i wr => ∃ (k : Nat) (l : CL) (A : Option Addr) (c : Nat), k ≤ ne ∧ i = .int .i64 k ∧ a = .int .i64 (nP g.ends k) ∧ o = .slice A k c ∧ Hid (l.map (·.2) = cntK g k ∧ l.length = k) ∧ Hid (Own w wr (.row 31 1 (.slice A k c) k (l.map (·.1)) :: .blk m 52 (gA g (.slice Ae ne ce) (.slice Ap np cp) (.slice As ns cs)) :: cRows l))) (fun _ _ i _ => ne - (intOf i).toNat)
  case atStart => exact ⟨0, [], none, 0, Nat.zero_le _, rfl, rfl, rfl, hid ⟨rfl, rfl⟩, hid (M2.out.nil_row 31 1)⟩
  case round =>
    clear M2 M1
    obtain ⟨k, l, A, c, hk, rfl, rfl, rfl, hlk, MR⟩ := hrel
    obtain ⟨c4, c5, c6⟩ := g_cells (m := m) (g := g) (ve := .slice Ae ne ce) (vp := .slice Ap np cp) (vs := .slice As ns cs) MR.out (by simp)
    by_cases hlt : k < ne
    · obtain ⟨ad, rfl⟩ := heS.out (by omega)
      have hcell := hEA.out ad rfl wr MR.out.below k hlt
      obtain ⟨e0, e1⟩ := hOH.out.end k
      have hn1 : nP g.ends (k + 1) = g.ends.getD k 0 + 1 := rfl
      have hmo := hmono.out (k + 1) (by omega) k (by omega)
      have hmo2 := hmono.out ne (Nat.le_refl _) (k + 1) (by omega)
      rw [← bns.out] at hmo2
      obtain ⟨b0, b1⟩ := hnb.out k
      have hca := hid (show cntAt g k = (g.pts.take (nP g.ends (k + 1)).toNat).drop (nP g.ends k).toNat from rfl)
      rw [hn1] at hmo hmo2 hca
      replace hn1 := hid hn1
      generalize g.ends.getD k 0 = e at *
      obtain ⟨p0, hp0⟩ : ∃ p0 : Nat, nP g.ends k = p0 := ⟨(nP g.ends k).toNat, by omega⟩
      rw [hp0] at hmo hca b0 b1 ⊢
      clear hp0
      obtain ⟨e', rfl⟩ : ∃ e' : Nat, e = e' := ⟨e.toNat, by omega⟩
      go_wp2_with fail
      clear c4 c5 c6
      go_loopw [4, 7] (fun a v wr => ∃ (t n : Nat) (A7 : Option Addr) (c7 : Nat), p0 + n = t ∧ t ≤ e' + 1 ∧ a = .int .i64 t ∧ v = .slice A7 n c7 ∧ Hid (Own w wr (.row 30 3 (.slice A7 n c7) n (dpC ((g.pts.take t).drop p0)) :: .row 31 1 (.slice A k c) k (l.map (·.1)) :: .blk m 52 (gA g (.slice (some ad) ne ce) (.slice Ap np cp) (.slice As ns cs)) :: cRows l))) (fun a _ _ => e' + 1 - (intOf a).toNat)
      case atStart => exact ⟨p0, 0, none, 0, by omega, by omega, rfl, rfl, hid (by rw [List.drop_eq_nil_of_le (by simp; omega)]; exact MR.out.nil_row 30 3)⟩
      case round =>
        clear MR
        obtain ⟨t, n, A7, c7, hn, ht, rfl, rfl, MT⟩ := hrel
        obtain ⟨c4, c5, c6⟩ := g_cells (m := m) (g := g) (ve := .slice (some ad) ne ce) (vp := .slice Ap np cp) (vs := .slice As ns cs) MT.out (by simp)
        by_cases htl : t ≤ e'
        · have hts : t < ns := by omega
          obtain ⟨ad2, rfl⟩ := hsS.out (by omega)
          obtain ⟨k1, k2, k3⟩ := hSA.out ad2 rfl wr MT.out.below t hts
          obtain ⟨⟨x0, x1⟩, ⟨y0, y1⟩⟩ := hOH.out.at t
          have hsn := hid (show (g.pts.take (t + 1)).drop p0 = (g.pts.take t).drop p0 ++ [(pX g.pts t, pY g.pts t, pO g.pts t)] by
            rw [List.take_succ_eq_append_getElem (by rw [hnsH.out]; exact hts), pt_eta, List.drop_append_of_le_length (by rw [List.length_take, hnsH.out]; omega)])
          generalize pX g.pts t = x at *
          generalize pY g.pts t = y at *
          generalize pO g.pts t = on at *
          go_wp2_with (first
            | ((with_reducible refine gate (N := 8) rfl ?_); refine wpList_box_Own rfl (cs := #[.int .i16 0, .int .i16 0, .bool false]) (t := 55) (by first | (go_simp; done) | (go_simp; rfl)) MT.out ?_; intro p w3 M; (clear k1 k2 k3 c4 c5 c6); (have M3 := hid M); clear M)
            | ((with_reducible refine gateSt (t := 55) (p := 8) rfl ?_); refine wpList_store_all (n := 3) (L1 := []) (mid := [.int .i16 0, .int .i16 0, .bool false]) (vs := [.int .i16 x, .int .i16 y, .bool on]) rfl rfl (by kernel_rfl) rfl rfl rfl rfl rfl (one_all rfl) M3.out ?_; intro w4 M; obtain ⟨p0', p1, p2⟩ := sp_cells (p := p) (x := x) (y := y) (on := on) M (by simp); (have M4 := hid M); clear M)
            | (at_builtin; refine wpList_append_Own rfl (.tmp 30) (.tmp 40) _ rfl sized_dpt rfl rfl (L1 := [.blk w4.heap.size 30 #[.int .i64 x, .int .i64 y, .bool on], .blk p 55 #[.int .i16 x, .int .i16 y, .bool on]]) (L2 := .row 31 1 (.slice A k c) k (l.map (·.1)) :: .blk m 52 (gA g (.slice (some ad) ne ce) (.slice Ap np cp) (.slice (some ad2) ns cs)) :: cRows l) (M4.out.alloc _ _) (SliceAt.built (M4.out.alloc _ _) (.head _) 3 1 rfl (by unfold maxLen; omega)) (one_all rfl) (by unfold maxLen; omega) (by omega) ?_; intro v' w' M'; obtain ⟨A9, c9, rfl⟩ := M'.tail.tail.form (.head _); (have M9 := hid M'.tail.tail); clear M'))
          go_roundw
          case rel => exact ⟨t + 1, n + 1, A9, c9, by omega, by omega, by go_num, rfl, hid (by rw [hsn.out, dpC_append]; exact M9.out)⟩
          case measure => simp [intOf] <;> omega
        · obtain rfl : t = e' + 1 := by omega
          have hct := hid (show (g.pts.take (e' + 1)).drop p0 = cntAt g k by rw [hca.out]; rfl)
          have hcl := hid (show (cntAt g k).length = n by rw [← hct.out, List.length_drop, List.length_take, hnsH.out]; omega)
          rw [hct.out] at MT
          have hnn : n ≤ 65536 := by omega
          replace hn := hid hn
          clear c4 c5 c6
          simp only [show ((e' + 1 : Nat) : Int) = (e' : Int) + 1 from by omega]
          have q1 : ¬ ((e' : Int) + 1 ≤ e') := by omega
          have k5 : k ≤ 65536 := by omega
          have e9 : e' < 65536 := by omega
          clear hmo hmo2 b0 b1 e0 e1 ht htl hcell hme hmp hms hcs hce hcp bns2
          go_wp2_with (at_builtin; refine wpList_append_Own rfl (.tmp 42) (.tmp 44) _ rfl sized_dpts rfl rfl (L1 := [.blk wr.heap.size 31 #[.slice A7 n c7], .row 30 3 (.slice A7 n c7) n (dpC (cntAt g k))]) (L2 := .blk m 52 (gA g (.slice (some ad) ne ce) (.slice Ap np cp) (.slice As ns cs)) :: cRows l) (MT.out.alloc _ _) (SliceAt.built (MT.out.alloc _ _) (.head _) 1 1 rfl (by unfold maxLen; omega)) (one_all rfl) (by unfold maxLen; omega) (by omega) ?_; intro v' w' M'; obtain ⟨A9, c9, rfl⟩ := M'.tail.tail.form (.head _); (have M9 := hid M'.tail); clear M')
          go_roundw
          case rel =>
            refine ⟨k + 1, l ++ [(.slice A7 n c7, cntAt g k)], A9, c9, by omega, by go_num, by rw [hn1.out], rfl, hid ⟨by rw [List.map_append, hlk.out.1, cntK_succ]; rfl, by simp [hlk.out.2]⟩, hid ?_⟩
            rw [cRows_snoc, List.map_append]
            show Own w _ (_ :: _ :: (cRows l ++ [.row 30 3 (.slice A7 n c7) (cntAt g k).length (dpC (cntAt g k))]))
            rw [hcl.out]
            refine M9.out.perm ?_
            refine (List.Perm.swap _ _ _).trans ((List.Perm.cons _ ?_))
            refine (List.Perm.swap _ _ _).trans ((List.Perm.cons _ ?_))
            exact (List.perm_append_singleton _ _).symm
          case measure => simp [intOf] <;> omega
    · obtain rfl : k = ne := by omega
      go_wp2
      go_ret
      exact .mk ⟨l, by rw [hlk.out.1, hneH.out], by rw [hlk.out.2]; exact MR.out.sub (List.Sublist.cons_cons _ (List.sublist_cons_self _ _))⟩
end Go.Proofs.YtiedbfaehndooaaDoor
