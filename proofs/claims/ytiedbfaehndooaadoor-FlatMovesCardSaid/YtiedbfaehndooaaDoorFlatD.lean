/- Package flat: all parts, if each one's contours are told. -/
import Derived.Test.YtiedbfaehndooaaDoorFlatC
import Derived.Deep.DeepCutAuto
import Derived.Deep.RegionHeld3
namespace Go.Proofs.YtiedbfaehndooaaDoor
open Go Go.RowKit
set_option linter.unusedVariables false
set_option linter.unusedSimpArgs false
set_option maxRecDepth 1000000

theorem agg_mx : AggOf Tryd.prog 42 4 := .mk' Tryd.underlying42 rfl (by kernel_rfl)
theorem cl_value {cl : CL} {c : List (List (Int × Int × Bool))} (h : cl.map (·.2) = c) {t : Nat} (ht : t < c.length) : ∃ v, (cl.map (·.1))[t]? = some v ∧ .view 3 v (c.getD t []).length (dpC (c.getD t [])) ∈ cViews cl := by
  subst h
  have ht' : t < cl.length := by simpa using ht
  refine ⟨cl[t].1, by simp [ht'], ?_⟩
  have : (cl.map (·.2)).getD t [] = cl[t].2 := by simp [List.getD, ht']
  rw [this]
  exact List.mem_map.2 ⟨cl[t], List.getElem_mem _, rfl⟩
/-- The first contours of a part, moved. -/
def mvK (p : Pt) (c : List (List (Int × Int × Bool))) (t : Nat) : List (List (Int × Int × Bool)) := (c.take t).map (List.map (mvP p))
theorem mvK_all (p : Pt) (c : List (List (Int × Int × Bool))) : mvK p c c.length = c.map (List.map (mvP p)) := by unfold mvK; rw [List.take_length]
theorem mvK_succ (p : Pt) {c : List (List (Int × Int × Bool))} {t : Nat} (h : t < c.length) : mvK p c (t + 1) = mvK p c t ++ [(c.getD t []).map (mvP p)] := by
  unfold mvK
  rw [List.take_succ_eq_append_getElem h, List.map_append]
  simp [List.getD, h]
theorem mv_cells (p : Pt) (x : List (Int × Int × Bool)) : dpC (x.map (mvP p)) = (x.map (goTo p.a p.b p.c p.d p.x p.y)).flatMap ptC := rfl
theorem part_seen {w : World} {A : Option Addr} {C : Nat} {ps : List Pt} (h : SliceAt w w.heap.size 8 (.slice A ps.length C) ps.length (ptCC ps)) {i : Nat} (hi : i < ps.length) : ∃ ad, A = some ad ∧
    w.cell? (ad.add (i * 8)) = some (.int .u16 (pAt ps i).f) ∧ w.cell? ⟨(ad.add (i * 8)).block, (ad.add (i * 8)).off + 1, none⟩ = some (.int .u16 (pAt ps i).g) ∧ w.cell? ⟨(ad.add (i * 8)).block, (ad.add (i * 8)).off + 2, none⟩ = some (.int .i16 (pAt ps i).x) ∧ w.cell? ⟨(ad.add (i * 8)).block, (ad.add (i * 8)).off + 3, none⟩ = some (.int .i16 (pAt ps i).y) ∧
    w.cell? ⟨(ad.add (i * 8)).block, (ad.add (i * 8)).off + 4, none⟩ = some (.int .i16 (pAt ps i).a) ∧ w.cell? ⟨(ad.add (i * 8)).block, (ad.add (i * 8)).off + 5, none⟩ = some (.int .i16 (pAt ps i).b) ∧ w.cell? ⟨(ad.add (i * 8)).block, (ad.add (i * 8)).off + 6, none⟩ = some (.int .i16 (pAt ps i).c) ∧ w.cell? ⟨(ad.add (i * 8)).block, (ad.add (i * 8)).off + 7, none⟩ = some (.int .i16 (pAt ps i).d) := by
  obtain ⟨A', C', he, -, -, -, hr⟩ := h
  injection he with e1 e2 e3
  subst e1
  obtain ⟨ad, e, -⟩ := hr.2 (by omega)
  subst e
  exact ⟨ad, rfl, part_at rfl hr (Below.refl _ _) hi⟩
theorem sub_err {v x y b r : Ent} {P Q L : List Ent} : (x :: y :: L).Sublist (v :: (P ++ (x :: y :: b :: r :: (Q ++ L)))) :=
  .cons _ ((List.Sublist.cons_cons _ (.cons_cons _ (.cons _ (.cons _ (List.sublist_append_right Q L))))).trans (List.sublist_append_right P _))
theorem sub_fin {x y b r : Ent} {A B L : List Ent} : (x :: y :: r :: (B ++ L)).Sublist (x :: y :: b :: r :: (B ++ (A ++ L))) :=
  .cons_cons _ (.cons_cons _ (.cons _ (.cons_cons _ ((List.sublist_append_right A L).append_left B))))
set_option maxHeartbeats 8000000 in
theorem fall_calls {W0 w : World} {L : List Ent} {W : Nat} {vl vway V : Value} {way : List Int} {ps : List Pt} {m q : Nat} {F : Nat → Nat → Int → WR}
    (hF : ∀ m q id, m ≤ 20000 → q ≤ 20000 → Good q (F m q id)) (hN : ∀ m q id, ∀ x ∈ (F m q id).c, ∀ p ∈ x, PtOk p)
    (hC : ∀ (m q : Nat) (id : Int) (w : World) (L : List Ent) (vway : Value), m ≤ 20000 → q ≤ 20000 → Own W0 w (.blk W 64 (wkA vl vway m q) :: .row 3 1 vway way.length (ints .i64 way) :: L) →
      Calls Tryd.prog 19 #[.pointer (some ⟨W, 0, none⟩), .int .i64 id] w (Ret fun r w' => AtP W0 L W vl way (F m q id) r w'))
    (hm : m ≤ 20000) (hq : q ≤ 20000) (hO : ∀ p ∈ ps, p.Ok) (hl : ps.length ≤ 1000) (hv : .view 8 V ps.length (ptCC ps) ∈ L)
    (M : Own W0 w (.blk W 64 (wkA vl vway m q) :: .row 3 1 vway way.length (ints .i64 way) :: L)) :
    Calls Tryd.prog 39 #[.pointer (some ⟨W, 0, none⟩), V] w (Ret fun r w' => AtP W0 L W vl way (allK F ps m q []) r w') := by
  have M0 := hid M
  have hvH := hid hv
  obtain ⟨A, C, rfl, hc1, hm1, -, -⟩ := M.seen (by simp [hv] : Ent.view 8 V ps.length (ptCC ps) ∈ _)
  have hat := hid (fun (w1 : World) (h : SliceAt w1 w1.heap.size 8 (.slice A ps.length C) ps.length (ptCC ps)) (j : Nat) (hj : j < ps.length) => part_seen h hj)
  have hFH := hid hF
  have hNH := hid hN
  have hCH := hid hC
  have hOH := hid hO
  clear hF hN hC hO hv M
  unfold maxLen at hm1
  obtain ⟨n, hn⟩ : ∃ n, ps.length = n := ⟨_, rfl⟩
  rw [hn] at hc1 hl hat hvH ⊢
  have hnH := hid hn
  clear hn
  go_enter Tryd.func39, Tryd.ntmps39
  go_wp2_with fail
  go_loopw [6, 15] (fun o i wr => ∃ (j m1 q1 : Nat) (Ao : Option Addr) (no co : Nat), j ≤ n ∧ i = .int .i64 j ∧ o = .slice Ao no co ∧ m1 ≤ 20000 ∧ q1 ≤ 20000 ∧ Hid (∃ (vw : Value) (clo : CL), clo.length = no ∧ allK F ps m q [] = allK F (ps.drop j) m1 q1 (clo.map (·.2)) ∧ q1 = q + tot (clo.map (·.2)) ∧ (∀ x ∈ clo.map (·.2), x ≠ []) ∧
      Own W0 wr (.blk W 64 (wkA vl vw m1 q1) :: .row 3 1 vw way.length (ints .i64 way) :: .row 31 1 (.slice Ao no co) no (clo.map (·.1)) :: (cViews clo ++ L)))) (fun _ i _ => n - (intOf i).toNat)
  case atStart =>
    exact ⟨0, m, q, none, 0, 0, Nat.zero_le _, rfl, rfl, hm, hq, hid ⟨vway, [], rfl, rfl, by simp [tot], by simp, (M0.out.nil_row 31 1).perm (by
      refine (List.Perm.swap _ _ _).trans ((List.Perm.cons _ (List.Perm.swap _ _ _)).trans ?_)
      exact List.Perm.refl _)⟩⟩
  case round =>
    clear M0
    obtain ⟨j, m1, q1, Ao, no, co, hj, rfl, rfl, hm1', hq1', hR⟩ := hrel
    obtain ⟨vw, clo, hcl, hall, hqs, hne, MR⟩ := hR.out
    clear hR
    replace MR := hid MR
    replace hall := hid hall
    replace hcl := hid hcl
    replace hne := hid hne
    by_cases hlt : j < n
    · obtain ⟨ad, rfl, k0, k1, k2, k3, k4, k5, k6, k7⟩ := hat.out wr (MR.out.seen (by simp [hvH.out])) j hlt
      have hdrop : ps.drop j = pAt ps j :: ps.drop (j + 1) := by
        have hjl : j < ps.length := by rw [hnH.out]; exact hlt
        rw [List.drop_eq_getElem_cons hjl]
        simp [pAt, List.getD, hjl]
      have hpo := hid (show (pAt ps j).Ok from hOH.out _ (by
        have hjl : j < ps.length := by rw [hnH.out]; exact hlt
        simp [pAt, List.getD, hjl]))
      have hall2 := hid (show allK F ps m q [] = _ from by rw [hall.out, hdrop, allK_cons])
      clear hdrop hall
      generalize pAt ps j = p at *
      have hCa := hid (fun w1 L1 => hCH.out m1 q1 p.g w1 L1 vw hm1' hq1')
      obtain ⟨hg1, hg2⟩ := hFH.out m1 q1 p.g hm1' hq1'
      have hnr := hid (hNH.out m1 q1 p.g)
      generalize F m1 q1 p.g = r at *
      obtain ⟨e, c, m2, q2⟩ := r
      simp only at hg1 hg2
      replace hg1 := hid hg1
      replace hg2 := hid hg2
      have hgb := hpo.out.g
      have hwg : IntKind.i64.wrap p.g = p.g := IntWalk.i64_in _ (by have := hgb.1; have := hgb.2; omega)
      go_upto_region 6 with (first
        | ((with_reducible refine gate (N := 8) rfl ?_); refine wpList_box_Own rfl (cs := ptA pt0) (t := 45) (by first | (go_simp; done) | (go_simp; rfl)) MR.out ?_; intro px w1 M; (have M1 := hid M); clear M)
        | ((with_reducible refine gateSt (t := 45) (p := 8) rfl ?_); refine wpList_store_all (n := 8) (L1 := []) (mid := (ptA pt0).toList) (vs := (ptA p).toList) rfl rfl (by kernel_rfl) rfl rfl rfl rfl rfl (one_all rfl) M1.out ?_; intro w2 M; (clear k0 k1 k2 k3 k4 k5 k6 k7); obtain ⟨-, g1, -⟩ := pt_cellsC (m := px) (p := p) M (by simp); (have M2 := hid M); clear M)
        | (go_at_call 19; (have hX := hCa.out w2 _ (M2.out.perm ((List.Perm.swap _ _ _).trans (List.Perm.cons _ (List.Perm.swap _ _ _))))); ((with_reducible refine hX.mono ?_); clear hX); rintro _ w3 ⟨_, rfl, R, cl, vw3, rfl, hcl3, M⟩; (have M3 := hid M); clear M))
      clear g1 hCa M1 M2 MR hwg
      try simp only at hcl3
      by_cases he : e = 0
      · subst he
        obtain ⟨hm2, hq2, hq2s, hne2⟩ := hg1.out rfl
        have hall3 := hid (show allK F ps m q [] = allK F (ps.drop (j + 1)) m2 q2 (clo.map (·.2) ++ c.map (List.map (mvP p))) from by rw [hall2.out]; rfl)
        obtain ⟨nc, hnc⟩ : ∃ k, c.length = k := ⟨_, rfl⟩
        have hclc : cl.length = nc := by rw [← hnc, ← hcl3, List.length_map]
        have M4 := hid (Own.front2 (A := .view 1 R cl.length (cl.map (·.1)) :: cViews cl) (X := [_, _, _, _]) M3.out)
        obtain ⟨AR, CR, rfl, hcR, hmR, -, -⟩ := M3.out.seen (.head _)
        have hval := hid (fun t (ht : t < nc) => cl_value hcl3 (t := t) (by rw [hnc]; exact ht))
        rw [hclc] at M4 hcR ⊢
        unfold maxLen at hmR
        have hnoB : no ≤ 20000 := by
          have := length_tot hne.out
          rw [List.length_map, hcl.out] at this
          omega
        have hncB : nc ≤ 20000 := by
          have := length_tot hne2
          omega
        have hxB := hid (fun x (hx : x ∈ c) => show x.length ≤ 20000 by have := le_tot hx; omega)
        have hne3 := hid hne2
        have hcl3H := hid hcl3
        have hncH := hid hnc
        clear hall2 hg1 hg2 hcl3 hne2 hnc hclc M3
        replace hq2s := hid hq2s
        replace hqs := hid hqs
        have hgx := hpo.out.x
        have hgy := hpo.out.y
        have hwx : IntKind.i64.wrap p.x = p.x := IntWalk.i64_in _ (by have := hgx.1; have := hgx.2; omega)
        have hwy : IntKind.i64.wrap p.y = p.y := IntWalk.i64_in _ (by have := hgy.1; have := hgy.2; omega)
        have hAll := hid (fun (w1 : World) (V : Value) (x : List (Int × Int × Bool)) (hx : x ∈ c) (hs : SliceAt w1 w1.heap.size 3 V x.length (dpC x)) =>
          all_calls w1 (V := V) (ps := x) (a := p.a) (b := p.b) (c := p.c) (d := p.d) (u := p.x) (v := p.y) hpo.out.a hpo.out.b hpo.out.c hpo.out.d (by have := hgx.1; have := hgx.2; omega) (by have := hgy.1; have := hgy.2; omega) hs (by have := hxB.out x hx; omega) (hnr.out x hx))
        clear hgx hgy
        go_wp2_with fail
        go_loopw [6, 32] (fun o i wr => ∃ (t : Nat) (A2 : Option Addr) (n2 c2 : Nat), t ≤ nc ∧ i = .int .i64 t ∧ o = .slice A2 n2 c2 ∧ n2 = no + t ∧ Hid (∃ cln : CL, cln.length = n2 ∧ cln.map (·.2) = clo.map (·.2) ++ mvK p c t ∧
          Own W0 wr ([.blk W 64 (wkA vl vw3 m2 q2), .row 3 1 vw3 way.length (ints .i64 way), .blk px 45 (ptA p), .row 31 1 (.slice A2 n2 c2) n2 (cln.map (·.1))] ++ (cViews cln ++ ((.view 1 (.slice AR nc CR) nc (cl.map (·.1)) :: cViews cl) ++ L))))) (fun _ i _ => nc - (intOf i).toNat)
        case atStart =>
          exact ⟨0, Ao, no, co, Nat.zero_le _, rfl, rfl, rfl, hid ⟨clo, hcl.out, by simp [mvK], M4.out⟩⟩
        case round =>
          clear M4
          obtain ⟨t, A2, n2, c2, ht, rfl, rfl, hn2, hR2⟩ := hrel
          have hn2b : n2 ≤ 40000 := by omega
          replace hn2 := hid hn2
          obtain ⟨cln, hcn, hcs, MR⟩ := hR2.out
          clear hR2
          replace MR := hid MR
          replace hcs := hid hcs
          replace hcn := hid hcn
          by_cases hlt2 : t < nc
          · obtain ⟨vt, hvt, hvm⟩ := hval.out t hlt2
            obtain ⟨A', C', he', -, -, -, hrd⟩ := MR.out.seen (sz := 1) (v := .slice AR nc CR) (n := nc) (xs := cl.map (·.1)) (by simp)
            injection he' with e1 e2 e3
            subst e1 e3
            clear e2
            obtain ⟨ar, rfl, hct⟩ := hrd.cell hvt
            clear hrd
            have hxm := hid (show c.getD t [] ∈ c by
              have hlc : t < c.length := by rw [hncH.out]; exact hlt2
              simp [List.getD, hlc])
            have htk := hid (mvK_succ p (show t < c.length by rw [hncH.out]; exact hlt2))
            generalize c.getD t [] = x at *
            have hDA := hid (hAll.out wr vt x hxm.out (MR.out.seen (by simp [hvm])))
            clear hvt hvm
            obtain ⟨-, -, p2, p3, -⟩ := pt_cellsC (m := px) (p := p) MR.out (by simp)
            go_wp2_with (first
              | ((with_reducible refine gate (N := 39) rfl ?_); refine wpList_run rfl (exec_load_agg agg_mx rfl rfl MR.out (g := px) (off := 4) (t := 45) (cs := ptA p) (vs := [.int .i16 p.a, .int .i16 p.b, .int .i16 p.c, .int .i16 p.d]) (by simp) rfl rfl) ?_)
              | (go_at_call 48; (with_reducible refine hDA.out.mono ?_); rintro _ w5 ⟨rt, rfl, M⟩; obtain ⟨Art, crt, rfl⟩ := M.form (.head _); (have M5 := hid (Own.share (L1 := []) (MR.out.lift M))); clear M)
              | (at_builtin; refine wpList_append_Own rfl (.tmp 36) (.tmp 47) _ rfl sized_dpts rfl rfl (L1 := [.blk w5.heap.size 31 #[.slice Art x.length crt], .view 3 (.slice Art x.length crt) x.length ((x.map (goTo p.a p.b p.c p.d p.x p.y)).flatMap ptC), .blk W 64 (wkA vl vw3 m2 q2), .row 3 1 vw3 way.length (ints .i64 way), .blk px 45 (ptA p)]) (L2 := _) (M5.out.alloc _ _) (SliceAt.built (M5.out.alloc _ _) (.head _) 1 1 rfl (by unfold maxLen; omega)) (one_all rfl) ((by unfold maxLen; omega)) ((by omega)) ?_; intro v' w' M'; obtain ⟨A9, c9, rfl⟩ := M'.tail.tail.tail.tail.tail.form (.head _); (have M6 := hid (Own.front2 (A := [_]) (X := [_, _, _, _]) M'.tail)); clear M'))
            go_roundw
            case rel => exact ⟨t + 1, A9, n2 + 1, c9, by omega, by go_num, rfl, by (have := hn2.out); omega, hid ⟨cln ++ [(.slice Art x.length crt, x.map (mvP p))], by rw [List.length_append, hcn.out]; rfl, by rw [List.map_append, hcs.out, htk.out, List.append_assoc]; rfl, by
              have := M6.out
              rw [cViews_snoc, List.append_assoc, List.map_append]
              show Own W0 _ (_ :: _ :: _ :: _ :: (cViews cln ++ (.view 3 _ (x.map (mvP p)).length (dpC (x.map (mvP p))) :: _)))
              rw [List.length_map, mv_cells]
              exact this⟩⟩
            case measure => simp [intOf] <;> omega
          · obtain rfl : nc = t := by omega
            go_wp2_with fail
            go_roundw
            case rel => exact ⟨j + 1, m2, q2, A2, n2, c2, by omega, by go_num, rfl, hm2, hq2, hid ⟨vw3, cln, hcn.out, by
                rw [hall3.out, hcs.out, ← hncH.out, mvK_all], by
                rw [hcs.out, ← hncH.out, mvK_all, tot_append, tot_map]
                have := hq2s.out
                have := hqs.out
                omega, by
                rw [hcs.out, ← hncH.out, mvK_all]
                intro y hy
                rcases List.mem_append.1 hy with hy | hy
                · exact hne.out y hy
                · obtain ⟨z, hz, rfl⟩ := List.mem_map.1 hy
                  intro e
                  exact hne3.out z hz (List.map_eq_nil_iff.1 e), MR.out.sub sub_fin⟩⟩
            case measure => simp [intOf] <;> omega
      · have heb : (e == 0) = false := by rw [beq_eq_false_iff_ne]; exact he
        have hall3 := hid (show allK F ps m q [] = ⟨e, [], m2, q2⟩ from by rw [hall2.out, if_neg he])
        have ME := hid (M3.out.sub sub_err)
        clear hall2 hg1 hg2
        go_wp2_with fail
        go_ret2
        refine .mk ⟨.slice none 0 0, [], vw3, by rw [hall3.out]; rfl, by rw [hall3.out]; rfl, ?_⟩
        rw [hall3.out]
        exact ME.out.look (SliceAt.nil _ _ _)
    · obtain rfl : n = j := by omega
      have hall3 := hid (show allK F ps m q [] = ⟨0, clo.map (·.2), m1, q1⟩ from by rw [hall.out, List.drop_eq_nil_of_le (by rw [hnH.out]; exact Nat.le_refl _)]; rfl)
      go_wp2_with fail
      go_ret2
      refine .mk ⟨.slice Ao no co, clo, vw, by rw [hall3.out]; rfl, by rw [hall3.out], ?_⟩
      rw [hall3.out, hcl.out]
      exact Own.front2 (A := [_, _]) (X := [_]) (MR.out.share (L1 := [_, _]))
end Go.Proofs.YtiedbfaehndooaaDoor
