/- Layer 13: a glyph's bytes of which one is turned, or that are cut off (CompoBends). -/
import Derived.Test.YteoicpbfjkjogaaLaw13E
import Derived.Test.YteoicpbfjkjogaaCompQ
import Derived.Test.YteoicpbfjkjogaaOpen
namespace Go.Proofs.Yteoicpbfjkjogaa
open Go Go.RowKit
set_option linter.unusedVariables false
set_option linter.unusedSimpArgs false
set_option maxRecDepth 100000

/-- A byte that is turned. -/
def xor8 (a b : Int) : Int := bits .xor .u8 a b
theorem xor8_bd (a b : Int) : 0 ≤ xor8 a b ∧ xor8 a b < 256 := wf_u8 (wf_bits _ _ _ _)
theorem Bytes.set {l : List Int} (h : Bytes l) (i : Nat) {x : Int} (h0 : 0 ≤ x) (h1 : x < 256) : Bytes (l.set i x) := by
  intro y hy
  rcases List.mem_or_eq_of_mem_set hy with hy | rfl
  · exact h y hy
  · exact ⟨h0, h1⟩
theorem ints_set (k : IntKind) (l : List Int) (i : Nat) (x : Int) : (ints k l).set i (.int k x) = ints k (l.set i x) := by simp [ints, List.map_set]
theorem BytesAt.pre {w : World} {A : Option Addr} {c n k : Nat} {l : List Int} (h : BytesAt w (.slice A n c) l) (hk : k ≤ l.length) : BytesAt w (.slice A k c) (l.take k) := by
  obtain ⟨A', c', he, hnc, hcm, hA, hr⟩ := h
  injection he with he1 he2 he3
  subst he1; subst he3
  have hl : (l.take k).length = k := by rw [List.length_take]; omega
  refine ⟨A, c, by rw [hl], by omega, hcm, hA, by rw [ints_length, hl, Nat.mul_one], fun hn => ?_⟩
  obtain ⟨ad, rfl, hb, hc⟩ := hr.2 (by omega)
  refine ⟨ad, rfl, hb, fun j u hu => hc j u ?_⟩
  rw [show ints IntKind.u8 (l.take k) = (ints .u8 l).take k by simp [ints, List.map_take], List.getElem?_take] at hu
  split at hu
  · exact hu
  · cases hu
theorem cgB_pos (g : Cg) : 10 ≤ (cgB g).length := by
  have h3 : (g.box.flatMap s2).length = 8 := rfl
  unfold cgB
  simp only [List.length_append, b2_length]; omega
set_option maxHeartbeats 8000000 in
theorem compoBends_calls (w : World) {g0 : Cg} {vp0 vg0 : Value} {at_ turn : Int} (hO0 : g0.Ok) (hG0 : CAt w g0 vp0 vg0) (a0 : 0 ≤ at_) (a1 : at_ < 65536) (t0 : 0 ≤ turn) (t1 : turn < 256) :
    Calls Try.prog 5 #[.agg (cA g0 vp0 vg0), .int .u16 at_, .int .u8 turn] w (Ret fun r w' => r = .bool true ∧ Below w.heap.size w w') := by
  have M0 := hid (Own.start w)
  have hFew := hid (fun w1 (h : Below w.heap.size w w1) => few_calls w1 hO0 (hG0.below h))
  obtain ⟨A1, c1, rfl, -⟩ := hG0.p
  obtain ⟨A2, c2, rfl, -⟩ := hG0.g
  clear hO0 hG0
  go_enter Try.func5, Try.ntmps5
  go_upto_region 4 with (first
    | ((with_reducible refine gate (N := 3) rfl ?_); refine wpList_box_Own rfl (cs := cA g0 (.slice A1 g0.parts.length c1) (.slice A2 g0.prog.length c2)) (t := 29) (by first | (go_simp; done) | (go_simp; rfl)) M0.out ?_; intro m w1 M; (have M1 := hid M); clear M)
    | (go_at_call 9; refine (awake_calls _).mono ?_; rintro _ w2 ⟨_, rfl, rfl, hb⟩; ((have M2 := hid (M1.out.keep hb))); (clear hb))
    | ((with_reducible refine gate (N := 19) rfl ?_); refine wpList_run rfl (exec_load_agg agg_cg rfl rfl M2.out (g := m) (t := 29) (cs := cA g0 (.slice A1 g0.parts.length c1) (.slice A2 g0.prog.length c2)) (vs := (cA g0 (.slice A1 g0.parts.length c1) (.slice A2 g0.prog.length c2)).toList) (by simp) rfl rfl) ?_)
    | (go_at_call 15; (with_reducible refine (hFew.out _ M2.out.below).mono ?_); rintro _ w3 ⟨_, rfl, hMd⟩; obtain ⟨g, vp, vg, hO, hbs, hbp, rfl, M⟩ := hMd; obtain ⟨Ag, cg, rfl⟩ := M.form (.head _); obtain ⟨Ap, cp, rfl⟩ := M.form (.tail _ (.head _)); (replace hO := hid hO); ((have M3 := hid (M2.out.lift M))); (clear M))
    | ((with_reducible refine gateSt (t := 29) (p := 3) rfl ?_); refine wpList_store_all (n := 6) (L1 := [.row 5 1 (.slice Ag g.prog.length cg) g.prog.length (ints .u8 g.prog), .row 35 8 (.slice Ap g.parts.length cp) g.parts.length (ptC g.parts)]) (mid := (cA g0 (.slice A1 g0.parts.length c1) (.slice A2 g0.prog.length c2)).toList) (vs := (cA g (.slice Ap g.parts.length cp) (.slice Ag g.prog.length cg)).toList) rfl rfl (by kernel_rfl) rfl rfl rfl rfl rfl (one_all rfl) M3.out ?_; intro w6 M; (have M6 := hid M); clear M))
  clear hFew M1 M2 M3 M0
  have hGof := hid (fun (w1 : World) (L' : List Ent) (M : Own w w1 L') (h1 : .row 35 8 (.slice Ap g.parts.length cp) g.parts.length (ptC g.parts) ∈ L') (h2 : .row 5 1 (.slice Ag g.prog.length cg) g.prog.length (ints .u8 g.prog) ∈ L') => show CAt w1 g (.slice Ap g.parts.length cp) (.slice Ag g.prog.length cg) from ⟨M.slice h1, M.slice h2⟩)
  have hlb := cgB_length g
  have hlp := cgB_pos g
  have hBy := hid (bytes_cgB (g := g) hO.out.pr)
  have hRef := hid (fun w1 (Xa : Option Addr) (xa : Nat) (h : DAt w1 g (.slice Xa g.parts.length xa) (.slice Ag g.prog.length cg)) (hR : cgR g = true) => refBytes_calls w1 hO.out h hR)
  have hRt := hid (fun w1 (Xa : Option Addr) (xa : Nat) (h : DAt w1 g (.slice Xa g.parts.length xa) (.slice Ag g.prog.length cg)) => refRight_calls w1 hO.out h)
  have hct := hid (fun (hR : cgR g = true) k (hk : k < (cgB g).length) => cpS_cut hO.out hR hk)
  obtain ⟨LB, hLB⟩ : ∃ LB, cgB g = LB := ⟨_, rfl⟩
  rw [hLB] at hlb hlp hBy hRef hct
  obtain ⟨nb, hnb⟩ : ∃ n, LB.length = n := ⟨_, rfl⟩
  rw [hnb] at hlb hlp hRef hct
  clear hLB
  obtain ⟨rg, hrg⟩ : ∃ b, cgR g = b := ⟨_, rfl⟩
  rw [hrg] at hRt hRef hct
  have hnbH := hid hnb
  go_upto_if 24 with (first
    | ((with_reducible refine gate (N := 21) rfl ?_); refine wpList_run rfl (exec_load_agg agg_cg rfl rfl M6.out (g := m) (t := 29) (cs := cA g (.slice Ap g.parts.length cp) (.slice Ag g.prog.length cg)) (vs := (cA g (.slice Ap g.parts.length cp) (.slice Ag g.prog.length cg)).toList) (by simp) rfl rfl) ?_)
    | (go_at_call 20; (have hC := own_calls w6 hO.out (hGof.out _ _ M6.out (by simp) (by simp)) (by omega)); ((with_reducible refine hC.mono ?_); clear hC); rintro _ w7 ⟨_, rfl, va, rfl, M⟩; obtain ⟨Xa, xa, rfl⟩ := M.form (.head _); (have M7 := hid (M6.out.lift M)); clear M)
    | (go_at_call 19; (have hC := hRt.out w7 Xa xa ⟨M7.out.slice (e := 82) (by simp), M7.out.slice (e := 5) (by simp)⟩); ((with_reducible refine hC.mono ?_); clear hC); rintro _ w8 ⟨_, rfl, rfl, hb⟩; (have M8 := hid (M7.out.keep hb)); clear hb))
  clear M6 M7
  cases rg
  · go_wp2
    go_ret
    exact .mk ⟨rfl, M8.out.below⟩
  · go_upto_region 7 with (first
      | ((with_reducible refine gate (N := 25) rfl ?_); refine wpList_run rfl (exec_load_agg agg_cg rfl rfl M8.out (g := m) (t := 29) (cs := cA g (.slice Ap g.parts.length cp) (.slice Ag g.prog.length cg)) (vs := (cA g (.slice Ap g.parts.length cp) (.slice Ag g.prog.length cg)).toList) (by simp) rfl rfl) ?_)
      | (go_at_call 20; (have hC := own_calls w8 hO.out (hGof.out _ _ M8.out (by simp) (by simp)) (by omega)); ((with_reducible refine hC.mono ?_); clear hC); rintro _ w9 ⟨_, rfl, va2, rfl, M⟩; obtain ⟨Ya, ya, rfl⟩ := M.form (.head _); (have M9 := hid (M8.out.lift M)); clear M)
      | (go_at_call 22; (have hC := hRef.out w9 Ya ya ⟨M9.out.slice (e := 82) (by simp), M9.out.slice (e := 5) (by simp)⟩ (by first | rfl | trivial)); ((with_reducible refine hC.mono ?_); clear hC); rintro _ w10 ⟨_, rfl, M⟩; obtain ⟨A10, c10, rfl⟩ := M.form (.head _); (have M10 := hid (M9.out.lift M)); clear M)
      | (go_at_call 21; (have hC := join1_calls w10 (v1 := .slice A10 nb c10) (p := LB) (n := nb) (M10.out.bytes (e := 5) (n := nb) (by simp) hnbH.out) hnbH.out (by omega)); ((with_reducible refine hC.mono ?_); clear hC); rintro _ w11 ⟨_, rfl, M⟩; obtain ⟨Aj, cj, rfl⟩ := M.form (.head _); (have M11 := hid (M10.out.lift M)); clear M))
    have MY := hid (M11.out.sub (L' := [.row 5 1 (.slice Aj nb cj) nb (ints .u8 LB)]) (by simp))
    clear M8 M9 M10 M11 hGof hRef hRt hrg hO
    obtain ⟨adj, hadj⟩ := MY.out.row_at (.head _) (by omega)
    subst hadj
    obtain ⟨A9, c9, he, hc32, hcm, -, -⟩ := MY.out.slice (.head _)
    injection he with he1 he2 he3
    subst he3
    clear he1 he2
    unfold maxLen at hcm
    obtain ⟨k, hk, hkn⟩ : ∃ k : Nat, at_ % (nb : Int) = k ∧ k < nb := ⟨(at_ % (nb : Int)).toNat, by have := Int.emod_nonneg at_ (show (nb : Int) ≠ 0 by omega); omega, by have := Int.emod_nonneg at_ (show (nb : Int) ≠ 0 by omega); have := Int.emod_lt_of_pos at_ (show (0 : Int) < nb by omega); omega⟩
    have hkt : at_.tmod (nb : Int) = k := by rw [Int.tmod_eq_emod_of_nonneg a0, hk]
    have hcut := hid (hct.out (by first | rfl | trivial) k hkn)
    have hgk := ints_get .u8 LB k (by omega)
    obtain ⟨b, hb, hb0, hb1⟩ : ∃ b, LB.getD k 0 = b ∧ 0 ≤ b ∧ b < 256 := ⟨_, rfl, hBy.out.get k⟩
    rw [hb] at hgk
    obtain ⟨z0, z1⟩ := xor8_bd b turn
    obtain ⟨z, hz⟩ : ∃ z, xor8 b turn = z := ⟨_, rfl⟩
    have hz' := hz
    unfold xor8 at hz'
    rw [hz] at z0 z1
    have hB' := hid (hBy.out.set k z0 z1)
    have hset := hid (ints_set .u8 LB k z)
    have hlz := hid (show (LB.set k z).length = nb by rw [List.length_set, hnb])
    have hBt := hid (hBy.out.take k)
    have hlt := hid (show (LB.take k).length = k by rw [List.length_take, hnb]; omega)
    have hnz : (nb : Int) ≠ 0 := by omega
    have hpr := hid (BytesAt.pre (l := LB) (k := k) (c := cj) (n := nb) (A := some ⟨adj, 0, none⟩) (w := w11) (by have := MY.out.slice (.head _); show SliceAt _ _ 1 _ LB.length _; rw [hnb]; exact this) (by omega))
    have hki : (k : Int) ≤ cj := by omega
    have hkj : k ≤ cj := by omega
    clear hz hb hBy hnb hct
    go_upto_region 10 with (first
      | (go_at_call 23; (have hC := cParse_none (V := .slice (some ⟨adj, 0, none⟩) k cj) (l := LB.take k) w11 (by rw [← hlt.out]; rw [hlt.out]; have := hpr.out; exact this) hBt.out (by rw [hlt.out]; omega) hcut.out); ((with_reducible refine hC.mono ?_); clear hC); rintro _ w12 ⟨_, rfl, rfl, hb⟩; (have M12 := hid (MY.out.keep hb)); clear hb)
      | ((with_reducible refine gate (N := 8) rfl ?_); refine wpList_box_Own rfl (cs := cNil) (t := 29) (by first | (go_simp; done) | (go_simp; rfl)) M12.out ?_; intro q w13 M; (have M13 := hid M); clear M)
      | ((with_reducible refine gateSt (t := 29) (p := 8) rfl ?_); refine wpList_store_all (n := 6) (L1 := []) (mid := cNil.toList) (vs := cNil.toList) rfl rfl (by kernel_rfl) rfl rfl rfl rfl rfl (one_all rfl) M13.out ?_; intro w14 M; (have M14 := hid M); clear M))
    obtain ⟨MS, kc, kf⟩ := Own.row_set (L1 := []) (M14.out.tail) k (by omega) (.int .u8 z)
    rw [hgk] at kc
    rw [hset.out] at MS
    replace MS := hid MS
    clear M12 M13 M14 hpr hcut hBt hlt hgk
    generalize LB.set k z = LZ at *
    go_upto_region 11 with fail
    clear kc kf
    revert MS
    generalize w14.setCell ⟨adj, k, none⟩ (.int .u8 z) = w15
    intro MS
    clear hset
    cases hp : cpS LZ with
    | none =>
      replace hp := hid hp
      go_upto_region 13 with (first
        | (go_at_call 23; (have hC := cParse_none (w := w15) (V := .slice (some ⟨adj, 0, none⟩) nb cj) (l := LZ) (MS.out.bytes (e := 5) (n := nb) (by simp) hlz.out) hB'.out (by rw [hlz.out]; omega) hp.out); ((with_reducible refine hC.mono ?_); clear hC); rintro _ w16 ⟨_, rfl, rfl, hb⟩; (have M16 := hid (MS.out.keep hb)); clear hb)
        | ((with_reducible refine gate (N := 11) rfl ?_); refine wpList_box_Own rfl (cs := cNil) (t := 29) (by first | (go_simp; done) | (go_simp; rfl)) M16.out ?_; intro q2 w17 M; (have M17 := hid M); clear M)
        | ((with_reducible refine gateSt (t := 29) (p := 11) rfl ?_); refine wpList_store_all (n := 6) (L1 := []) (mid := cNil.toList) (vs := cNil.toList) rfl rfl (by kernel_rfl) rfl rfl rfl rfl rfl (one_all rfl) M17.out ?_; intro w18 M; (have M18 := hid M); clear M)
        | (go_at_call 24; (have hC := refParse_none (w := w18) (V := .slice (some ⟨adj, 0, none⟩) nb cj) (l := LZ) (M18.out.bytes (e := 5) (n := nb) (by simp) hlz.out) hB'.out (by rw [hlz.out]; omega) hp.out); ((with_reducible refine hC.mono ?_); clear hC); rintro _ w19 ⟨_, rfl, rfl, hb⟩; (have M19 := hid (M18.out.keep hb)); clear hb)
        | ((with_reducible refine gate (N := 14) rfl ?_); refine wpList_box_Own rfl (cs := dNil) (t := 52) (by first | (go_simp; done) | (go_simp; rfl)) M19.out ?_; intro q3 w20 M; (have M20 := hid M); clear M)
        | ((with_reducible refine gateSt (t := 52) (p := 14) rfl ?_); refine wpList_store_all (n := 6) (L1 := []) (mid := dNil.toList) (vs := dNil.toList) rfl rfl (by kernel_rfl) rfl rfl rfl rfl rfl (one_all rfl) M20.out ?_; intro w21 M; (have M21 := hid M); clear M))
      go_quiet (fail)
      go_wp2
      go_ret
      exact .mk ⟨rfl, by first | exact (M21.out.drewN _).below | exact M21.out.below | exact M21.out.drew.below⟩
    | some gn =>
      obtain ⟨g2, k2⟩ := gn
      obtain ⟨hgO, hgR, -, -⟩ := cpS_back hB'.out hp
      have hnp2 : g2.parts.length ≤ 200 := (cgR_parts hgR).2.2.1
      clear hgR
      replace hgO := hid hgO
      replace hp := hid hp
      go_upto_region 13 with (first
        | (go_at_call 23; (have hC := cParse_some (w := w15) (V := .slice (some ⟨adj, 0, none⟩) nb cj) (l := LZ) (MS.out.bytes (e := 5) (n := nb) (by simp) hlz.out) hB'.out (by rw [hlz.out]; omega) hp.out); ((with_reducible refine hC.mono ?_); clear hC); rintro _ w16 ⟨_, rfl, vp, vg, -, rfl, M⟩; obtain ⟨Bp, bp, rfl⟩ := M.form (.head _); obtain ⟨Bg, bg, rfl⟩ := M.form (.tail _ (.head _)); (have M16 := hid (MS.out.lift M)); clear M)
        | ((with_reducible refine gate (N := 11) rfl ?_); refine wpList_box_Own rfl (cs := cNil) (t := 29) (by first | (go_simp; done) | (go_simp; rfl)) M16.out ?_; intro q2 w17 M; (have M17 := hid M); clear M)
        | ((with_reducible refine gateSt (t := 29) (p := 11) rfl ?_); refine wpList_store_all (n := 6) (L1 := []) (mid := cNil.toList) (vs := (cA g2 (.slice Bp g2.parts.length bp) (.slice Bg g2.prog.length bg)).toList) rfl rfl (by kernel_rfl) rfl rfl rfl rfl rfl (one_all rfl) M17.out ?_; intro w18 M; (have M18 := hid M); clear M)
        | (go_at_call 24; (have hC := refParse_some (w := w18) (V := .slice (some ⟨adj, 0, none⟩) nb cj) (l := LZ) (M18.out.bytes (e := 5) (n := nb) (by simp) hlz.out) hB'.out (by rw [hlz.out]; omega) hp.out); ((with_reducible refine hC.mono ?_); clear hC); rintro _ w19 ⟨_, rfl, vp2, vg2, rfl, M⟩; obtain ⟨Dp, dp, rfl⟩ := M.form (.head _); obtain ⟨Dg, dg, rfl⟩ := M.form (.tail _ (.head _)); (have M19 := hid (M18.out.lift M)); clear M)
        | ((with_reducible refine gate (N := 14) rfl ?_); refine wpList_box_Own rfl (cs := dNil) (t := 52) (by first | (go_simp; done) | (go_simp; rfl)) M19.out ?_; intro q3 w20 M; (have M20 := hid M); clear M)
        | ((with_reducible refine gateSt (t := 52) (p := 14) rfl ?_); refine wpList_store_all (n := 6) (L1 := []) (mid := dNil.toList) (vs := (dA g2 (.slice Dp g2.parts.length dp) (.slice Dg g2.prog.length dg)).toList) rfl rfl (by kernel_rfl) rfl rfl rfl rfl rfl (one_all rfl) M20.out ?_; intro w21 M; (have M21 := hid M); clear M))
      clear M16 M17 M18 M19 M20
      have MW := hid M21.out.drew
      clear M21
      have hS := hid (fun w1 (h : Below w21.drew.heap.size w21.drew w1) => And.intro (run_load_agg (P := Try.prog) agg_cg (g := q2) (off := 0) (vs := (cA g2 (.slice Bp g2.parts.length bp) (.slice Bg g2.prog.length bg)).toList) ((MW.out.keep h).heap (t := 29) (cs := cA g2 (.slice Bp g2.parts.length bp) (.slice Bg g2.prog.length bg)) (by simp)) rfl rfl) (run_load_agg (P := Try.prog) agg_dg (g := q3) (off := 0) (vs := (dA g2 (.slice Dp g2.parts.length dp) (.slice Dg g2.prog.length dg)).toList) ((MW.out.keep h).heap (t := 52) (cs := dA g2 (.slice Dp g2.parts.length dp) (.slice Dg g2.prog.length dg)) (by simp)) rfl rfl))
      have hGA := hid (fun w1 (h : Below w21.drew.heap.size w21.drew w1) => show CAt w1 g2 (.slice Bp g2.parts.length bp) (.slice Bg g2.prog.length bg) from ⟨(MW.out.keep h).slice (e := 35) (by simp), (MW.out.keep h).slice (e := 5) (by simp)⟩)
      have hDA := hid (fun w1 (h : Below w21.drew.heap.size w21.drew w1) => show DAt w1 g2 (.slice Dp g2.parts.length dp) (.slice Dg g2.prog.length dg) from ⟨(MW.out.keep h).slice (e := 82) (by simp), (MW.out.keep h).slice (e := 5) (by simp)⟩)
      have hend := hid (fun w1 (h : Below w21.drew.heap.size w21.drew w1) => (MW.out.keep h).below)
      refine wp_region_held_drew (S := fun w' => (loadVar 29 ⟨q2, 0, none⟩).run Try.prog w' = .ok (.agg (cA g2 (.slice Bp g2.parts.length bp) (.slice Bg g2.prog.length bg))) w' ∧ (loadVar 52 ⟨q3, 0, none⟩).run Try.prog w' = .ok (.agg (dA g2 (.slice Dp g2.parts.length dp) (.slice Dg g2.prog.length dg))) w') (by kernel_rfl) (hS.out _ (Below.refl _ _)) (fun hHeld => ?_)
      have hb0 := hid (Below.refl w21.drew.heap.size w21.drew)
      clear MW
      revert hS hGA hDA hend hHeld hb0
      generalize w21.drew = wv
      intro hS hGA hDA hend hHeld hb0
      repeat (first | (refine wpAnyH_take (i := 0) (v := ?_) rfl (by kernel_rfl) (by decide +kernel) (by decide +kernel) (fun _ _ _ h => h) ?_ (by assumption) ?_; rotate_left; (first | (refine yields_load (by rfl) rfl rfl ?_; intro w hSw; (try dsimp only at hSw); go_split_ands; assumption) | (refine Or.inl ⟨by rfl, ?_⟩; intro w hSw; (try dsimp only at hSw); go_simp; done) | (refine Or.inl ⟨by rfl, ?_⟩; intro w hSw; (try dsimp only at hSw); go_simp; with_reducible rfl) | exact Or.inr ⟨by rfl, rfl⟩ | exact Or.inr ⟨by rfl, by rfl⟩); (try simp only [Act.put, List.setIfInBounds_toArray, List.set_cons_zero, List.set_cons_succ, List.getElem_toArray, List.getElem_cons_zero, List.getElem_cons_succ])) | (refine wpAnyH_take (i := 1) (v := ?_) rfl (by kernel_rfl) (by decide +kernel) (by decide +kernel) (fun _ _ _ h => h) ?_ (by assumption) ?_; rotate_left; (first | (refine yields_load (by rfl) rfl rfl ?_; intro w hSw; (try dsimp only at hSw); go_split_ands; assumption) | (refine Or.inl ⟨by rfl, ?_⟩; intro w hSw; (try dsimp only at hSw); go_simp; done) | (refine Or.inl ⟨by rfl, ?_⟩; intro w hSw; (try dsimp only at hSw); go_simp; with_reducible rfl) | exact Or.inr ⟨by rfl, rfl⟩ | exact Or.inr ⟨by rfl, by rfl⟩); (try simp only [Act.put, List.setIfInBounds_toArray, List.set_cons_zero, List.set_cons_succ, List.getElem_toArray, List.getElem_cons_zero, List.getElem_cons_succ])) | (refine wpAnyH_take (i := 2) (v := ?_) rfl (by kernel_rfl) (by decide +kernel) (by decide +kernel) (fun _ _ _ h => h) ?_ (by assumption) ?_; rotate_left; (first | (refine yields_load (by rfl) rfl rfl ?_; intro w hSw; (try dsimp only at hSw); go_split_ands; assumption) | (refine Or.inl ⟨by rfl, ?_⟩; intro w hSw; (try dsimp only at hSw); go_simp; done) | (refine Or.inl ⟨by rfl, ?_⟩; intro w hSw; (try dsimp only at hSw); go_simp; with_reducible rfl) | exact Or.inr ⟨by rfl, rfl⟩ | exact Or.inr ⟨by rfl, by rfl⟩); (try simp only [Act.put, List.setIfInBounds_toArray, List.set_cons_zero, List.set_cons_succ, List.getElem_toArray, List.getElem_cons_zero, List.getElem_cons_succ])) | (refine wpAnyH_take (i := 3) (v := ?_) rfl (by kernel_rfl) (by decide +kernel) (by decide +kernel) (fun _ _ _ h => h) ?_ (by assumption) ?_; rotate_left; (first | (refine yields_load (by rfl) rfl rfl ?_; intro w hSw; (try dsimp only at hSw); go_split_ands; assumption) | (refine Or.inl ⟨by rfl, ?_⟩; intro w hSw; (try dsimp only at hSw); go_simp; done) | (refine Or.inl ⟨by rfl, ?_⟩; intro w hSw; (try dsimp only at hSw); go_simp; with_reducible rfl) | exact Or.inr ⟨by rfl, rfl⟩ | exact Or.inr ⟨by rfl, by rfl⟩); (try simp only [Act.put, List.setIfInBounds_toArray, List.set_cons_zero, List.set_cons_succ, List.getElem_toArray, List.getElem_cons_zero, List.getElem_cons_succ])) | (refine wpAnyH_take (i := 4) (v := ?_) rfl (by kernel_rfl) (by decide +kernel) (by decide +kernel) (fun _ _ _ h => h) ?_ (by assumption) ?_; rotate_left; (first | (refine yields_load (by rfl) rfl rfl ?_; intro w hSw; (try dsimp only at hSw); go_split_ands; assumption) | (refine Or.inl ⟨by rfl, ?_⟩; intro w hSw; (try dsimp only at hSw); go_simp; done) | (refine Or.inl ⟨by rfl, ?_⟩; intro w hSw; (try dsimp only at hSw); go_simp; with_reducible rfl) | exact Or.inr ⟨by rfl, rfl⟩ | exact Or.inr ⟨by rfl, by rfl⟩); (try simp only [Act.put, List.setIfInBounds_toArray, List.set_cons_zero, List.set_cons_succ, List.getElem_toArray, List.getElem_cons_zero, List.getElem_cons_succ])) | (refine wpAnyH_take (i := 5) (v := ?_) rfl (by kernel_rfl) (by decide +kernel) (by decide +kernel) (fun _ _ _ h => h) ?_ (by assumption) ?_; rotate_left; (first | (refine yields_load (by rfl) rfl rfl ?_; intro w hSw; (try dsimp only at hSw); go_split_ands; assumption) | (refine Or.inl ⟨by rfl, ?_⟩; intro w hSw; (try dsimp only at hSw); go_simp; done) | (refine Or.inl ⟨by rfl, ?_⟩; intro w hSw; (try dsimp only at hSw); go_simp; with_reducible rfl) | exact Or.inr ⟨by rfl, rfl⟩ | exact Or.inr ⟨by rfl, by rfl⟩); (try simp only [Act.put, List.setIfInBounds_toArray, List.set_cons_zero, List.set_cons_succ, List.getElem_toArray, List.getElem_cons_zero, List.getElem_cons_succ])) | (refine wpAnyH_take (i := 6) (v := ?_) rfl (by kernel_rfl) (by decide +kernel) (by decide +kernel) (fun _ _ _ h => h) ?_ (by assumption) ?_; rotate_left; (first | (refine yields_load (by rfl) rfl rfl ?_; intro w hSw; (try dsimp only at hSw); go_split_ands; assumption) | (refine Or.inl ⟨by rfl, ?_⟩; intro w hSw; (try dsimp only at hSw); go_simp; done) | (refine Or.inl ⟨by rfl, ?_⟩; intro w hSw; (try dsimp only at hSw); go_simp; with_reducible rfl) | exact Or.inr ⟨by rfl, rfl⟩ | exact Or.inr ⟨by rfl, by rfl⟩); (try simp only [Act.put, List.setIfInBounds_toArray, List.set_cons_zero, List.set_cons_succ, List.getElem_toArray, List.getElem_cons_zero, List.getElem_cons_succ])) | (refine wpAnyH_take (i := 7) (v := ?_) rfl (by kernel_rfl) (by decide +kernel) (by decide +kernel) (fun _ _ _ h => h) ?_ (by assumption) ?_; rotate_left; (first | (refine yields_load (by rfl) rfl rfl ?_; intro w hSw; (try dsimp only at hSw); go_split_ands; assumption) | (refine Or.inl ⟨by rfl, ?_⟩; intro w hSw; (try dsimp only at hSw); go_simp; done) | (refine Or.inl ⟨by rfl, ?_⟩; intro w hSw; (try dsimp only at hSw); go_simp; with_reducible rfl) | exact Or.inr ⟨by rfl, rfl⟩ | exact Or.inr ⟨by rfl, by rfl⟩); (try simp only [Act.put, List.setIfInBounds_toArray, List.set_cons_zero, List.set_cons_succ, List.getElem_toArray, List.getElem_cons_zero, List.getElem_cons_succ])) | (refine wpAnyH_take (i := 8) (v := ?_) rfl (by kernel_rfl) (by decide +kernel) (by decide +kernel) (fun _ _ _ h => h) ?_ (by assumption) ?_; rotate_left; (first | (refine yields_load (by rfl) rfl rfl ?_; intro w hSw; (try dsimp only at hSw); go_split_ands; assumption) | (refine Or.inl ⟨by rfl, ?_⟩; intro w hSw; (try dsimp only at hSw); go_simp; done) | (refine Or.inl ⟨by rfl, ?_⟩; intro w hSw; (try dsimp only at hSw); go_simp; with_reducible rfl) | exact Or.inr ⟨by rfl, rfl⟩ | exact Or.inr ⟨by rfl, by rfl⟩); (try simp only [Act.put, List.setIfInBounds_toArray, List.set_cons_zero, List.set_cons_succ, List.getElem_toArray, List.getElem_cons_zero, List.getElem_cons_succ])) | (refine wpAnyH_take (i := 9) (v := ?_) rfl (by kernel_rfl) (by decide +kernel) (by decide +kernel) (fun _ _ _ h => h) ?_ (by assumption) ?_; rotate_left; (first | (refine yields_load (by rfl) rfl rfl ?_; intro w hSw; (try dsimp only at hSw); go_split_ands; assumption) | (refine Or.inl ⟨by rfl, ?_⟩; intro w hSw; (try dsimp only at hSw); go_simp; done) | (refine Or.inl ⟨by rfl, ?_⟩; intro w hSw; (try dsimp only at hSw); go_simp; with_reducible rfl) | exact Or.inr ⟨by rfl, rfl⟩ | exact Or.inr ⟨by rfl, by rfl⟩); (try simp only [Act.put, List.setIfInBounds_toArray, List.set_cons_zero, List.set_cons_succ, List.getElem_toArray, List.getElem_cons_zero, List.getElem_cons_succ])) | (refine wpAnyH_take (i := 10) (v := ?_) rfl (by kernel_rfl) (by decide +kernel) (by decide +kernel) (fun _ _ _ h => h) ?_ (by assumption) ?_; rotate_left; (first | (refine yields_load (by rfl) rfl rfl ?_; intro w hSw; (try dsimp only at hSw); go_split_ands; assumption) | (refine Or.inl ⟨by rfl, ?_⟩; intro w hSw; (try dsimp only at hSw); go_simp; done) | (refine Or.inl ⟨by rfl, ?_⟩; intro w hSw; (try dsimp only at hSw); go_simp; with_reducible rfl) | exact Or.inr ⟨by rfl, rfl⟩ | exact Or.inr ⟨by rfl, by rfl⟩); (try simp only [Act.put, List.setIfInBounds_toArray, List.set_cons_zero, List.set_cons_succ, List.getElem_toArray, List.getElem_cons_zero, List.getElem_cons_succ])) | (refine wpAnyH_take (i := 11) (v := ?_) rfl (by kernel_rfl) (by decide +kernel) (by decide +kernel) (fun _ _ _ h => h) ?_ (by assumption) ?_; rotate_left; (first | (refine yields_load (by rfl) rfl rfl ?_; intro w hSw; (try dsimp only at hSw); go_split_ands; assumption) | (refine Or.inl ⟨by rfl, ?_⟩; intro w hSw; (try dsimp only at hSw); go_simp; done) | (refine Or.inl ⟨by rfl, ?_⟩; intro w hSw; (try dsimp only at hSw); go_simp; with_reducible rfl) | exact Or.inr ⟨by rfl, rfl⟩ | exact Or.inr ⟨by rfl, by rfl⟩); (try simp only [Act.put, List.setIfInBounds_toArray, List.set_cons_zero, List.set_cons_succ, List.getElem_toArray, List.getElem_cons_zero, List.getElem_cons_succ])) | (refine wpAnyH_take (i := 12) (v := ?_) rfl (by kernel_rfl) (by decide +kernel) (by decide +kernel) (fun _ _ _ h => h) ?_ (by assumption) ?_; rotate_left; (first | (refine yields_load (by rfl) rfl rfl ?_; intro w hSw; (try dsimp only at hSw); go_split_ands; assumption) | (refine Or.inl ⟨by rfl, ?_⟩; intro w hSw; (try dsimp only at hSw); go_simp; done) | (refine Or.inl ⟨by rfl, ?_⟩; intro w hSw; (try dsimp only at hSw); go_simp; with_reducible rfl) | exact Or.inr ⟨by rfl, rfl⟩ | exact Or.inr ⟨by rfl, by rfl⟩); (try simp only [Act.put, List.setIfInBounds_toArray, List.set_cons_zero, List.set_cons_succ, List.getElem_toArray, List.getElem_cons_zero, List.getElem_cons_succ])) | (refine wpAnyH_take (i := 14) (v := ?_) rfl (by kernel_rfl) (by decide +kernel) (by decide +kernel) (fun _ _ _ h => h) ?_ (by assumption) ?_; rotate_left; (first | (refine yields_load (by rfl) rfl rfl ?_; intro w hSw; (try dsimp only at hSw); go_split_ands; assumption) | (refine Or.inl ⟨by rfl, ?_⟩; intro w hSw; (try dsimp only at hSw); go_simp; done) | (refine Or.inl ⟨by rfl, ?_⟩; intro w hSw; (try dsimp only at hSw); go_simp; with_reducible rfl) | exact Or.inr ⟨by rfl, rfl⟩ | exact Or.inr ⟨by rfl, by rfl⟩); (try simp only [Act.put, List.setIfInBounds_toArray, List.set_cons_zero, List.set_cons_succ, List.getElem_toArray, List.getElem_cons_zero, List.getElem_cons_succ])))
      refine wpAnyH_ready (rs := [13]) (by decide +kernel) (by simp) ?_; refine AllReadyH.cons rfl (fun K hK => ?_) AllReadyH.nil; go_simp
      refine (own_calls wv hgO.out (hGA.out _ hb0.out) (by omega)).mono ?_
      rintro _ w22 ⟨_, rfl, va, rfl, M⟩
      obtain ⟨Ea, ea, rfl⟩ := M.form (.head _)
      have N22 := hid M
      clear M
      go_wp2_with fail
      have hc := hS.out _ N22.out.below
      refine hK.out _ _ hc (fun hHeld => ?_); clear hK K; (try simp only [Act.put, List.setIfInBounds_toArray, List.set_cons_zero, List.set_cons_succ, List.getElem_toArray, List.getElem_cons_zero, List.getElem_cons_succ])
      clear hc
      repeat (first | (refine wpAnyH_take (i := 14) (v := ?_) rfl (by kernel_rfl) (by decide +kernel) (by decide +kernel) (fun _ _ _ h => h) ?_ (by assumption) ?_; rotate_left; (first | (refine yields_load (by rfl) rfl rfl ?_; intro w hSw; (try dsimp only at hSw); go_split_ands; assumption) | (refine Or.inl ⟨by rfl, ?_⟩; intro w hSw; (try dsimp only at hSw); go_simp; done) | (refine Or.inl ⟨by rfl, ?_⟩; intro w hSw; (try dsimp only at hSw); go_simp; with_reducible rfl) | exact Or.inr ⟨by rfl, rfl⟩ | exact Or.inr ⟨by rfl, by rfl⟩); (try simp only [Act.put, List.setIfInBounds_toArray, List.set_cons_zero, List.set_cons_succ, List.getElem_toArray, List.getElem_cons_zero, List.getElem_cons_succ])))
      refine wpAnyH_ready (rs := [15]) (by decide +kernel) (by simp) ?_; refine AllReadyH.cons rfl (fun K hK => ?_) AllReadyH.nil; go_simp
      refine (refSame_calls w22 (g := g2) (vp := .slice Ea g2.parts.length ea) (vg := .slice Bg g2.prog.length bg) ⟨N22.out.slice (e := 82) (.head _), (hGA.out _ N22.out.below).g⟩ (hDA.out _ N22.out.below)).mono ?_
      rintro _ w23 ⟨_, rfl, rfl, hb⟩
      have N23 := hid (N22.out.keep hb)
      clear hb
      go_wp2_with fail
      have hc := hS.out _ N23.out.below
      refine hK.out _ _ hc (fun hHeld => ?_); clear hK K; (try simp only [Act.put, List.setIfInBounds_toArray, List.set_cons_zero, List.set_cons_succ, List.getElem_toArray, List.getElem_cons_zero, List.getElem_cons_succ])
      clear hc
      repeat (first | (refine wpAnyH_take (i := 16) (v := ?_) rfl (by kernel_rfl) (by decide +kernel) (by decide +kernel) (fun _ _ _ h => h) ?_ (by assumption) ?_; rotate_left; (first | (refine yields_load (by rfl) rfl rfl ?_; intro w hSw; (try dsimp only at hSw); go_split_ands; assumption) | (refine Or.inl ⟨by rfl, ?_⟩; intro w hSw; (try dsimp only at hSw); go_simp; done) | (refine Or.inl ⟨by rfl, ?_⟩; intro w hSw; (try dsimp only at hSw); go_simp; with_reducible rfl) | exact Or.inr ⟨by rfl, rfl⟩ | exact Or.inr ⟨by rfl, by rfl⟩); (try simp only [Act.put, List.setIfInBounds_toArray, List.set_cons_zero, List.set_cons_succ, List.getElem_toArray, List.getElem_cons_zero, List.getElem_cons_succ])) | (refine wpAnyH_take (i := 17) (v := ?_) rfl (by kernel_rfl) (by decide +kernel) (by decide +kernel) (fun _ _ _ h => h) ?_ (by assumption) ?_; rotate_left; (first | (refine yields_load (by rfl) rfl rfl ?_; intro w hSw; (try dsimp only at hSw); go_split_ands; assumption) | (refine Or.inl ⟨by rfl, ?_⟩; intro w hSw; (try dsimp only at hSw); go_simp; done) | (refine Or.inl ⟨by rfl, ?_⟩; intro w hSw; (try dsimp only at hSw); go_simp; with_reducible rfl) | exact Or.inr ⟨by rfl, rfl⟩ | exact Or.inr ⟨by rfl, by rfl⟩); (try simp only [Act.put, List.setIfInBounds_toArray, List.set_cons_zero, List.set_cons_succ, List.getElem_toArray, List.getElem_cons_zero, List.getElem_cons_succ])) | (refine wpAnyH_take (i := 18) (v := ?_) rfl (by kernel_rfl) (by decide +kernel) (by decide +kernel) (fun _ _ _ h => h) ?_ (by assumption) ?_; rotate_left; (first | (refine yields_load (by rfl) rfl rfl ?_; intro w hSw; (try dsimp only at hSw); go_split_ands; assumption) | (refine Or.inl ⟨by rfl, ?_⟩; intro w hSw; (try dsimp only at hSw); go_simp; done) | (refine Or.inl ⟨by rfl, ?_⟩; intro w hSw; (try dsimp only at hSw); go_simp; with_reducible rfl) | exact Or.inr ⟨by rfl, rfl⟩ | exact Or.inr ⟨by rfl, by rfl⟩); (try simp only [Act.put, List.setIfInBounds_toArray, List.set_cons_zero, List.set_cons_succ, List.getElem_toArray, List.getElem_cons_zero, List.getElem_cons_succ])) | (refine wpAnyH_take (i := 19) (v := ?_) rfl (by kernel_rfl) (by decide +kernel) (by decide +kernel) (fun _ _ _ h => h) ?_ (by assumption) ?_; rotate_left; (first | (refine yields_load (by rfl) rfl rfl ?_; intro w hSw; (try dsimp only at hSw); go_split_ands; assumption) | (refine Or.inl ⟨by rfl, ?_⟩; intro w hSw; (try dsimp only at hSw); go_simp; done) | (refine Or.inl ⟨by rfl, ?_⟩; intro w hSw; (try dsimp only at hSw); go_simp; with_reducible rfl) | exact Or.inr ⟨by rfl, rfl⟩ | exact Or.inr ⟨by rfl, by rfl⟩); (try simp only [Act.put, List.setIfInBounds_toArray, List.set_cons_zero, List.set_cons_succ, List.getElem_toArray, List.getElem_cons_zero, List.getElem_cons_succ])))
      refine wpAnyH_done (by kernel_rfl) ?_ _
      go_wp2_with fail
      go_ret
      exact .mk ⟨rfl, hend.out _ N23.out.below⟩
end Go.Proofs.Yteoicpbfjkjogaa
