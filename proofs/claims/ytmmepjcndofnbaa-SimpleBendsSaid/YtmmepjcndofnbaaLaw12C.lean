/- Layer 12: an outline's bytes of which one is turned, or that are cut off (SimpleBends). -/
import Derived.Test.YtmmepjcndofnbaaLaw12A
import Derived.Test.YtmmepjcndofnbaaSimpZb
namespace Go.Proofs.Ytmmepjcndofnbaa
open Go Go.RowKit
set_option linter.unusedVariables false
set_option linter.unusedSimpArgs false
set_option maxRecDepth 100000

theorem sgB_len (g : Sg) : (sgB g).length ≤ 12 + 2 * g.ends.length + g.prog.length + 6 * g.pts.length := by
  have h1 := xsK_length g.pts g.pts.length
  have h2 := ysK_length g.pts g.pts.length
  have h3 := rowsF_length (flsK g.pts g.pts.length).length (flsK g.pts g.pts.length)
  rw [flsK_length] at h3
  have e1 := flatN_length s2 s2_length g.box
  have e2 := flatN_length _root_.Go.Proofs.Ytmmepjcndofnbaa.b2 b2_length g.ends
  have e3 : g.box.length = 4 := rfl
  unfold sgB hdB rowsB
  simp only [List.length_append, b2_length, flsK_length]
  omega
/-- A byte that is turned. -/
def xor8 (a b : Int) : Int := bits .xor .u8 a b
theorem xor8_bd (a b : Int) : 0 ≤ xor8 a b ∧ xor8 a b < 256 := wf_u8 (wf_bits _ _ _ _)
theorem Bytes.set {l : List Int} (h : Bytes l) (i : Nat) {x : Int} (h0 : 0 ≤ x) (h1 : x < 256) : Bytes (l.set i x) := by
  intro y hy
  rcases List.mem_or_eq_of_mem_set hy with hy | rfl
  · exact h y hy
  · exact ⟨h0, h1⟩
theorem ints_set (k : IntKind) (l : List Int) (i : Nat) (x : Int) : (ints k l).set i (.int k x) = ints k (l.set i x) := by simp [ints, List.map_set]
theorem BytesAt.pre {w : World} {A : Option Addr} {c n k : Nat} {l : List Int} (h : BytesAt w (.slice A n c) l) (hk : k ≤ l.length) : BytesAt w (.slice A k c) (l.take k) := by
  obtain ⟨A', c', he, hnc, hcm, hA, hr⟩ := h
  injection he with he1 he2 he3
  subst he1; subst he3
  have hl : (l.take k).length = k := by rw [List.length_take]; omega
  refine ⟨A, c, by rw [hl], by omega, hcm, hA, by rw [ints_length, hl, Nat.mul_one], fun hn => ?_⟩
  obtain ⟨ad, rfl, hb, hc⟩ := hr.2 (by omega)
  refine ⟨ad, rfl, hb, fun j u hu => hc j u ?_⟩
  rw [show ints IntKind.u8 (l.take k) = (ints .u8 l).take k by simp [ints, List.map_take], List.getElem?_take] at hu
  split at hu
  · exact hu
  · cases hu
theorem sgB_pos' (g : Sg) : 0 < (sgB g).length := sgB_pos g
set_option maxHeartbeats 8000000 in
theorem simpleBends_calls (w : World) {V1 V2 : Value} {ps : List (Int × Int × Bool)} {zs : List Int} {at_ turn : Int}
    (h1 : SliceAt w w.heap.size 3 V1 ps.length (spC ps)) (hp : ∀ p ∈ ps, I16 p.1 ∧ I16 p.2.1) (h2 : BytesAt w V2 zs) (hZ : Bytes zs) (a0 : 0 ≤ at_) (a1 : at_ < 65536) (t0 : 0 ≤ turn) (t1 : turn < 256) :
    Calls Try.prog 5 #[V1, V2, .int .u16 at_, .int .u8 turn] w (Ret fun r w' => r = .bool true ∧ Below w.heap.size w w') := by
  have M0 := hid (Own.start w)
  have h7 : Bytes [7] := by intro x hx; rw [List.mem_singleton] at hx; omega
  have hMade := hid (fun w1 (h : Below w.heap.size w w1) V3 (h3 : BytesAt w1 V3 [7]) => made_calls w1 (a := 1) (b := 2) (c := 3) (d := 4) (by decide) (by decide) (by decide) (by decide) (h1.below h) hp (h2.below h) hZ h3 h7)
  obtain ⟨A1, c1, rfl, -⟩ := h1
  obtain ⟨A2, c2, rfl, -⟩ := h2
  have hpb : (ps.take 300).length ≤ 300 := by rw [List.length_take]; omega
  generalize ps.take 300 = qs at *
  have hpr : ([7] : List Int).take 30 = [7] := rfl
  rw [hpr] at hMade
  clear hp hZ h7 hpr
  go_enter Try.func5, Try.ntmps5
  go_upto_region 4 with (first
    | (go_at_call 9; refine (awake_calls _).mono ?_; rintro _ w2 ⟨_, rfl, rfl, hb⟩; (have M2 := hid (M0.out.keep hb)); clear hb)
    | (go_at_call 10; (have MA := hid (M2.out.alloc 5 #[.int .u8 7])); (have hC := hMade.out _ MA.out.below _ (SliceAt.built MA.out (.head _) 1 1 rfl (by unfold maxLen; omega))); refine hC.mono ?_; clear hC; rintro _ w3 ⟨_, rfl, hMd⟩; obtain ⟨g, ve, vp, vs, hO, -, -, -, -, hgp, hgs, hel, rfl, M⟩ := hMd; obtain ⟨Ae, ce, rfl⟩ := M.form (.head _); obtain ⟨Ap, cp, rfl⟩ := M.form (.tail _ (.head _)); obtain ⟨As, cs, rfl⟩ := M.form (.tail _ (.tail _ (.head _))); (have hbp : g.prog.length ≤ 30 := by rw [hgp]; simp); (have hbs : g.pts.length ≤ 300 := by rw [hgs]; exact hpb); clear hgp hgs; replace hO := hid hO; (have M3 := hid (MA.out.lift M)); clear M MA)
    | ((with_reducible refine gate (N := 9) rfl ?_); refine wpList_box_Own rfl (cs := gNil) (t := 29) (by first | (go_simp; done) | (go_simp; rfl)) M3.out ?_; intro m w5 M; (have M5 := hid M); clear M)
    | ((with_reducible refine gateSt (t := 29) (p := 9) rfl ?_); refine wpList_store_all (n := 7) (L1 := []) (mid := gNil.toList) (vs := (gA g (.slice Ae g.ends.length ce) (.slice Ap g.prog.length cp) (.slice As g.pts.length cs)).toList) rfl rfl (by kernel_rfl) rfl rfl rfl rfl rfl (one_all rfl) M5.out ?_; intro w6 M; (have M6 := hid M); clear M))
  clear hMade M2 M3 M5 M0
  have hGof := hid (fun (w1 : World) (L' : List Ent) (M : Own w w1 L') (h1 : .row 38 1 (.slice Ae g.ends.length ce) g.ends.length (ints .u16 g.ends) ∈ L') (h2 : .row 5 1 (.slice Ap g.prog.length cp) g.prog.length (ints .u8 g.prog) ∈ L') (h3 : .row 37 3 (.slice As g.pts.length cs) g.pts.length (spC g.pts) ∈ L') => show GAt w1 g (.slice Ae g.ends.length ce) (.slice Ap g.prog.length cp) (.slice As g.pts.length cs) from ⟨M.slice h1, M.slice h2, M.slice h3⟩)
  have hps := hid (fun hR => parseS_sgB hO.out (g := g) hR)
  have hlb := sgB_len g
  have hlp := sgB_pos' g
  have hBy := hid (sgB_bytes hO.out)
  have hRef := hid (fun w1 (Xa : Option Addr) (xa : Nat) (Xb : Option Addr) (xb : Nat) (h : RAt w1 g (.slice Xa g.ends.length xa) (.slice Ap g.prog.length cp) (.slice Xb g.pts.length xb)) => refBytes_calls w1 hO.out h (by omega) (by omega) (by omega))
  have hRt := hid (fun w1 (Xa : Option Addr) (xa : Nat) (Xb : Option Addr) (xb : Nat) (h : RAt w1 g (.slice Xa g.ends.length xa) (.slice Ap g.prog.length cp) (.slice Xb g.pts.length xb)) => refRight_calls w1 hO.out h)
  obtain ⟨LB, hLB⟩ : ∃ LB, sgB g = LB := ⟨_, rfl⟩
  rw [hLB] at hps hlb hlp hBy hRef
  obtain ⟨nb, hnb⟩ : ∃ n, LB.length = n := ⟨_, rfl⟩
  rw [hnb] at hlb hlp hps hRef
  clear hLB
  obtain ⟨rg, hrg⟩ : ∃ b, sgR g = b := ⟨_, rfl⟩
  rw [hrg] at hRt hps
  have hnbH := hid hnb
  go_upto_if 35 with (first
    | ((with_reducible refine gate (N := 27) rfl ?_); refine wpList_run rfl (exec_load_agg agg_glyph rfl rfl M6.out (g := m) (t := 29) (cs := gA g (.slice Ae g.ends.length ce) (.slice Ap g.prog.length cp) (.slice As g.pts.length cs)) (vs := (gA g (.slice Ae g.ends.length ce) (.slice Ap g.prog.length cp) (.slice As g.pts.length cs)).toList) (by simp) rfl rfl) ?_)
    | (go_at_call 15; (have hC := own_calls w6 hO.out (hGof.out _ _ M6.out (by simp) (by simp) (by simp)) (by omega) (by omega)); ((with_reducible refine hC.mono ?_); clear hC); rintro _ w7 ⟨_, rfl, va, vb, rfl, M⟩; obtain ⟨Xa, xa, rfl⟩ := M.form (.head _); obtain ⟨Xb, xb, rfl⟩ := M.form (.tail _ (.head _)); (have M7 := hid (M6.out.lift M)); clear M)
    | (go_at_call 19; (have hC := hRef.out w7 Xa xa Xb xb ⟨M7.out.slice (e := 3) (by simp), M7.out.slice (e := 5) (by simp), M7.out.slice (e := 66) (by simp)⟩); ((with_reducible refine hC.mono ?_); clear hC); rintro _ w8 ⟨_, rfl, M⟩; obtain ⟨A8, c8, rfl⟩ := M.form (.head _); (have M8 := hid (M7.out.lift M)); clear M)
    | (go_at_call 18; (have hC := join1_calls w8 (v1 := .slice A8 nb c8) (p := LB) (n := nb) (M8.out.bytes (e := 5) (n := nb) (by simp) hnbH.out) hnbH.out (by omega)); ((with_reducible refine hC.mono ?_); clear hC); rintro _ w9 ⟨_, rfl, M⟩; obtain ⟨Aj, cj, rfl⟩ := M.form (.head _); (have M9 := hid (M8.out.lift M)); clear M)
    | ((with_reducible refine gate (N := 32) rfl ?_); refine wpList_run rfl (exec_load_agg agg_glyph rfl rfl M9.out (g := m) (t := 29) (cs := gA g (.slice Ae g.ends.length ce) (.slice Ap g.prog.length cp) (.slice As g.pts.length cs)) (vs := (gA g (.slice Ae g.ends.length ce) (.slice Ap g.prog.length cp) (.slice As g.pts.length cs)).toList) (by simp) rfl rfl) ?_)
    | (go_at_call 15; (have hC := own_calls w9 hO.out (hGof.out _ _ M9.out (by simp) (by simp) (by simp)) (by omega) (by omega)); ((with_reducible refine hC.mono ?_); clear hC); rintro _ w10 ⟨_, rfl, va2, vb2, rfl, M⟩; obtain ⟨Ya, ya, rfl⟩ := M.form (.head _); obtain ⟨Yb, yb, rfl⟩ := M.form (.tail _ (.head _)); (have M10 := hid (M9.out.lift M)); clear M)
    | (go_at_call 14; (have hC := hRt.out w10 Ya ya Yb yb ⟨M10.out.slice (e := 3) (by simp), M10.out.slice (e := 5) (by simp), M10.out.slice (e := 66) (by simp)⟩); ((with_reducible refine hC.mono ?_); clear hC); rintro _ w11 ⟨_, rfl, rfl, hb⟩; (have M11 := hid (M10.out.keep hb)); clear hb))
  have M11 : Hid (Own w w11 [.row 3 1 (.slice Ya g.ends.length ya) g.ends.length (ints .i64 g.ends), .row 66 3 (.slice Yb g.pts.length yb) g.pts.length (dpC g.pts), .row 5 1 (.slice Aj nb cj) nb (ints .u8 LB), .row 5 1 (.slice A8 nb c8) nb (ints .u8 LB), .row 3 1 (.slice Xa g.ends.length xa) g.ends.length (ints .i64 g.ends), .row 66 3 (.slice Xb g.pts.length xb) g.pts.length (dpC g.pts), .blk m 29 (gA g (.slice Ae g.ends.length ce) (.slice Ap g.prog.length cp) (.slice As g.pts.length cs)), .row 38 1 (.slice Ae g.ends.length ce) g.ends.length (ints .u16 g.ends), .row 5 1 (.slice Ap g.prog.length cp) g.prog.length (ints .u8 g.prog), .row 37 3 (.slice As g.pts.length cs) g.pts.length (spC g.pts), .blk w2.heap.size 5 #[.int .u8 7]]) := M11
  cases rg
  · go_wp2
    go_ret
    exact .mk ⟨rfl, M11.out.below⟩
  · have hpar := hps.out rfl
    have MY := hid (M11.out.sub (L' := [.row 5 1 (.slice Aj nb cj) nb (ints .u8 LB)]) (by simp))
    clear M6 M7 M8 M9 M10 M11 hGof hRef hRt hps hrg hO
    obtain ⟨adj, hadj⟩ := MY.out.row_at (.head _) (by omega)
    subst hadj
    obtain ⟨A9, c9, he, hc32, hcm, -, -⟩ := MY.out.slice (.head _)
    injection he with he1 he2 he3
    subst he3
    clear he1 he2
    unfold maxLen at hcm
    obtain ⟨k, hk, hkn⟩ : ∃ k : Nat, at_ % (nb : Int) = k ∧ k < nb := ⟨(at_ % (nb : Int)).toNat, by have := Int.emod_nonneg at_ (show (nb : Int) ≠ 0 by omega); omega, by have := Int.emod_nonneg at_ (show (nb : Int) ≠ 0 by omega); have := Int.emod_lt_of_pos at_ (show (0 : Int) < nb by omega); omega⟩
    have hkt : at_.tmod (nb : Int) = k := by rw [Int.tmod_eq_emod_of_nonneg a0, hk]
    have hcut := hid (parseS_cut (l := LB) (g := g) (by rw [hnb]; exact hpar) (k := k) (by omega))
    have hgk := ints_get .u8 LB k (by omega)
    obtain ⟨b, hb, hb0, hb1⟩ : ∃ b, LB.getD k 0 = b ∧ 0 ≤ b ∧ b < 256 := ⟨_, rfl, hBy.out.get k⟩
    rw [hb] at hgk
    obtain ⟨z0, z1⟩ := xor8_bd b turn
    obtain ⟨z, hz⟩ : ∃ z, xor8 b turn = z := ⟨_, rfl⟩
    have hz' := hz
    unfold xor8 at hz'
    rw [hz] at z0 z1
    have hB' := hid (hBy.out.set k z0 z1)
    have hset := hid (ints_set .u8 LB k z)
    have hlz := hid (show (LB.set k z).length = nb by rw [List.length_set, hnb])
    have hBt := hid (hBy.out.take k)
    have hlt := hid (show (LB.take k).length = k by rw [List.length_take, hnb]; omega)
    have hnz : (nb : Int) ≠ 0 := by omega
    have hpr := hid (BytesAt.pre (l := LB) (k := k) (c := cj) (n := nb) (A := some ⟨adj, 0, none⟩) (w := w11) (by have := MY.out.slice (.head _); show SliceAt _ _ 1 _ LB.length _; rw [hnb]; exact this) (by omega))
    have hki : (k : Int) ≤ cj := by omega
    have hkj : k ≤ cj := by omega
    clear hz hb hBy hpar hnb
    go_upto_region 10 with (first
      | (go_at_call 20; (have hC := parse_none (V := .slice (some ⟨adj, 0, none⟩) k cj) (l := LB.take k) (by rw [← hlt.out]; rw [hlt.out]; have := hpr.out; exact this) hBt.out (by rw [hlt.out]; omega) hcut.out); ((with_reducible refine hC.mono ?_); clear hC); rintro _ w12 ⟨_, rfl, rfl, hb⟩; (have M12 := hid (MY.out.keep hb)); clear hb)
      | ((with_reducible refine gate (N := 11) rfl ?_); refine wpList_box_Own rfl (cs := gNil) (t := 29) (by first | (go_simp; done) | (go_simp; rfl)) M12.out ?_; intro q w13 M; (have M13 := hid M); clear M)
      | ((with_reducible refine gateSt (t := 29) (p := 11) rfl ?_); refine wpList_store_all (n := 7) (L1 := []) (mid := gNil.toList) (vs := gNil.toList) rfl rfl (by kernel_rfl) rfl rfl rfl rfl rfl (one_all rfl) M13.out ?_; intro w14 M; (have M14 := hid M); clear M))
    obtain ⟨MS, kc, kf⟩ := Own.row_set (L1 := []) (M14.out.tail) k (by omega) (.int .u8 z)
    rw [hgk] at kc
    rw [hset.out] at MS
    replace MS := hid MS
    clear M12 M13 M14 hpr hcut hBt hlt hgk
    generalize LB.set k z = LZ at *
    go_upto_region 11 with fail
    clear kc kf
    revert MS
    generalize w14.setCell ⟨adj, k, none⟩ (.int .u8 z) = w15
    intro MS
    clear hset
    cases hp : parseS LZ with
    | none =>
      replace hp := hid hp
      go_upto_region 13 with (first
        | (go_at_call 20; (have hC := parse_none (w := w15) (V := .slice (some ⟨adj, 0, none⟩) nb cj) (l := LZ) (MS.out.bytes (e := 5) (n := nb) (by simp) hlz.out) hB'.out (by rw [hlz.out]; omega) hp.out); ((with_reducible refine hC.mono ?_); clear hC); rintro _ w16 ⟨_, rfl, rfl, hb⟩; (have M16 := hid (MS.out.keep hb)); clear hb)
        | ((with_reducible refine gate (N := 14) rfl ?_); refine wpList_box_Own rfl (cs := gNil) (t := 29) (by first | (go_simp; done) | (go_simp; rfl)) M16.out ?_; intro q2 w17 M; (have M17 := hid M); clear M)
        | ((with_reducible refine gateSt (t := 29) (p := 14) rfl ?_); refine wpList_store_all (n := 7) (L1 := []) (mid := gNil.toList) (vs := gNil.toList) rfl rfl (by kernel_rfl) rfl rfl rfl rfl rfl (one_all rfl) M17.out ?_; intro w18 M; (have M18 := hid M); clear M)
        | (go_at_call 21; (have hC := refParse_none (w := w18) (V := .slice (some ⟨adj, 0, none⟩) nb cj) (l := LZ) (M18.out.bytes (e := 5) (n := nb) (by simp) hlz.out) hB'.out (by rw [hlz.out]; omega) hp.out); ((with_reducible refine hC.mono ?_); clear hC); rintro _ w19 ⟨_, rfl, rfl, hb⟩; (have M19 := hid (M18.out.keep hb)); clear hb)
        | ((with_reducible refine gate (N := 17) rfl ?_); refine wpList_box_Own rfl (cs := rNil) (t := 46) (by first | (go_simp; done) | (go_simp; rfl)) M19.out ?_; intro q3 w20 M; (have M20 := hid M); clear M)
        | ((with_reducible refine gateSt (t := 46) (p := 17) rfl ?_); refine wpList_store_all (n := 7) (L1 := []) (mid := rNil.toList) (vs := rNil.toList) rfl rfl (by kernel_rfl) rfl rfl rfl rfl rfl (one_all rfl) M20.out ?_; intro w21 M; (have M21 := hid M); clear M))
      go_quiet (fail)
      go_wp2
      go_ret
      exact .mk ⟨rfl, by first | exact (M21.out.drewN _).below | exact M21.out.below | exact M21.out.drew.below⟩
    | some gn =>
      obtain ⟨g2, k2⟩ := gn
      have hlen := parseS_len hB'.out hp
      have hzl := hlz.out
      replace hp := hid hp
      go_upto_region 13 with (first
        | (go_at_call 20; (have hC := parse_some (w := w15) (V := .slice (some ⟨adj, 0, none⟩) nb cj) (l := LZ) (MS.out.bytes (e := 5) (n := nb) (by simp) hlz.out) hB'.out (by rw [hlz.out]; omega) hp.out); ((with_reducible refine hC.mono ?_); clear hC); rintro _ w16 ⟨_, rfl, ve, vp, vs, hOk, rfl, M⟩; obtain ⟨Be, be, rfl⟩ := M.form (.head _); obtain ⟨Bp, bp, rfl⟩ := M.form (.tail _ (.head _)); obtain ⟨Bs, bs, rfl⟩ := M.form (.tail _ (.tail _ (.head _))); (replace hOk := hid hOk); (have M16 := hid (MS.out.lift M)); clear M)
        | ((with_reducible refine gate (N := 14) rfl ?_); refine wpList_box_Own rfl (cs := gNil) (t := 29) (by first | (go_simp; done) | (go_simp; rfl)) M16.out ?_; intro q2 w17 M; (have M17 := hid M); clear M)
        | ((with_reducible refine gateSt (t := 29) (p := 14) rfl ?_); refine wpList_store_all (n := 7) (L1 := []) (mid := gNil.toList) (vs := (gA g2 (.slice Be g2.ends.length be) (.slice Bp g2.prog.length bp) (.slice Bs g2.pts.length bs)).toList) rfl rfl (by kernel_rfl) rfl rfl rfl rfl rfl (one_all rfl) M17.out ?_; intro w18 M; (have M18 := hid M); clear M)
        | (go_at_call 21; (have hC := refParse_some (w := w18) (V := .slice (some ⟨adj, 0, none⟩) nb cj) (l := LZ) (M18.out.bytes (e := 5) (n := nb) (by simp) hlz.out) hB'.out (by rw [hlz.out]; omega) hp.out); ((with_reducible refine hC.mono ?_); clear hC); rintro _ w19 ⟨_, rfl, ve2, vp2, vs2, rfl, M⟩; obtain ⟨De, de, rfl⟩ := M.form (.head _); obtain ⟨Dp, dp, rfl⟩ := M.form (.tail _ (.head _)); obtain ⟨Ds, ds, rfl⟩ := M.form (.tail _ (.tail _ (.head _))); (have M19 := hid (M18.out.lift M)); clear M)
        | ((with_reducible refine gate (N := 17) rfl ?_); refine wpList_box_Own rfl (cs := rNil) (t := 46) (by first | (go_simp; done) | (go_simp; rfl)) M19.out ?_; intro q3 w20 M; (have M20 := hid M); clear M)
        | ((with_reducible refine gateSt (t := 46) (p := 17) rfl ?_); refine wpList_store_all (n := 7) (L1 := []) (mid := rNil.toList) (vs := (rA g2.b0 g2.b1 g2.b2 g2.b3 (.slice De g2.ends.length de) (.slice Dp g2.prog.length dp) (.slice Ds g2.pts.length ds)).toList) rfl rfl (by kernel_rfl) rfl rfl rfl rfl rfl (one_all rfl) M20.out ?_; intro w21 M; (have M21 := hid M); clear M))
      clear M16 M17 M18 M19 M20
      have MW := hid M21.out.drew
      clear M21
      refine wp_region_held_drew (S := fun w' => (loadVar 29 ⟨q2, 0, none⟩).run Try.prog w' = .ok (.agg (gA g2 (.slice Be g2.ends.length be) (.slice Bp g2.prog.length bp) (.slice Bs g2.pts.length bs))) w' ∧ (loadVar 46 ⟨q3, 0, none⟩).run Try.prog w' = .ok (.agg (rA g2.b0 g2.b1 g2.b2 g2.b3 (.slice De g2.ends.length de) (.slice Dp g2.prog.length dp) (.slice Ds g2.pts.length ds))) w') (by kernel_rfl) (And.intro (run_load_agg (P := Try.prog) agg_glyph (g := q2) (off := 0) (vs := (gA g2 (.slice Be g2.ends.length be) (.slice Bp g2.prog.length bp) (.slice Bs g2.pts.length bs)).toList) (MW.out.heap (t := 29) (cs := gA g2 (.slice Be g2.ends.length be) (.slice Bp g2.prog.length bp) (.slice Bs g2.pts.length bs)) (by simp)) rfl rfl) (run_load_agg (P := Try.prog) agg_ref (g := q3) (off := 0) (vs := (rA g2.b0 g2.b1 g2.b2 g2.b3 (.slice De g2.ends.length de) (.slice Dp g2.prog.length dp) (.slice Ds g2.pts.length ds)).toList) (MW.out.heap (t := 46) (cs := rA g2.b0 g2.b1 g2.b2 g2.b3 (.slice De g2.ends.length de) (.slice Dp g2.prog.length dp) (.slice Ds g2.pts.length ds)) (by simp)) rfl rfl)) (fun hHeld => ?_)
      revert MW hHeld
      generalize w21.drew = wv
      intro MW hHeld
      have hGA := hid (show GAt wv g2 (.slice Be g2.ends.length be) (.slice Bp g2.prog.length bp) (.slice Bs g2.pts.length bs) from ⟨MW.out.slice (e := 38) (by simp), MW.out.slice (e := 5) (by simp), MW.out.slice (e := 37) (by simp)⟩)
      repeat (first | (refine wpAnyH_take (i := 0) (v := ?_) rfl (by kernel_rfl) (by decide +kernel) (by decide +kernel) (fun _ _ _ h => h) ?_ (by assumption) ?_; rotate_left; (first | (refine yields_load (by rfl) rfl rfl ?_; intro w hSw; (try dsimp only at hSw); go_split_ands; assumption) | (refine Or.inl ⟨by rfl, ?_⟩; intro w hSw; (try dsimp only at hSw); go_simp; done) | (refine Or.inl ⟨by rfl, ?_⟩; intro w hSw; (try dsimp only at hSw); go_simp; with_reducible rfl) | exact Or.inr ⟨by rfl, rfl⟩); (try simp only [Act.put, List.setIfInBounds_toArray, List.set_cons_zero, List.set_cons_succ, List.getElem_toArray, List.getElem_cons_zero, List.getElem_cons_succ])) | (refine wpAnyH_take (i := 1) (v := ?_) rfl (by kernel_rfl) (by decide +kernel) (by decide +kernel) (fun _ _ _ h => h) ?_ (by assumption) ?_; rotate_left; (first | (refine yields_load (by rfl) rfl rfl ?_; intro w hSw; (try dsimp only at hSw); go_split_ands; assumption) | (refine Or.inl ⟨by rfl, ?_⟩; intro w hSw; (try dsimp only at hSw); go_simp; done) | (refine Or.inl ⟨by rfl, ?_⟩; intro w hSw; (try dsimp only at hSw); go_simp; with_reducible rfl) | exact Or.inr ⟨by rfl, rfl⟩); (try simp only [Act.put, List.setIfInBounds_toArray, List.set_cons_zero, List.set_cons_succ, List.getElem_toArray, List.getElem_cons_zero, List.getElem_cons_succ])) | (refine wpAnyH_take (i := 2) (v := ?_) rfl (by kernel_rfl) (by decide +kernel) (by decide +kernel) (fun _ _ _ h => h) ?_ (by assumption) ?_; rotate_left; (first | (refine yields_load (by rfl) rfl rfl ?_; intro w hSw; (try dsimp only at hSw); go_split_ands; assumption) | (refine Or.inl ⟨by rfl, ?_⟩; intro w hSw; (try dsimp only at hSw); go_simp; done) | (refine Or.inl ⟨by rfl, ?_⟩; intro w hSw; (try dsimp only at hSw); go_simp; with_reducible rfl) | exact Or.inr ⟨by rfl, rfl⟩); (try simp only [Act.put, List.setIfInBounds_toArray, List.set_cons_zero, List.set_cons_succ, List.getElem_toArray, List.getElem_cons_zero, List.getElem_cons_succ])) | (refine wpAnyH_take (i := 3) (v := ?_) rfl (by kernel_rfl) (by decide +kernel) (by decide +kernel) (fun _ _ _ h => h) ?_ (by assumption) ?_; rotate_left; (first | (refine yields_load (by rfl) rfl rfl ?_; intro w hSw; (try dsimp only at hSw); go_split_ands; assumption) | (refine Or.inl ⟨by rfl, ?_⟩; intro w hSw; (try dsimp only at hSw); go_simp; done) | (refine Or.inl ⟨by rfl, ?_⟩; intro w hSw; (try dsimp only at hSw); go_simp; with_reducible rfl) | exact Or.inr ⟨by rfl, rfl⟩); (try simp only [Act.put, List.setIfInBounds_toArray, List.set_cons_zero, List.set_cons_succ, List.getElem_toArray, List.getElem_cons_zero, List.getElem_cons_succ])) | (refine wpAnyH_take (i := 4) (v := ?_) rfl (by kernel_rfl) (by decide +kernel) (by decide +kernel) (fun _ _ _ h => h) ?_ (by assumption) ?_; rotate_left; (first | (refine yields_load (by rfl) rfl rfl ?_; intro w hSw; (try dsimp only at hSw); go_split_ands; assumption) | (refine Or.inl ⟨by rfl, ?_⟩; intro w hSw; (try dsimp only at hSw); go_simp; done) | (refine Or.inl ⟨by rfl, ?_⟩; intro w hSw; (try dsimp only at hSw); go_simp; with_reducible rfl) | exact Or.inr ⟨by rfl, rfl⟩); (try simp only [Act.put, List.setIfInBounds_toArray, List.set_cons_zero, List.set_cons_succ, List.getElem_toArray, List.getElem_cons_zero, List.getElem_cons_succ])) | (refine wpAnyH_take (i := 5) (v := ?_) rfl (by kernel_rfl) (by decide +kernel) (by decide +kernel) (fun _ _ _ h => h) ?_ (by assumption) ?_; rotate_left; (first | (refine yields_load (by rfl) rfl rfl ?_; intro w hSw; (try dsimp only at hSw); go_split_ands; assumption) | (refine Or.inl ⟨by rfl, ?_⟩; intro w hSw; (try dsimp only at hSw); go_simp; done) | (refine Or.inl ⟨by rfl, ?_⟩; intro w hSw; (try dsimp only at hSw); go_simp; with_reducible rfl) | exact Or.inr ⟨by rfl, rfl⟩); (try simp only [Act.put, List.setIfInBounds_toArray, List.set_cons_zero, List.set_cons_succ, List.getElem_toArray, List.getElem_cons_zero, List.getElem_cons_succ])) | (refine wpAnyH_take (i := 6) (v := ?_) rfl (by kernel_rfl) (by decide +kernel) (by decide +kernel) (fun _ _ _ h => h) ?_ (by assumption) ?_; rotate_left; (first | (refine yields_load (by rfl) rfl rfl ?_; intro w hSw; (try dsimp only at hSw); go_split_ands; assumption) | (refine Or.inl ⟨by rfl, ?_⟩; intro w hSw; (try dsimp only at hSw); go_simp; done) | (refine Or.inl ⟨by rfl, ?_⟩; intro w hSw; (try dsimp only at hSw); go_simp; with_reducible rfl) | exact Or.inr ⟨by rfl, rfl⟩); (try simp only [Act.put, List.setIfInBounds_toArray, List.set_cons_zero, List.set_cons_succ, List.getElem_toArray, List.getElem_cons_zero, List.getElem_cons_succ])) | (refine wpAnyH_take (i := 7) (v := ?_) rfl (by kernel_rfl) (by decide +kernel) (by decide +kernel) (fun _ _ _ h => h) ?_ (by assumption) ?_; rotate_left; (first | (refine yields_load (by rfl) rfl rfl ?_; intro w hSw; (try dsimp only at hSw); go_split_ands; assumption) | (refine Or.inl ⟨by rfl, ?_⟩; intro w hSw; (try dsimp only at hSw); go_simp; done) | (refine Or.inl ⟨by rfl, ?_⟩; intro w hSw; (try dsimp only at hSw); go_simp; with_reducible rfl) | exact Or.inr ⟨by rfl, rfl⟩); (try simp only [Act.put, List.setIfInBounds_toArray, List.set_cons_zero, List.set_cons_succ, List.getElem_toArray, List.getElem_cons_zero, List.getElem_cons_succ])) | (refine wpAnyH_take (i := 8) (v := ?_) rfl (by kernel_rfl) (by decide +kernel) (by decide +kernel) (fun _ _ _ h => h) ?_ (by assumption) ?_; rotate_left; (first | (refine yields_load (by rfl) rfl rfl ?_; intro w hSw; (try dsimp only at hSw); go_split_ands; assumption) | (refine Or.inl ⟨by rfl, ?_⟩; intro w hSw; (try dsimp only at hSw); go_simp; done) | (refine Or.inl ⟨by rfl, ?_⟩; intro w hSw; (try dsimp only at hSw); go_simp; with_reducible rfl) | exact Or.inr ⟨by rfl, rfl⟩); (try simp only [Act.put, List.setIfInBounds_toArray, List.set_cons_zero, List.set_cons_succ, List.getElem_toArray, List.getElem_cons_zero, List.getElem_cons_succ])) | (refine wpAnyH_take (i := 9) (v := ?_) rfl (by kernel_rfl) (by decide +kernel) (by decide +kernel) (fun _ _ _ h => h) ?_ (by assumption) ?_; rotate_left; (first | (refine yields_load (by rfl) rfl rfl ?_; intro w hSw; (try dsimp only at hSw); go_split_ands; assumption) | (refine Or.inl ⟨by rfl, ?_⟩; intro w hSw; (try dsimp only at hSw); go_simp; done) | (refine Or.inl ⟨by rfl, ?_⟩; intro w hSw; (try dsimp only at hSw); go_simp; with_reducible rfl) | exact Or.inr ⟨by rfl, rfl⟩); (try simp only [Act.put, List.setIfInBounds_toArray, List.set_cons_zero, List.set_cons_succ, List.getElem_toArray, List.getElem_cons_zero, List.getElem_cons_succ])) | (refine wpAnyH_take (i := 10) (v := ?_) rfl (by kernel_rfl) (by decide +kernel) (by decide +kernel) (fun _ _ _ h => h) ?_ (by assumption) ?_; rotate_left; (first | (refine yields_load (by rfl) rfl rfl ?_; intro w hSw; (try dsimp only at hSw); go_split_ands; assumption) | (refine Or.inl ⟨by rfl, ?_⟩; intro w hSw; (try dsimp only at hSw); go_simp; done) | (refine Or.inl ⟨by rfl, ?_⟩; intro w hSw; (try dsimp only at hSw); go_simp; with_reducible rfl) | exact Or.inr ⟨by rfl, rfl⟩); (try simp only [Act.put, List.setIfInBounds_toArray, List.set_cons_zero, List.set_cons_succ, List.getElem_toArray, List.getElem_cons_zero, List.getElem_cons_succ])) | (refine wpAnyH_take (i := 11) (v := ?_) rfl (by kernel_rfl) (by decide +kernel) (by decide +kernel) (fun _ _ _ h => h) ?_ (by assumption) ?_; rotate_left; (first | (refine yields_load (by rfl) rfl rfl ?_; intro w hSw; (try dsimp only at hSw); go_split_ands; assumption) | (refine Or.inl ⟨by rfl, ?_⟩; intro w hSw; (try dsimp only at hSw); go_simp; done) | (refine Or.inl ⟨by rfl, ?_⟩; intro w hSw; (try dsimp only at hSw); go_simp; with_reducible rfl) | exact Or.inr ⟨by rfl, rfl⟩); (try simp only [Act.put, List.setIfInBounds_toArray, List.set_cons_zero, List.set_cons_succ, List.getElem_toArray, List.getElem_cons_zero, List.getElem_cons_succ])) | (refine wpAnyH_take (i := 12) (v := ?_) rfl (by kernel_rfl) (by decide +kernel) (by decide +kernel) (fun _ _ _ h => h) ?_ (by assumption) ?_; rotate_left; (first | (refine yields_load (by rfl) rfl rfl ?_; intro w hSw; (try dsimp only at hSw); go_split_ands; assumption) | (refine Or.inl ⟨by rfl, ?_⟩; intro w hSw; (try dsimp only at hSw); go_simp; done) | (refine Or.inl ⟨by rfl, ?_⟩; intro w hSw; (try dsimp only at hSw); go_simp; with_reducible rfl) | exact Or.inr ⟨by rfl, rfl⟩); (try simp only [Act.put, List.setIfInBounds_toArray, List.set_cons_zero, List.set_cons_succ, List.getElem_toArray, List.getElem_cons_zero, List.getElem_cons_succ])) | (refine wpAnyH_take (i := 14) (v := ?_) rfl (by kernel_rfl) (by decide +kernel) (by decide +kernel) (fun _ _ _ h => h) ?_ (by assumption) ?_; rotate_left; (first | (refine yields_load (by rfl) rfl rfl ?_; intro w hSw; (try dsimp only at hSw); go_split_ands; assumption) | (refine Or.inl ⟨by rfl, ?_⟩; intro w hSw; (try dsimp only at hSw); go_simp; done) | (refine Or.inl ⟨by rfl, ?_⟩; intro w hSw; (try dsimp only at hSw); go_simp; with_reducible rfl) | exact Or.inr ⟨by rfl, rfl⟩); (try simp only [Act.put, List.setIfInBounds_toArray, List.set_cons_zero, List.set_cons_succ, List.getElem_toArray, List.getElem_cons_zero, List.getElem_cons_succ])))
      refine wpAnyH_ready (rs := [13]) (by decide +kernel) (by simp) ?_; refine AllReadyH.cons rfl (fun K hK => ?_) AllReadyH.nil; go_simp
      refine (own_calls wv hOk.out hGA.out (by omega) (by omega)).mono ?_
      rintro _ w22 ⟨_, rfl, va, vb, rfl, M⟩
      obtain ⟨Ea, ea, rfl⟩ := M.form (.head _)
      obtain ⟨Eb, eb, rfl⟩ := M.form (.tail _ (.head _))
      have M22 := hid (MW.out.lift M)
      have hb22 := hid M.below
      clear M
      go_wp2_with fail
      have hc := (And.intro (run_load_agg (P := Try.prog) agg_glyph (g := q2) (off := 0) (vs := (gA g2 (.slice Be g2.ends.length be) (.slice Bp g2.prog.length bp) (.slice Bs g2.pts.length bs)).toList) (M22.out.heap (t := 29) (cs := gA g2 (.slice Be g2.ends.length be) (.slice Bp g2.prog.length bp) (.slice Bs g2.pts.length bs)) (by simp)) rfl rfl) (run_load_agg (P := Try.prog) agg_ref (g := q3) (off := 0) (vs := (rA g2.b0 g2.b1 g2.b2 g2.b3 (.slice De g2.ends.length de) (.slice Dp g2.prog.length dp) (.slice Ds g2.pts.length ds)).toList) (M22.out.heap (t := 46) (cs := rA g2.b0 g2.b1 g2.b2 g2.b3 (.slice De g2.ends.length de) (.slice Dp g2.prog.length dp) (.slice Ds g2.pts.length ds)) (by simp)) rfl rfl))
      refine hK.out _ _ hc (fun hHeld => ?_); clear hK K; (try simp only [Act.put, List.setIfInBounds_toArray, List.set_cons_zero, List.set_cons_succ, List.getElem_toArray, List.getElem_cons_zero, List.getElem_cons_succ])
      clear hc
      refine wpAnyH_ready (rs := [15]) (by decide +kernel) (by simp) ?_; refine AllReadyH.cons rfl (fun K hK => ?_) AllReadyH.nil; go_simp
      refine (refSame_calls w22 (g := g2) ⟨M22.out.slice (e := 3) (.head _), (hGA.out.below hb22.out).p, M22.out.slice (e := 66) (.tail _ (.head _))⟩ ⟨M22.out.slice (e := 3) (by simp), M22.out.slice (e := 5) (by simp), M22.out.slice (e := 66) (by simp)⟩).mono ?_
      rintro _ w23 ⟨_, rfl, rfl, hb⟩
      have M23 := hid (M22.out.keep hb)
      clear hb
      go_wp2_with fail
      have hc := (And.intro (run_load_agg (P := Try.prog) agg_glyph (g := q2) (off := 0) (vs := (gA g2 (.slice Be g2.ends.length be) (.slice Bp g2.prog.length bp) (.slice Bs g2.pts.length bs)).toList) (M23.out.heap (t := 29) (cs := gA g2 (.slice Be g2.ends.length be) (.slice Bp g2.prog.length bp) (.slice Bs g2.pts.length bs)) (by simp)) rfl rfl) (run_load_agg (P := Try.prog) agg_ref (g := q3) (off := 0) (vs := (rA g2.b0 g2.b1 g2.b2 g2.b3 (.slice De g2.ends.length de) (.slice Dp g2.prog.length dp) (.slice Ds g2.pts.length ds)).toList) (M23.out.heap (t := 46) (cs := rA g2.b0 g2.b1 g2.b2 g2.b3 (.slice De g2.ends.length de) (.slice Dp g2.prog.length dp) (.slice Ds g2.pts.length ds)) (by simp)) rfl rfl))
      refine hK.out _ _ hc (fun hHeld => ?_); clear hK K; (try simp only [Act.put, List.setIfInBounds_toArray, List.set_cons_zero, List.set_cons_succ, List.getElem_toArray, List.getElem_cons_zero, List.getElem_cons_succ])
      clear hc
      repeat (first | (refine wpAnyH_take (i := 16) (v := ?_) rfl (by kernel_rfl) (by decide +kernel) (by decide +kernel) (fun _ _ _ h => h) ?_ (by assumption) ?_; rotate_left; (first | (refine yields_load (by rfl) rfl rfl ?_; intro w hSw; (try dsimp only at hSw); go_split_ands; assumption) | (refine Or.inl ⟨by rfl, ?_⟩; intro w hSw; (try dsimp only at hSw); go_simp; done) | (refine Or.inl ⟨by rfl, ?_⟩; intro w hSw; (try dsimp only at hSw); go_simp; with_reducible rfl) | exact Or.inr ⟨by rfl, rfl⟩); (try simp only [Act.put, List.setIfInBounds_toArray, List.set_cons_zero, List.set_cons_succ, List.getElem_toArray, List.getElem_cons_zero, List.getElem_cons_succ])) | (refine wpAnyH_take (i := 17) (v := ?_) rfl (by kernel_rfl) (by decide +kernel) (by decide +kernel) (fun _ _ _ h => h) ?_ (by assumption) ?_; rotate_left; (first | (refine yields_load (by rfl) rfl rfl ?_; intro w hSw; (try dsimp only at hSw); go_split_ands; assumption) | (refine Or.inl ⟨by rfl, ?_⟩; intro w hSw; (try dsimp only at hSw); go_simp; done) | (refine Or.inl ⟨by rfl, ?_⟩; intro w hSw; (try dsimp only at hSw); go_simp; with_reducible rfl) | exact Or.inr ⟨by rfl, rfl⟩); (try simp only [Act.put, List.setIfInBounds_toArray, List.set_cons_zero, List.set_cons_succ, List.getElem_toArray, List.getElem_cons_zero, List.getElem_cons_succ])) | (refine wpAnyH_take (i := 18) (v := ?_) rfl (by kernel_rfl) (by decide +kernel) (by decide +kernel) (fun _ _ _ h => h) ?_ (by assumption) ?_; rotate_left; (first | (refine yields_load (by rfl) rfl rfl ?_; intro w hSw; (try dsimp only at hSw); go_split_ands; assumption) | (refine Or.inl ⟨by rfl, ?_⟩; intro w hSw; (try dsimp only at hSw); go_simp; done) | (refine Or.inl ⟨by rfl, ?_⟩; intro w hSw; (try dsimp only at hSw); go_simp; with_reducible rfl) | exact Or.inr ⟨by rfl, rfl⟩); (try simp only [Act.put, List.setIfInBounds_toArray, List.set_cons_zero, List.set_cons_succ, List.getElem_toArray, List.getElem_cons_zero, List.getElem_cons_succ])) | (refine wpAnyH_take (i := 19) (v := ?_) rfl (by kernel_rfl) (by decide +kernel) (by decide +kernel) (fun _ _ _ h => h) ?_ (by assumption) ?_; rotate_left; (first | (refine yields_load (by rfl) rfl rfl ?_; intro w hSw; (try dsimp only at hSw); go_split_ands; assumption) | (refine Or.inl ⟨by rfl, ?_⟩; intro w hSw; (try dsimp only at hSw); go_simp; done) | (refine Or.inl ⟨by rfl, ?_⟩; intro w hSw; (try dsimp only at hSw); go_simp; with_reducible rfl) | exact Or.inr ⟨by rfl, rfl⟩); (try simp only [Act.put, List.setIfInBounds_toArray, List.set_cons_zero, List.set_cons_succ, List.getElem_toArray, List.getElem_cons_zero, List.getElem_cons_succ])))
      refine wpAnyH_done (by kernel_rfl) ?_ _
      go_wp2
      go_ret
      exact .mk ⟨rfl, M23.out.below⟩
end Go.Proofs.Ytmmepjcndofnbaa
