/- Layer 6: MaxpBends. -/
import Derived.Test.YtfdjgangahlepaaLaw06A
import Derived.Test.YtfdjgangahlepaaDec06
import Derived.Test.YtfdjgangahlepaaRowSet
import Derived.Deep.RegionHeld3
namespace Go.Proofs.Ytfdjgangahlepaa
open Go Go.RowKit
set_option linter.unusedVariables false
set_option linter.unusedSimpArgs false
set_option maxRecDepth 100000

/-- A byte that is turned. -/
def xor8 (a b : Int) : Int := bits .xor .u8 a b
theorem xor8_bd (a b : Int) : 0 ≤ xor8 a b ∧ xor8 a b < 256 := wf_u8 (wf_bits _ _ _ _)
theorem Bytes.set {l : List Int} (h : Bytes l) (i : Nat) {x : Int} (h0 : 0 ≤ x) (h1 : x < 256) : Bytes (l.set i x) := by
  intro y hy
  rcases List.mem_or_eq_of_mem_set hy with hy | rfl
  · exact h y hy
  · exact ⟨h0, h1⟩
theorem ints_set (k : IntKind) (l : List Int) (i : Nat) (x : Int) : (ints k l).set i (.int k x) = ints k (l.set i x) := by simp [ints, List.map_set]

theorem BytesAt.pre {w : World} {A : Option Addr} {c n k : Nat} {l : List Int} (h : BytesAt w (.slice A n c) l) (hk : k ≤ l.length) : BytesAt w (.slice A k c) (l.take k) := by
  obtain ⟨A', c', he, hnc, hcm, hA, hr⟩ := h
  injection he with he1 he2 he3
  subst he1; subst he3
  have hl : (l.take k).length = k := by rw [List.length_take]; omega
  refine ⟨A, c, by rw [hl], by omega, hcm, hA, by rw [ints_length, hl, Nat.mul_one], fun hn => ?_⟩
  obtain ⟨ad, rfl, hb, hc⟩ := hr.2 (by omega)
  refine ⟨ad, rfl, hb, fun j u hu => hc j u ?_⟩
  rw [show ints IntKind.u8 (l.take k) = (ints .u8 l).take k by simp [ints, List.map_take], List.getElem?_take] at hu
  split at hu
  · exact hu
  · cases hu
theorem n2_set {l : List Int} {k a : Nat} (x : Int) (h : a + 2 ≤ k) : n2 (l.set k x) a = n2 l a := by
  unfold n2
  simp [List.getD, List.getElem?_set, show ¬ k = a by omega, show ¬ k = a + 1 by omega]
theorem n4_set {l : List Int} {k a : Nat} (x : Int) (h : a + 4 ≤ k) : n4 (l.set k x) a = n4 l a := by
  unfold n4
  rw [n2_set x (by omega), n2_set x (by omega), List.length_set]
theorem mx_form (l : List Int) : ∃ (g : Int) (rest : List Int), mxOf l = .int .u16 g :: ints .u16 rest ∧ rest.length = 13 ∧ (mxOk l = true → g = n2 l 4) := by
  cases h : mxOk l
  · exact ⟨0, List.replicate 13 0, by unfold mxOf; rw [h]; rfl, by simp, fun e => by cases e⟩
  · exact ⟨n2 l 4, u16s l 6 13, by unfold mxOf; rw [if_pos h], u16s_length _ _ _, fun _ => rfl⟩

set_option maxHeartbeats 16000000 in
theorem maxpBends_calls (w : World) {g at_ turn : Int} {rest : List Int} (g0 : 0 ≤ g) (g1 : g < 65536) (hr : rest.length = 13) (hR : U16s rest) (a0 : 0 ≤ at_) (a1 : at_ < 256) (t0 : 0 ≤ turn) (t1 : turn < 256) :
    Calls Try.prog 6 #[.agg (.int .u16 g :: ints .u16 rest).toArray, .int .u8 at_, .int .u8 turn] w (Ret fun r w' => r = .bool true ∧ Below w.heap.size w w') := by
  have M0 := hid (Own.start w)
  obtain ⟨G, G0, G1, hG⟩ : ∃ G : Int, 0 < G ∧ G < 65536 ∧ ((g = 0 ∧ G = 1) ∨ (¬ g < 1 ∧ G = g)) := by
    by_cases h : g < 1
    · exact ⟨1, by omega, by omega, .inl ⟨by omega, rfl⟩⟩
    · exact ⟨g, by omega, by omega, .inr ⟨h, rfl⟩⟩
  have hY := hid (fun w => maxpBytes_calls w G0 G1 hr hR)
  have hB := mxB_bytes G rest
  have hl32 : (mxB G rest).length = 32 := by rw [mxB_length, hr]
  have hq := mxB_n2 rest (g := G) (by omega) G1
  have hq4 := mxB_n4 G rest
  have hok := mxOk_mxB G0 G1 hr
  generalize mxB G rest = q at *
  obtain ⟨k, hk, hk32⟩ : ∃ k : Nat, at_.tmod 32 = k ∧ k < 32 := ⟨(at_.tmod 32).toNat, by have := Int.tmod_nonneg 32 a0; omega, by have := Int.tmod_lt_of_pos at_ (show (0 : Int) < 32 by omega); have := Int.tmod_nonneg 32 a0; omega⟩
  rw [hl32] at hY
  have hgk := ints_get .u8 q k (by omega)
  obtain ⟨b, hb, hb0, hb1⟩ : ∃ b, q.getD k 0 = b ∧ 0 ≤ b ∧ b < 256 := ⟨_, rfl, hB.get k⟩
  rw [hb] at hgk
  obtain ⟨z0, z1⟩ := xor8_bd b turn
  obtain ⟨z, hz⟩ : ∃ z, xor8 b turn = z := ⟨_, rfl⟩
  have hz' := hz
  unfold xor8 at hz'
  rw [hz] at z0 z1
  have hB' := hid (hB.set k z0 z1)
  have hset := hid (ints_set .u8 q k z)
  have hpre : mxOf (q.take k) = mx0 ∧ mxErr (q.take k) = 2 := by
    have : mxOk (q.take k) = false := by unfold mxOk; rw [List.length_take, hl32]; simp; omega
    unfold mxOf mxErr; rw [this]; exact ⟨rfl, rfl⟩
  obtain ⟨g', rest', hV, hr', hg'⟩ := mx_form (q.set k z)
  obtain ⟨ok, E, hE⟩ : ∃ ok E, mxOk (q.set k z) = ok ∧ mxErr (q.set k z) = E ∧ ((ok = false ∧ E = 2 ∧ k < 6) ∨ (ok = true ∧ E = 0 ∧ k < 6) ∨ (ok = true ∧ E = 0 ∧ ¬ k < 6 ∧ G = g')) := by
    refine ⟨_, _, rfl, rfl, ?_⟩
    by_cases h6 : k < 6
    · cases h : mxOk (q.set k z)
      · exact .inl ⟨rfl, by unfold mxErr; rw [h]; rfl, h6⟩
      · exact .inr (.inl ⟨rfl, by unfold mxErr; rw [h]; rfl, h6⟩)
    · have h : mxOk (q.set k z) = true := by
        unfold mxOk at hok ⊢
        rw [List.length_set, n4_set z (by omega), n2_set z (by omega)]; exact hok
      exact .inr (.inr ⟨h, by unfold mxErr; rw [h]; rfl, h6, by rw [hg' h, n2_set z (by omega), hq]⟩)
  replace hV := hid hV
  have hP := hid hpre
  have hE1 := hid hE.1
  have hE2 := hid hE.2.1
  have hlz := hid (show (q.set k z).length = 32 by rw [List.length_set, hl32])
  have hBt := hid (hB.take k)
  have hlt := hid (show (q.take k).length = k by rw [List.length_take, hl32]; omega)
  obtain ⟨-, -, hE⟩ := hE
  clear hB hq hq4 hok hpre hz hg' hb
  generalize q.set k z = q' at *
  rcases hG with ⟨rfl, rfl⟩ | ⟨hg, rfl⟩
  all_goals
    rcases hE with ⟨rfl, rfl, h6⟩ | ⟨rfl, rfl, h6⟩ | ⟨rfl, rfl, h6, rfl⟩
  all_goals
    go_enter Try.func6, Try.ntmps6
    go_upto_region 6 with (first
      | ((with_reducible refine gate (N := 3) rfl ?_); refine wpList_box_Own rfl (cs := (.int .u16 _ :: ints .u16 rest).toArray) (t := 25) (by first | (go_simp; done) | (go_simp; rfl)) M0.out ?_; intro m w1 M; (have M1 := hid M); clear M)
      | (go_at_call 7; refine (awake_calls _).mono ?_; rintro _ w2 ⟨_, rfl, rfl, hb⟩; (have M2 := hid (M1.out.keep hb)); clear hb; (have c0 := M2.out.cell (.head _) 0); (have f0 := M2.out.free (.head _) 0); simp only [List.getElem?_toArray, List.getElem?_cons_zero] at c0)
      | ((with_reducible refine gate (N := 19) rfl ?_); (have M3 := hid (M2.out.set (L1 := []) 0 (.int .u16 1))); simp only [List.setIfInBounds_toArray, List.set_cons_zero] at M3; refine wpList_run rfl (exec_load_agg agg_maxp rfl rfl M3.out (g := m) (t := 25) (cs := (.int .u16 1 :: ints .u16 rest).toArray) (vs := .int .u16 1 :: ints .u16 rest) (by simp) (by simp [← hr, ← ints_length .u16 rest]) (by simp [ints_length, hr])) ?_)
      | ((with_reducible refine gate (N := 19) rfl ?_); (have M3 := hid (M2.out.set (L1 := []) 0 (.int .u16 G))); simp only [List.setIfInBounds_toArray, List.set_cons_zero] at M3; refine wpList_run rfl (exec_load_agg agg_maxp rfl rfl M3.out (g := m) (t := 25) (cs := (.int .u16 G :: ints .u16 rest).toArray) (vs := .int .u16 G :: ints .u16 rest) (by simp) (by simp [← hr, ← ints_length .u16 rest]) (by simp [ints_length, hr])) ?_)
      | (go_at_call 9; refine (hY.out _).mono ?_; rintro _ w3 ⟨_, rfl, M⟩; obtain ⟨A, c, rfl⟩ := M.form (.head _); obtain ⟨ad, rfl⟩ := M.row_at (.head _) (by omega); (have M4 := hid (M3.out.lift M)); clear M c0 f0))
    obtain ⟨A9, c9, he, hc32, hcm, -, -⟩ := M4.out.slice (e := 5) (sz := 1) (n := 32) (v := .slice (some ⟨ad, 0, none⟩) 32 c) (.head _)
    injection he with he1 he2 he3
    subst he3
    clear he1 he2
    unfold maxLen at hcm
    have hpr := hid (BytesAt.pre (l := q) (k := k) (c := c) (n := 32) (A := some ⟨ad, 0, none⟩) (by have := M4.out.slice (e := 5) (sz := 1) (n := 32) (v := .slice (some ⟨ad, 0, none⟩) 32 c) (xs := ints .u8 q) (.head _); rwa [← hl32] at this ⊢) (by omega))
    go_upto_region 7 with (first
      | (go_at_call 10; go_loud ((refine (maxpParse_calls _ hpr.out hBt.out (by rw [hlt.out]; omega)).mono ?_; rw [hP.out.1, hP.out.2]; rintro _ w5 ⟨_, rfl, rfl, hb⟩; (have M5 := hid (M4.out.keep hb)); clear hb)))
      | ((with_reducible refine gate (N := 9) rfl ?_); refine wpList_box_Own rfl (cs := mx0.toArray) (t := 25) (by first | (go_simp; done) | (go_simp; rfl)) M5.out ?_; intro r w6 M; (have M6 := hid M); clear M)
      | ((with_reducible refine gateSt (t := 25) (p := 9) rfl ?_); refine wpList_store_all (n := 14) (L1 := []) (mid := mx0) (vs := mx0) rfl rfl (by kernel_rfl) rfl rfl rfl rfl rfl (mx_one _ _) M6.out ?_; intro w7 M; (have M7 := hid M); clear M))
    obtain ⟨MS, kc, kf⟩ := Own.row_set (L1 := []) (M7.out.tail) k (by omega) (.int .u8 z)
    rw [hgk] at kc
    rw [hset.out] at MS
    replace MS := hid MS
    clear M4 M5 M6 M7 hpr
    go_upto_region 8 with fail
    go_upto_region 9 with (first
      | (go_at_call 10; ((refine (maxpParse_calls _ (l := q') (MS.out.bytes (e := 5) (n := 32) (.head _) hlz.out) hB'.out (by rw [hlz.out]; omega)).mono ?_; rw [hV.out, hE2.out]; rintro _ w8 ⟨_, rfl, rfl, hb⟩; (have M8 := hid (MS.out.keep hb)); clear hb)))
      | ((with_reducible refine gate (N := 11) rfl ?_); refine wpList_box_Own rfl (cs := mx0.toArray) (t := 25) (by first | (go_simp; done) | (go_simp; rfl)) M8.out ?_; intro r' w9 M; (have M9 := hid M); clear M)
      | ((with_reducible refine gateSt (t := 25) (p := 11) rfl ?_); refine wpList_store_all (n := 14) (L1 := []) (mid := mx0) (vs := .int .u16 _ :: ints .u16 rest') rfl rfl (by kernel_rfl) rfl rfl rfl (by simp [ints_length, hr']) rfl (mx_one _ _) M9.out ?_; intro w10 M; (have M10 := hid M); clear M))
    go_wp2_with (go_at_call 14; (refine (mxRight_calls _ hB'.out (M10.out.bytes (e := 5) (n := 32) (v := .slice (some ⟨ad, 0, none⟩) 32 c) (by simp) hlz.out)).mono ?_; rw [hE1.out]; rintro _ w11 ⟨_, rfl, rfl, hb⟩; (have M11 := hid (M10.out.keep hb)); (have e1 := M11.out.cell (g := r') (t := 25) (.head _) 0); (have e2 := M11.out.cell (g := m) (t := 25) (.tail _ (.tail _ (.head _))) 0); simp only [List.getElem?_toArray, List.getElem?_cons_zero] at e1 e2; clear hb))
    go_ret
    exact .mk ⟨rfl, M11.out.below⟩
end Go.Proofs.Ytfdjgangahlepaa
