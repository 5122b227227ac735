/- Package compo: what bytes tell of a part; matrix, part. -/
import Derived.Test.YtiedbfaehndooaaDoorCompF
namespace Go.Proofs.YtiedbfaehndooaaDoor
open Go Go.RowKit
set_option linter.unusedVariables false
set_option linter.unusedSimpArgs false
set_option maxRecDepth 100000

def eachW (f : Int) : Nat := if hasB f 1 then 2 else 1
def kn (f : Int) : Nat := if kd f = 4 then 4 else if kd f = 2 then 2 else if kd f = 1 then 1 else 0
/-- How many bytes a part has. -/
def wid (f : Int) : Nat := 4 + 2 * eachW f + 2 * kn f
def sg8 (x : Int) : Int := if x < 128 then x else x - 256
def mtA (l : List Int) (q : Nat) (f : Int) : Int := if kd f = 4 then sgn (n2 l q) else if kd f = 2 then sgn (n2 l q) else if kd f = 1 then sgn (n2 l q) else 16384
def mtB (l : List Int) (q : Nat) (f : Int) : Int := if kd f = 4 then sgn (n2 l (q + 2)) else 0
def mtC (l : List Int) (q : Nat) (f : Int) : Int := if kd f = 4 then sgn (n2 l (q + 4)) else 0
def mtD (l : List Int) (q : Nat) (f : Int) : Int := if kd f = 4 then sgn (n2 l (q + 6)) else if kd f = 2 then sgn (n2 l (q + 2)) else if kd f = 1 then sgn (n2 l q) else 16384
def xAt (l : List Int) (a : Nat) (f : Int) : Int := if hasB f 1 then sgn (n2 l (a + 4)) else sg8 (l.getD (a + 4) 0)
def yAt (l : List Int) (a : Nat) (f : Int) : Int := if hasB f 1 then sgn (n2 l (a + 6)) else sg8 (l.getD (a + 5) 0)
/-- The part that stands at a place. -/
def ptAt (l : List Int) (a : Nat) : Pt :=
  ⟨n2 l a - 32 * b01 (hasB (n2 l a) 32), n2 l (a + 2), xAt l a (n2 l a), yAt l a (n2 l a), mtA l (a + (4 + 2 * eachW (n2 l a))) (n2 l a), mtB l (a + (4 + 2 * eachW (n2 l a))) (n2 l a), mtC l (a + (4 + 2 * eachW (n2 l a))) (n2 l a), mtD l (a + (4 + 2 * eachW (n2 l a))) (n2 l a)⟩
section
variable {W0 w : World} {L : List Ent} {b k : Nat} {l : List Int}
set_option maxHeartbeats 2000000 in
theorem matrix_calls {f : Int} (f0 : 0 ≤ f) (f1 : f < 65536) (h : RS W0 w b l k L) :
    Calls Tryd.prog 66 #[.pointer (some ⟨b, 0, none⟩), .int .u16 f] w (Ret fun r w' => r = .agg #[.int .i16 (mtA l k f), .int .i16 (mtB l k f), .int .i16 (mtC l k f), .int .i16 (mtD l k f)] ∧ RS W0 w' b l (k + 2 * kn f) L) := by
  obtain ⟨K, hK, hKc⟩ := kd_cases f0 f1
  have hA := hid (show mtA l k f = if kd f = 4 then sgn (n2 l k) else if kd f = 2 then sgn (n2 l k) else if kd f = 1 then sgn (n2 l k) else 16384 from rfl)
  have hB := hid (show mtB l k f = if kd f = 4 then sgn (n2 l (k + 2)) else 0 from rfl)
  have hC := hid (show mtC l k f = if kd f = 4 then sgn (n2 l (k + 4)) else 0 from rfl)
  have hD := hid (show mtD l k f = if kd f = 4 then sgn (n2 l (k + 6)) else if kd f = 2 then sgn (n2 l (k + 2)) else if kd f = 1 then sgn (n2 l k) else 16384 from rfl)
  have hn := hid (show kn f = if kd f = 4 then 4 else if kd f = 2 then 2 else if kd f = 1 then 1 else 0 from rfl)
  generalize mtA l k f = ra at *
  generalize mtB l k f = rb at *
  generalize mtC l k f = rc at *
  generalize mtD l k f = rd at *
  generalize kn f = nn at *
  obtain ⟨v, a, bad, M, h1, h2, h3⟩ := h.opened
  have M0 := hid M
  clear M h
  rcases hKc with ⟨rfl, hk⟩ | ⟨rfl, hk⟩ | ⟨rfl, hk⟩ | ⟨rfl, hk⟩ | ⟨k0, k1, k2, k3, hk⟩
  · rw [hk] at hA hB hC hD hn
    go_enter Tryd.func66, Tryd.ntmps66
    go_upto_region 1 with (first
      | ((with_reducible refine gate (N := 4) rfl ?_); refine wpList_box_Own rfl (cs := #[.int .i16 0, .int .i16 0, .int .i16 0, .int .i16 0]) (t := 42) (by first | (go_simp; done) | (go_simp; rfl)) M0.out ?_; intro m w1 M; (have M1 := hid (show RS W0 w1 b l k (.blk m 42 #[.int .i16 0, .int .i16 0, .int .i16 0, .int .i16 0] :: L) from RS.shut (L := .blk m 42 #[.int .i16 0, .int .i16 0, .int .i16 0, .int .i16 0] :: L) M h1 h2 h3)); (have M1' := hid M); clear M))
    go_wp2_with (first
      | (go_at_call 12; (with_reducible refine (unit_callsC _).mono ?_); rintro _ w3 ⟨_, rfl, rfl, hb⟩; (have M3 := hid (M1.out.keep hb)); clear hb; obtain ⟨v3, a3, bad3, MO, h4, h5, h6⟩ := M3.out.opened; (have MP := hid MO); clear MO)
      | ((with_reducible refine gateSt (t := 42) (p := 4) rfl ?_); refine wpList_store_all (n := 4) (L1 := []) (mid := [.int .i16 0, .int .i16 0, .int .i16 0, .int .i16 0]) (vs := [.int .i16 16384, .int .i16 0, .int .i16 0, .int .i16 16384]) rfl rfl (by kernel_rfl) rfl rfl rfl rfl rfl (one_all rfl) MP.out ?_; intro w5 M; (have M5 := hid M); clear M))
    refine bodyPost_ret (v := .agg #[.int .i16 16384, .int .i16 0, .int .i16 0, .int .i16 16384]) (results_agg rfl agg_mat _ (by rfl) (M5.out.heap (.head _)) rfl) rfl (Ret.mk ⟨by rw [hA.out, hB.out, hC.out, hD.out]; rfl, by rw [hn.out]; exact (RS.shut (L := L) M5.out.tail h4 h5 h6)⟩)
  · rw [hk] at hA hB hC hD hn
    go_enter Tryd.func66, Tryd.ntmps66
    go_upto_region 1 with (first
      | ((with_reducible refine gate (N := 4) rfl ?_); refine wpList_box_Own rfl (cs := #[.int .i16 0, .int .i16 0, .int .i16 0, .int .i16 0]) (t := 42) (by first | (go_simp; done) | (go_simp; rfl)) M0.out ?_; intro m w1 M; (have M1 := hid (show RS W0 w1 b l k (.blk m 42 #[.int .i16 0, .int .i16 0, .int .i16 0, .int .i16 0] :: L) from RS.shut (L := .blk m 42 #[.int .i16 0, .int .i16 0, .int .i16 0, .int .i16 0] :: L) M h1 h2 h3)); (have M1' := hid M); clear M))
    go_wp2_with (first
      | (go_at_call 52; (with_reducible refine (RS.I16 M1.out).mono ?_); rintro _ w2 ⟨_, rfl, rfl, M⟩; (have M2 := hid M); clear M)
      | (go_at_call 20; (with_reducible refine (scale_callsC _ _).mono ?_); rintro _ w3 ⟨_, rfl, rfl, hb⟩; (have M3 := hid (M2.out.keep hb)); clear hb; obtain ⟨v3, a3, bad3, MO, h4, h5, h6⟩ := M3.out.opened; (have MP := hid MO); clear MO)
      | ((with_reducible refine gateSt (t := 42) (p := 4) rfl ?_); refine wpList_store_all (n := 4) (L1 := []) (mid := [.int .i16 0, .int .i16 0, .int .i16 0, .int .i16 0]) (vs := [.int .i16 (sgn (n2 l k)), .int .i16 0, .int .i16 0, .int .i16 (sgn (n2 l k))]) rfl rfl (by kernel_rfl) rfl rfl rfl rfl rfl (one_all rfl) MP.out ?_; intro w5 M; (have M5 := hid M); clear M))
    refine bodyPost_ret (v := .agg #[.int .i16 (sgn (n2 l k)), .int .i16 0, .int .i16 0, .int .i16 (sgn (n2 l k))]) (results_agg rfl agg_mat _ (by rfl) (M5.out.heap (.head _)) rfl) rfl (Ret.mk ⟨by rw [hA.out, hB.out, hC.out, hD.out]; rfl, by rw [hn.out]; exact (RS.shut (L := L) M5.out.tail h4 h5 h6)⟩)
  · rw [hk] at hA hB hC hD hn
    go_enter Tryd.func66, Tryd.ntmps66
    go_upto_region 1 with (first
      | ((with_reducible refine gate (N := 4) rfl ?_); refine wpList_box_Own rfl (cs := #[.int .i16 0, .int .i16 0, .int .i16 0, .int .i16 0]) (t := 42) (by first | (go_simp; done) | (go_simp; rfl)) M0.out ?_; intro m w1 M; (have M1 := hid (show RS W0 w1 b l k (.blk m 42 #[.int .i16 0, .int .i16 0, .int .i16 0, .int .i16 0] :: L) from RS.shut (L := .blk m 42 #[.int .i16 0, .int .i16 0, .int .i16 0, .int .i16 0] :: L) M h1 h2 h3)); (have M1' := hid M); clear M))
    go_wp2_with (first
      | (go_at_call 52; (with_reducible refine (RS.I16 M1.out).mono ?_); rintro _ w2 ⟨_, rfl, rfl, M⟩; (have N2 := hid M); clear M M1)
      | (go_at_call 52; (with_reducible refine (RS.I16 N2.out).mono ?_); rintro _ w3 ⟨_, rfl, rfl, M⟩; (have N3 := hid M); clear M N2; obtain ⟨v3, a3, bad3, MO, h4, h5, h6⟩ := N3.out.opened; (have MP := hid MO); clear MO)
      | ((with_reducible refine gateSt (t := 42) (p := 4) rfl ?_); refine wpList_store_all (n := 4) (L1 := []) (mid := [.int .i16 0, .int .i16 0, .int .i16 0, .int .i16 0]) (vs := [.int .i16 (sgn (n2 l k)), .int .i16 0, .int .i16 0, .int .i16 (sgn (n2 l (k + 2)))]) rfl rfl (by kernel_rfl) rfl rfl rfl rfl rfl (one_all rfl) MP.out ?_; intro w9 M; (have M9 := hid M); clear M))
    refine bodyPost_ret (v := .agg #[.int .i16 (sgn (n2 l k)), .int .i16 0, .int .i16 0, .int .i16 (sgn (n2 l (k + 2)))]) (results_agg rfl agg_mat _ (by rfl) (M9.out.heap (.head _)) rfl) rfl (Ret.mk ⟨by rw [hA.out, hB.out, hC.out, hD.out]; rfl, by rw [hn.out]; exact (RS.shut (L := L) M9.out.tail h4 h5 h6)⟩)
  · rw [hk] at hA hB hC hD hn
    go_enter Tryd.func66, Tryd.ntmps66
    go_upto_region 1 with (first
      | ((with_reducible refine gate (N := 4) rfl ?_); refine wpList_box_Own rfl (cs := #[.int .i16 0, .int .i16 0, .int .i16 0, .int .i16 0]) (t := 42) (by first | (go_simp; done) | (go_simp; rfl)) M0.out ?_; intro m w1 M; (have M1 := hid (show RS W0 w1 b l k (.blk m 42 #[.int .i16 0, .int .i16 0, .int .i16 0, .int .i16 0] :: L) from RS.shut (L := .blk m 42 #[.int .i16 0, .int .i16 0, .int .i16 0, .int .i16 0] :: L) M h1 h2 h3)); (have M1' := hid M); clear M))
    go_wp2_with (first
      | (go_at_call 52; (with_reducible refine (RS.I16 M1.out).mono ?_); rintro _ w2 ⟨_, rfl, rfl, M⟩; (have N2 := hid M); clear M M1)
      | (go_at_call 52; (with_reducible refine (RS.I16 N2.out).mono ?_); rintro _ w3 ⟨_, rfl, rfl, M⟩; (have N3 := hid M); clear M N2)
      | (go_at_call 52; (with_reducible refine (RS.I16 N3.out).mono ?_); rintro _ w4 ⟨_, rfl, rfl, M⟩; (have N4 := hid M); clear M N3)
      | (go_at_call 52; (with_reducible refine (RS.I16 N4.out).mono ?_); rintro _ w5 ⟨_, rfl, rfl, M⟩; (have N5 := hid M); clear M N4; obtain ⟨v3, a3, bad3, MO, h4, h5, h6⟩ := N5.out.opened; (have MP := hid MO); clear MO)
      | ((with_reducible refine gateSt (t := 42) (p := 4) rfl ?_); refine wpList_store_all (n := 4) (L1 := []) (mid := [.int .i16 0, .int .i16 0, .int .i16 0, .int .i16 0]) (vs := [.int .i16 (sgn (n2 l k)), .int .i16 (sgn (n2 l (k + 2))), .int .i16 (sgn (n2 l (k + 4))), .int .i16 (sgn (n2 l (k + 6)))]) rfl rfl (by kernel_rfl) rfl rfl rfl rfl rfl (one_all rfl) MP.out ?_; intro w9 M; (have M9 := hid M); clear M))
    refine bodyPost_ret (v := .agg #[.int .i16 (sgn (n2 l k)), .int .i16 (sgn (n2 l (k + 2))), .int .i16 (sgn (n2 l (k + 4))), .int .i16 (sgn (n2 l (k + 6)))]) (results_agg rfl agg_mat _ (by rfl) (M9.out.heap (.head _)) rfl) rfl (Ret.mk ⟨by rw [hA.out, hB.out, hC.out, hD.out]; rfl, by rw [hn.out]; exact (RS.shut (L := L) M9.out.tail h4 h5 h6)⟩)
  · rw [hk] at hA hB hC hD hn
    have k0' : (K == 0) = false := by rw [beq_eq_false_iff_ne]; exact k0
    have k1' : (K == 8) = false := by rw [beq_eq_false_iff_ne]; exact k1
    have k2' : (K == 64) = false := by rw [beq_eq_false_iff_ne]; exact k2
    have k3' : (K == 128) = false := by rw [beq_eq_false_iff_ne]; exact k3
    go_enter Tryd.func66, Tryd.ntmps66
    go_upto_region 1 with (first
      | ((with_reducible refine gate (N := 4) rfl ?_); refine wpList_box_Own rfl (cs := #[.int .i16 0, .int .i16 0, .int .i16 0, .int .i16 0]) (t := 42) (by first | (go_simp; done) | (go_simp; rfl)) M0.out ?_; intro m w1 M; (have M1 := hid (show RS W0 w1 b l k (.blk m 42 #[.int .i16 0, .int .i16 0, .int .i16 0, .int .i16 0] :: L) from RS.shut (L := .blk m 42 #[.int .i16 0, .int .i16 0, .int .i16 0, .int .i16 0] :: L) M h1 h2 h3)); (have M1' := hid M); clear M))
    go_wp2_with (first
      | (go_at_call 12; (with_reducible refine (unit_callsC _).mono ?_); rintro _ w3 ⟨_, rfl, rfl, hb⟩; (have M3 := hid (M1.out.keep hb)); clear hb; obtain ⟨v3, a3, bad3, MO, h4, h5, h6⟩ := M3.out.opened; (have MP := hid MO); clear MO)
      | ((with_reducible refine gateSt (t := 42) (p := 4) rfl ?_); refine wpList_store_all (n := 4) (L1 := []) (mid := [.int .i16 0, .int .i16 0, .int .i16 0, .int .i16 0]) (vs := [.int .i16 16384, .int .i16 0, .int .i16 0, .int .i16 16384]) rfl rfl (by kernel_rfl) rfl rfl rfl rfl rfl (one_all rfl) MP.out ?_; intro w5 M; (have M5 := hid M); clear M))
    refine bodyPost_ret (v := .agg #[.int .i16 16384, .int .i16 0, .int .i16 0, .int .i16 16384]) (results_agg rfl agg_mat _ (by rfl) (M5.out.heap (.head _)) rfl) rfl (Ret.mk ⟨by rw [hA.out, hB.out, hC.out, hD.out]; rfl, by rw [hn.out]; exact (RS.shut (L := L) M5.out.tail h4 h5 h6)⟩)
theorem i8_sg {x : Int} (x0 : 0 ≤ x) (x1 : x < 256) : IntKind.i16.wrap (IntKind.i8.wrap x) = sg8 x := by
  obtain ⟨n, rfl⟩ : ∃ n : Nat, x = n := ⟨x.toNat, by omega⟩
  have : ∀ n : Nat, n < 256 → IntKind.i16.wrap (IntKind.i8.wrap (n : Int)) = sg8 n := by decide +kernel
  exact this n (by omega)
theorem more_ne {f : Int} (f0 : 0 ≤ f) (f1 : f < 65536) : ∃ K, bits .and .u16 f 32 = K ∧ ((hasB f 32 = true ∧ (K != 0) = true) ∨ (hasB f 32 = false ∧ (K != 0) = false)) := by
  refine ⟨_, and_32 f0 f1, ?_⟩
  unfold b01
  cases hasB f 32 <;> simp
set_option maxHeartbeats 2000000 in
theorem part_callsC (hB : Bytes l) (h : RS W0 w b l k L) :
    Calls Tryd.prog 55 #[.pointer (some ⟨b, 0, none⟩)] w (Ret fun r w' => r = .tuple #[.agg (ptA (ptAt l k)), .bool (hasB (n2 l k) 32)] ∧ RS W0 w' b l (k + wid (n2 l k)) L) := by
  obtain ⟨f0, f1⟩ := n2_bound hB k
  have hx := hid (show xAt l k (n2 l k) = if hasB (n2 l k) 1 then sgn (n2 l (k + 4)) else sg8 (l.getD (k + 4) 0) from rfl)
  have hy := hid (show yAt l k (n2 l k) = if hasB (n2 l k) 1 then sgn (n2 l (k + 6)) else sg8 (l.getD (k + 5) 0) from rfl)
  have he := hid (show eachW (n2 l k) = if hasB (n2 l k) 1 then 2 else 1 from rfl)
  have hw := hid (show wid (n2 l k) = 4 + 2 * eachW (n2 l k) + 2 * kn (n2 l k) from rfl)
  have hn := andNot_32 f0 f1
  obtain ⟨K1, hK1, hw1⟩ := words_ne f0 f1
  obtain ⟨KM, hKM, hm1⟩ := more_ne f0 f1
  have hpt := hid (show ptAt l k = ⟨n2 l k - 32 * b01 (hasB (n2 l k) 32), n2 l (k + 2), xAt l k (n2 l k), yAt l k (n2 l k), mtA l (k + (4 + 2 * eachW (n2 l k))) (n2 l k), mtB l (k + (4 + 2 * eachW (n2 l k))) (n2 l k), mtC l (k + (4 + 2 * eachW (n2 l k))) (n2 l k), mtD l (k + (4 + 2 * eachW (n2 l k))) (n2 l k)⟩ from rfl)
  obtain ⟨v, a, bad, M, h1, h2, h3⟩ := h.opened
  have M0 := hid M
  have hr0 := i8_sg (hB.get (k + 4)).1 (hB.get (k + 4)).2
  have hr1 := i8_sg (hB.get (k + 5)).1 (hB.get (k + 5)).2
  clear M h hB
  go_enter Tryd.func55, Tryd.ntmps55
  go_upto_region 3 with (first
    | ((with_reducible refine gate (N := 2) rfl ?_); refine wpList_box_Own rfl (cs := ptA pt0) (t := 45) (by first | (go_simp; done) | (go_simp; rfl)) M0.out ?_; intro m w1 M; (have M1 := hid (show RS W0 w1 b l k (.blk m 45 (ptA pt0) :: L) from RS.shut (L := .blk m 45 (ptA pt0) :: L) M h1 h2 h3)); (have M1' := hid M); clear M)
    | (go_at_call 53; (with_reducible refine (RS.U16 M1.out).mono ?_); rintro _ w2 ⟨_, rfl, rfl, M⟩; (have M2 := hid M); clear M M1)
    | (go_at_call 53; (with_reducible refine (RS.U16 M2.out).mono ?_); rintro _ w3 ⟨_, rfl, rfl, M⟩; obtain ⟨v3, a3, bad3, MO, h4, h5, h6⟩ := M.opened; (have M3 := hid MO); clear MO M M2)
    | ((with_reducible refine gate (N := 5) rfl ?_); refine wpList_box_Own rfl (cs := ptA pt0) (t := 45) (by first | (go_simp; done) | (go_simp; rfl)) M3.out ?_; intro n w4 M; (have M4 := hid M); clear M)
    | ((with_reducible refine gateSt (t := 45) (p := 5) rfl ?_); refine wpList_store_all (n := 8) (L1 := []) (mid := (ptA pt0).toList) (vs := [.int .u16 (n2 l k - 32 * b01 (hasB (n2 l k) 32)), .int .u16 (n2 l (k + 2)), .int .i16 0, .int .i16 0, .int .i16 0, .int .i16 0, .int .i16 0, .int .i16 0]) rfl rfl (by kernel_rfl) rfl rfl rfl rfl rfl (one_all rfl) M4.out ?_; intro w5 M; (have M5 := hid (show RS W0 w5 b l (k + 2 + 2) (.blk n 45 #[.int .u16 (n2 l k - 32 * b01 (hasB (n2 l k) 32)), .int .u16 (n2 l (k + 2)), .int .i16 0, .int .i16 0, .int .i16 0, .int .i16 0, .int .i16 0, .int .i16 0] :: .blk m 45 (ptA pt0) :: L) from RS.shut (L := .blk n 45 #[.int .u16 (n2 l k - 32 * b01 (hasB (n2 l k) 32)), .int .u16 (n2 l (k + 2)), .int .i16 0, .int .i16 0, .int .i16 0, .int .i16 0, .int .i16 0, .int .i16 0] :: .blk m 45 (ptA pt0) :: L) M h4 h5 h6)); (have M5' := hid M); clear M))
  go_upto_if 15 with fail
  clear M5' M4 M3 M0 h1 h2 h3 h4 h5 h6
  go_cut [] (fun wx => Hid (RS W0 wx b l (k + (4 + 2 * eachW (n2 l k))) (.blk n 45 #[.int .u16 (n2 l k - 32 * b01 (hasB (n2 l k) 32)), .int .u16 (n2 l (k + 2)), .int .i16 (xAt l k (n2 l k)), .int .i16 (yAt l k (n2 l k)), .int .i16 0, .int .i16 0, .int .i16 0, .int .i16 0] :: .blk m 45 (ptA pt0) :: L)))
  case first =>
    rcases hw1 with ⟨hh, rfl⟩ | ⟨hh, rfl⟩
    · rw [hh, if_pos rfl] at hx hy he
      go_wp2_with (first
        | (go_at_call 52; (with_reducible refine (RS.I16 M5.out).mono ?_); rintro _ w6 ⟨_, rfl, rfl, M⟩; (have M6 := hid M); clear M M5)
        | (go_at_call 52; (with_reducible refine (RS.I16 M6.out).mono ?_); rintro _ w7 ⟨_, rfl, rfl, M⟩; obtain ⟨v7, a7, bad7, MO, h7, h8, h9⟩ := M.opened; (have M7 := hid MO); (have cx := MO.cell (g := n) (.head _) 2); (have cy := MO.cell (g := n) (.head _) 3); (have fx := MO.free (g := n) (.head _) 2); (have fy := MO.free (g := n) (.head _) 3); clear MO M M6; simp only [List.getElem?_toArray, List.getElem?_cons_zero, List.getElem?_cons_succ] at cx cy))
      have M8 := hid ((M7.out.set (L1 := []) 2 (.int .i16 (sgn (n2 l (k + 4))))).set (L1 := []) 3 (.int .i16 (sgn (n2 l (k + 6)))))
      go_meet
      exact hid (by
        rw [hx.out, hy.out, he.out]
        exact RS.shut (L := .blk n 45 #[.int .u16 (n2 l k - 32 * b01 (hasB (n2 l k) 32)), .int .u16 (n2 l (k + 2)), .int .i16 (sgn (n2 l (k + 4))), .int .i16 (sgn (n2 l (k + 6))), .int .i16 0, .int .i16 0, .int .i16 0, .int .i16 0] :: .blk m 45 (ptA pt0) :: L) M8.out h7 h8 h9)
    · rw [hh, if_neg (by simp)] at hx hy he
      obtain ⟨u0, hu0⟩ : ∃ u, l.getD (k + 2 + 2) 0 = u := ⟨_, rfl⟩
      obtain ⟨u1, hu1⟩ : ∃ u, l.getD (k + 2 + 2 + 1) 0 = u := ⟨_, rfl⟩
      rw [show l.getD (k + 4) 0 = u0 from hu0] at hx hr0
      rw [show l.getD (k + 5) 0 = u1 from hu1] at hy hr1
      replace hu0 := hid hu0
      replace hu1 := hid hu1
      go_wp2_with (first
        | (go_at_call 65; (have hC := RS.U8 M5.out); rw [hu0.out] at hC; ((with_reducible refine hC.mono ?_); clear hC); rintro _ w6 ⟨_, rfl, rfl, M⟩; (have M6 := hid M); clear M M5)
        | (go_at_call 65; (have hC := RS.U8 M6.out); rw [hu1.out] at hC; ((with_reducible refine hC.mono ?_); clear hC); rintro _ w7 ⟨_, rfl, rfl, M⟩; obtain ⟨v7, a7, bad7, MO, h7, h8, h9⟩ := M.opened; (have M7 := hid MO); (have cx := MO.cell (g := n) (.head _) 2); (have cy := MO.cell (g := n) (.head _) 3); (have fx := MO.free (g := n) (.head _) 2); (have fy := MO.free (g := n) (.head _) 3); clear MO M M6; simp only [List.getElem?_toArray, List.getElem?_cons_zero, List.getElem?_cons_succ] at cx cy))
      have M8 := hid ((M7.out.set (L1 := []) 2 (.int .i16 (sg8 u0))).set (L1 := []) 3 (.int .i16 (sg8 u1)))
      go_meet
      exact hid (by
        rw [hx.out, hy.out, he.out]
        exact RS.shut (L := .blk n 45 #[.int .u16 (n2 l k - 32 * b01 (hasB (n2 l k) 32)), .int .u16 (n2 l (k + 2)), .int .i16 (sg8 u0), .int .i16 (sg8 u1), .int .i16 0, .int .i16 0, .int .i16 0, .int .i16 0] :: .blk m 45 (ptA pt0) :: L) M8.out h7 h8 h9)
  have M8 := hcut
  clear hcut hx hy hw1 hK1 hr0 hr1
  have hmt := hid (matrix_calls f0 f1 M8.out)
  rw [show k + (4 + 2 * eachW (n2 l k)) + 2 * kn (n2 l k) = k + wid (n2 l k) by rw [hw.out]; omega] at hmt
  generalize eachW (n2 l k) = ew at *
  generalize xAt l k (n2 l k) = x at *
  generalize yAt l k (n2 l k) = y at *
  generalize mtA l (k + (4 + 2 * ew)) (n2 l k) = ma at *
  generalize mtB l (k + (4 + 2 * ew)) (n2 l k) = mb at *
  generalize mtC l (k + (4 + 2 * ew)) (n2 l k) = mc at *
  generalize mtD l (k + (4 + 2 * ew)) (n2 l k) = md at *
  generalize hwd : wid (n2 l k) = wd at *
  generalize hG : n2 l (k + 2) = G at *
  generalize n2 l k - 32 * b01 (hasB (n2 l k) 32) = F at *
  generalize hmr : hasB (n2 l k) 32 = mr at *
  clear hG hw he
  replace hwd := hid hwd
  have hmr2 := hid hmr
  have hkm := hid (show (KM != 0) = mr by rcases hm1 with ⟨h, g⟩ | ⟨h, g⟩ <;> rw [h, g])
  clear hm1 hmr
  go_wp2_with (first
    | (go_at_call 66; (with_reducible refine hmt.out.mono ?_); rintro _ w9 ⟨_, rfl, rfl, M⟩; obtain ⟨v9, a9, bad9, MO, h7, h8, h9⟩ := M.opened; (have M9 := hid MO); clear MO M)
    | ((with_reducible refine gateSt (t := 42) (p := 35) rfl ?_); refine wpList_store_agg (n := 4) (L1 := []) (g := n) (off := 4) (pre := [.int .u16 F, .int .u16 G, .int .i16 x, .int .i16 y]) (mid := [.int .i16 0, .int .i16 0, .int .i16 0, .int .i16 0]) (post := []) (vs := [.int .i16 ma, .int .i16 mb, .int .i16 mc, .int .i16 md]) rfl rfl (by kernel_rfl) rfl rfl rfl rfl rfl rfl (one_all rfl) M9.out ?_; intro w10 M; (have M10 := hid M); clear M)
    | ((with_reducible refine gate (N := 36) rfl ?_); refine wpList_run rfl (exec_load_agg agg_part rfl rfl M10.out (g := n) (t := 45) (cs := #[.int .u16 F, .int .u16 G, .int .i16 x, .int .i16 y, .int .i16 ma, .int .i16 mb, .int .i16 mc, .int .i16 md]) (vs := [.int .u16 F, .int .u16 G, .int .i16 x, .int .i16 y, .int .i16 ma, .int .i16 mb, .int .i16 mc, .int .i16 md]) (.head _) rfl rfl) ?_)
    | ((with_reducible refine gateSt (t := 45) (p := 2) rfl ?_); refine wpList_store_all (n := 8) (L1 := [.blk n 45 #[.int .u16 F, .int .u16 G, .int .i16 x, .int .i16 y, .int .i16 ma, .int .i16 mb, .int .i16 mc, .int .i16 md]]) (mid := (ptA pt0).toList) (vs := [.int .u16 F, .int .u16 G, .int .i16 x, .int .i16 y, .int .i16 ma, .int .i16 mb, .int .i16 mc, .int .i16 md]) rfl rfl (by kernel_rfl) rfl rfl rfl rfl rfl (one_all rfl) M10.out ?_; intro w11 M; (have M11 := hid M); clear M))
  refine bodyPost_ret (v := .tuple #[.agg #[.int .u16 F, .int .u16 G, .int .i16 x, .int .i16 y, .int .i16 ma, .int .i16 mb, .int .i16 mc, .int .i16 md], .bool (KM != 0)]) (results_agg_tmp (p := 2) (q := 3) rfl agg_part _ (by rfl) (M11.out.heap (.tail _ (.head _))) rfl) rfl (Ret.mk ⟨by rw [hpt.out, hmr2.out, hkm.out], by rw [hwd.out]; exact RS.shut (L := L) M11.out.tail.tail h7 h8 h9⟩)
end
end Go.Proofs.YtiedbfaehndooaaDoor
