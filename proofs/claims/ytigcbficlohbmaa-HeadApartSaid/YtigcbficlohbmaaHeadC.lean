/- Package head: it is read. -/
import Derived.Test.YtigcbficlohbmaaHeadB
import Derived.Test.YtigcbficlohbmaaReadAt
namespace Go.Proofs.Ytigcbficlohbmaa
open Go Go.RowKit
set_option linter.unusedVariables false
set_option linter.unusedSimpArgs false
set_option maxRecDepth 100000

def n8 (l : List Int) (k : Nat) : Int := 4294967296 * n4 l k + n4 l (k + 4)
theorem or_shift {x y : Int} (x0 : 0 ≤ x) (x1 : x < 4294967296) (y0 : 0 ≤ y) (y1 : y < 4294967296) : bits .or .u64 (x * 4294967296) y = 4294967296 * x + y := by
  obtain ⟨m, rfl⟩ := Int.eq_ofNat_of_zero_le x0
  obtain ⟨n, rfl⟩ := Int.eq_ofNat_of_zero_le y0
  have e : (BitVec.ofInt 64 ((m : Int) * 4294967296) ||| BitVec.ofInt 64 (n : Int)).toNat = m * 4294967296 + n := by
    rw [show ((m : Int) * 4294967296) = ((m * 4294967296 : Nat) : Int) by omega, BitVec.ofInt_natCast, BitVec.ofInt_natCast, BitVec.toNat_or, BitVec.toNat_ofNat, BitVec.toNat_ofNat, Nat.mod_eq_of_lt (by omega), Nat.mod_eq_of_lt (by omega)]
    have := Nat.shiftLeft_add_eq_or_of_lt (b := n) (i := 32) (by omega) m
    rw [Nat.shiftLeft_eq] at this
    exact this.symm
  have e2 : bits .or .u64 ((m : Int) * 4294967296) (n : Int) = IntKind.u64.wrap ((BitVec.ofInt 64 ((m : Int) * 4294967296) ||| BitVec.ofInt 64 (n : Int)).toNat : Int) := rfl
  rw [e2, e]
  have := IntWalk.u64_in ((m * 4294967296 + n : Nat) : Int) (by omega)
  rw [this]; omega

set_option maxHeartbeats 1000000 in
theorem long_at {W0 w : World} {L : List Ent} {b : Nat} {v : Value} {l : List Int} {N k a : Nat} {bad : Bool} (hR : RdAt N l k a bad) (hk : k + 8 ≤ N) (M : Own W0 w (rdE b v l a bad ++ L)) : Calls Try.prog 29 #[.pointer (some ⟨b, 0, none⟩)] w (Ret fun r w' =>
    ∃ (x : Int) (a' : Nat) (bad' : Bool), r = .int .u64 x ∧ 0 ≤ x ∧ x < 18446744073709551616 ∧ (l.length = N → x = n8 l k) ∧ RdAt N l (k + 8) a' bad' ∧ Own W0 w' (rdE b v l a' bad' ++ L)) := by
  have h1 := hid (rdU32_at hR (by omega) M)
  have h2 := hid (fun w a bad hR M => rdU32_at (W0 := W0) (w := w) (L := L) (b := b) (v := v) (l := l) (N := N) (k := k + 4) (a := a) (bad := bad) hR (by omega) M)
  clear hR M
  go_enter Try.func29, Try.ntmps29
  go_wp2_with fail
  refine h1.out.mono ?_; rintro _ w1 ⟨_, rfl, x, a1, b1, rfl, x0, x1, hx, hR1, M1⟩; replace hx := hid hx; replace hR1 := hid hR1; replace M1 := hid M1
  go_wp2_with fail
  refine (h2.out _ _ _ hR1.out M1.out).mono ?_; rintro _ w2 ⟨_, rfl, y, a2, b2, rfl, y0, y1, hy, hR2, M2⟩; replace hy := hid hy; replace hR2 := hid hR2; replace M2 := hid M2
  have ho := or_shift x0 x1 y0 y1
  go_wp2_with fail
  go_ret
  refine .mk ⟨_, _, _, rfl, by omega, by omega, fun hl => ?_, hR2.out, M2.out⟩
  rw [hx.out hl, hy.out hl]; rfl
/-- What is read of bytes. -/
theorem hd_setL (h : Hd) (b : Bool) : (hdC h).toArray.setIfInBounds 13 (.bool b) = (hdC {h with lg := b}).toArray := rfl
theorem hd_set (h : Hd) (x : Int) : (hdC h).toArray.setIfInBounds 2 (.int .u16 x) = (hdC {h with fl := x}).toArray ∧ (hdC h).toArray.setIfInBounds 3 (.int .u16 x) = (hdC {h with un := x}).toArray ∧ (hdC h).toArray.setIfInBounds 4 (.int .u64 x) = (hdC {h with cr := x}).toArray ∧ (hdC h).toArray.setIfInBounds 5 (.int .u64 x) = (hdC {h with md := x}).toArray ∧
    (hdC h).toArray.setIfInBounds 6 (.int .i16 x) = (hdC {h with b0 := x}).toArray ∧ (hdC h).toArray.setIfInBounds 7 (.int .i16 x) = (hdC {h with b1 := x}).toArray ∧ (hdC h).toArray.setIfInBounds 8 (.int .i16 x) = (hdC {h with b2 := x}).toArray ∧ (hdC h).toArray.setIfInBounds 9 (.int .i16 x) = (hdC {h with b3 := x}).toArray ∧
    (hdC h).toArray.setIfInBounds 10 (.int .u16 x) = (hdC {h with st := x}).toArray ∧ (hdC h).toArray.setIfInBounds 11 (.int .u16 x) = (hdC {h with lo := x}).toArray ∧ (hdC h).toArray.setIfInBounds 12 (.int .i16 x) = (hdC {h with hi := x}).toArray := ⟨ rfl, rfl, rfl, rfl, rfl, rfl, rfl, rfl, rfl, rfl, rfl⟩
theorem hd_at {W0 w : World} {L : List Ent} {m : Nat} {h : Hd} (M : Own W0 w L) (hm : .blk m 29 (hdC h).toArray ∈ L) (i : Nat) : w.cell? ⟨m, i, none⟩ = (hdC h).toArray[i]? ∧ w.frozen? ⟨m, i, none⟩ = false := ⟨M.cell hm i, M.free hm i⟩
def hdOf (l : List Int) : Hd := ⟨n4 l 4, n4 l 8, n2 l 16, n2 l 18, n8 l 20, n8 l 28, sgn (n2 l 36), sgn (n2 l 38), sgn (n2 l 40), sgn (n2 l 42), n2 l 44, n2 l 46, sgn (n2 l 48), n2 l 50 == 1⟩
def hd0 : Hd := ⟨0, 0, 0, 0, 0, 0, 0, 0, 0, 0, 0, 0, 0, false⟩
def hdOk (l : List Int) : Bool := l.length == 54 && (n4 l 0 == 65536 && (n4 l 12 == 1594834165 && (decide (n2 l 50 ≤ 1) && (n2 l 52 == 0 && (hdOf l).right))))
def hdR (l : List Int) : Hd := if hdOk l = true then hdOf l else hd0
def hdE (l : List Int) : Int := if hdOk l = true then 0 else 2

theorem hd_cases {l : List Int} {h : Hd} {ver mg wd fm : Int} (hv : l.length = 54 → ver = n4 l 0 ∧ mg = n4 l 12 ∧ wd = n2 l 50 ∧ fm = n2 l 52 ∧ h = hdOf l) :
    (hdOk l = true ∧ hdR l = h ∧ ((l.length : Int) != 54) = false ∧ (ver != 65536) = false ∧ (mg != 1594834165) = false ∧ decide (wd > 1) = false ∧ (fm != 0) = false ∧ h.right = true) ∨
    (hdOk l = false ∧ hdR l = hd0 ∧ (((l.length : Int) != 54) = true ∨ ((l.length : Int) != 54) = false ∧ ((ver != 65536) = true ∨ (ver != 65536) = false ∧ ((mg != 1594834165) = true ∨ (mg != 1594834165) = false ∧ (decide (wd > 1) = true ∨ decide (wd > 1) = false ∧ ((fm != 0) = true ∨ (fm != 0) = false ∧ h.right = false)))))) := by
  by_cases hl : l.length = 54
  · obtain ⟨rfl, rfl, rfl, rfl, rfl⟩ := hv hl
    have hl' : ((l.length : Int) != 54) = false := by rw [bne_eq_false_iff_eq]; omega
    rw [hl']
    have e : hdOk l = (n4 l 0 == 65536 && (n4 l 12 == 1594834165 && (decide (n2 l 50 ≤ 1) && (n2 l 52 == 0 && (hdOf l).right)))) := by unfold hdOk; rw [hl]; rfl
    have d : decide (n2 l 50 ≤ 1) = !decide (n2 l 50 > 1) := by
      by_cases h : n2 l 50 ≤ 1
      · rw [decide_eq_true h, decide_eq_false (show ¬ n2 l 50 > 1 by omega)]; rfl
      · rw [decide_eq_false h, decide_eq_true (show n2 l 50 > 1 by omega)]; rfl
    rw [d] at e
    have hr1 : hdOk l = true → hdR l = hdOf l := fun h => if_pos h
    have hr0 : hdOk l = false → hdR l = hd0 := fun h => if_neg (by rw [h]; decide)
    have b1 : (n4 l 0 != 65536) = !(n4 l 0 == 65536) := rfl
    have b2 : (n4 l 12 != 1594834165) = !(n4 l 12 == 1594834165) := rfl
    have b3 : (n2 l 52 != 0) = !(n2 l 52 == 0) := rfl
    rw [b1, b2, b3]
    generalize hdR l = R at *
    generalize hdOk l = ok at *
    generalize (hdOf l).right = rr at *
    generalize (n4 l 0 == 65536) = x1 at *
    generalize (n4 l 12 == 1594834165) = x2 at *
    generalize decide (n2 l 50 > 1) = x3 at *
    generalize (n2 l 52 == 0) = x4 at *
    cases x1 <;> cases x2 <;> cases x3 <;> cases x4 <;> cases rr <;> simp_all
  · right
    have e : hdOk l = false := by
      have : (l.length == 54) = false := by simpa using hl
      unfold hdOk; rw [this]; rfl
    refine ⟨e, if_neg (by rw [e]; decide), .inl ?_⟩
    rw [bne_iff_ne]; omega

theorem hd_end {W0 w : World} {b m r a : Nat} {v : Value} {l : List Int} {bad : Bool} {h : Hd} (M : Own W0 w (rdE b v l a bad ++ ([.blk m 29 (hdC h).toArray] ++ [.blk r 29 (hdC hd0).toArray]))) (W : Bool) :
    Own W0 (w.setCell ⟨m, 13, none⟩ (.bool W)) [.blk r 29 (hdC hd0).toArray, .blk m 29 (hdC {h with lg := W}).toArray] ∧ w.cell? ⟨m, 13, none⟩ = some (.bool h.lg) ∧ w.frozen? ⟨m, 13, none⟩ = false := by
  refine ⟨?_, M.cell (g := m) (t := 29) (cs := (hdC h).toArray) (by simp) 13, M.free (g := m) (t := 29) (cs := (hdC h).toArray) (by simp) 13⟩
  have M2 := Own.set (L1 := []) (Own.front (L1 := rdE b v l a bad) (X := [.blk m 29 (hdC h).toArray]) M) 13 (.bool W)
  rw [hd_setL] at M2
  exact (Own.and1 M2 (.blk r 29 (hdC hd0).toArray) (by simp)).swap

theorem hdE_of {l : List Int} (h : hdOk l = true) : hdE l = 0 := if_pos h
theorem hdE_no {l : List Int} (h : hdOk l = false) : hdE l = 2 := if_neg (by rw [h]; decide)
set_option maxHeartbeats 8000000 in
theorem headParse_calls (w : World) {V : Value} {l : List Int} (h1 : BytesAt w V l) (hB : Bytes l) (hn : l.length ≤ 140737488355328) :
    Calls Try.prog 16 #[V] w (Ret fun r w' => r = .tuple #[.agg (hdC (hdR l)).toArray, .int .i64 (hdE l)] ∧ Below w.heap.size w w') := by
  have M0 := hid (Own.start w)
  have h1H := hid h1
  obtain ⟨A, C, rfl, hc1, hm1, -⟩ := h1
  unfold maxLen at hm1
  have R0 := hid (RdAt.start 54 hB)
  clear hB
  go_enter Try.func16, Try.ntmps16
  go_upto_region 6 with (first
    | ((with_reducible refine gate (N := 2) rfl ?_); refine wpList_box_Own rfl (cs := (hdC hd0).toArray) (t := 29) (by first | (go_simp; done) | (go_simp; rfl)) M0.out ?_; intro r w1 M; (have M1 := hid M); clear M)
    | (go_at_call 26; refine (new_calls _ (h1H.out.below M1.out.below) hn).mono ?_; rintro _ w2 ⟨_, rfl, b, v, rfl, M⟩; (have M2 := hid (M1.out.lift M (by simp [rdE, Ent.mine]))); clear M M1)
    | (go_at_call 27; refine (rdU32_at R0.out (by omega) M2.out).mono ?_; rintro _ w3 ⟨_, rfl, ver, aver, bver, rfl, ver0, ver1, hver, Rver, M⟩; (have Mver := hid M); replace hver := hid hver; replace Rver := hid Rver; clear M)
    | (go_at_call 27; refine (rdU32_at Rver.out (by omega) Mver.out).mono ?_; rintro _ w4 ⟨_, rfl, rv, arv, brv, rfl, rv0, rv1, hrv, Rrv, M⟩; (have Mrv := hid M); replace hrv := hid hrv; replace Rrv := hid Rrv; clear M Mver)
    | (go_at_call 27; refine (rdU32_at Rrv.out (by omega) Mrv.out).mono ?_; rintro _ w4 ⟨_, rfl, adj, aadj, badj, rfl, adj0, adj1, hadj, Radj, M⟩; (have Madj := hid M); replace hadj := hid hadj; replace Radj := hid Radj; clear M Mrv)
    | ((with_reducible refine gate (N := 6) rfl ?_); refine wpList_box_Own rfl (cs := (hdC hd0).toArray) (t := 29) (by first | (go_simp; done) | (go_simp; rfl)) Madj.out ?_; intro m w5 M; (have M5 := hid M); clear M Madj)
    | ((with_reducible refine gateSt (t := 29) (p := 6) rfl ?_); refine wpList_store_all (n := 14) (L1 := []) (mid := hdC hd0) (vs := hdC ⟨rv, adj, 0, 0, 0, 0, 0, 0, 0, 0, 0, 0, 0, false⟩) rfl rfl (by kernel_rfl) rfl rfl rfl rfl rfl (hdC_one _) M5.out ?_; intro w6 M; (have M6 := hid (Own.front (L1 := [_]) (X := rdE _ _ _ _ _) M)); clear M M5)
    | (go_at_call 27; refine (rdU32_at Radj.out (by omega) M6.out).mono ?_; rintro _ w7 ⟨_, rfl, mg, amg, bmg, rfl, mg0, mg1, hmg, Rmg, M⟩; (have Mmg := hid M); replace hmg := hid hmg; replace Rmg := hid Rmg; clear M M6)
    | (go_at_call 28; refine (rdU16_at Rmg.out (by omega) Mmg.out).mono ?_; rintro _ w8 ⟨_, rfl, fl, afl, bfl, rfl, fl0, fl1, hfl, Rfl, M⟩; (have Mfl := hid M); replace hfl := hid hfl; replace Rfl := hid Rfl; clear M Mmg)
    | (go_at_call 28; refine (rdU16_at Rfl.out (by omega) Mfl.out).mono ?_; rintro _ w9 ⟨_, rfl, un, aun, bun, rfl, un0, un1, hun, Run, M⟩; (have Mun := hid M); replace hun := hid hun; replace Run := hid Run; (have MX := hid ((Own.set (L1 := []) (Own.set (L1 := []) (Own.front (L1 := rdE _ _ _ _ _) (X := [_]) M) 2 (.int .u16 fl)) 3 (.int .u16 un)))); (have c2 := M.cell (g := m) (t := 29) (cs := (hdC ⟨rv, adj, 0, 0, 0, 0, 0, 0, 0, 0, 0, 0, 0, false⟩).toArray) (by simp) 2); (have c3 := M.cell (g := m) (t := 29) (cs := (hdC ⟨rv, adj, 0, 0, 0, 0, 0, 0, 0, 0, 0, 0, 0, false⟩).toArray) (by simp) 3); (have f2 := M.free (g := m) (t := 29) (cs := (hdC ⟨rv, adj, 0, 0, 0, 0, 0, 0, 0, 0, 0, 0, 0, false⟩).toArray) (by simp) 2); (have f3 := M.free (g := m) (t := 29) (cs := (hdC ⟨rv, adj, 0, 0, 0, 0, 0, 0, 0, 0, 0, 0, 0, false⟩).toArray) (by simp) 3); clear M Mfl))
  simp only [hd_set, List.nil_append, List.append_eq] at MX
  clear c2 c3 f2 f3
  go_wp2_with (first
    | (go_at_call 29; (refine (long_at Run.out (by omega) (Own.front (L1 := [_]) (X := rdE _ _ _ _ _) MX.out)).mono ?_; rintro _ w10 ⟨_, rfl, cr, acr, bcr, rfl, cr0, cr1, hcr, Rcr, M⟩; (have Mcr := hid M); replace hcr := hid hcr; replace Rcr := hid Rcr; clear M MX))
    | (go_at_call 29; refine (long_at Rcr.out (by omega) Mcr.out).mono ?_; rintro _ w11 ⟨_, rfl, md, amd, bmd, rfl, md0, md1, hmd, Rmd, M⟩; replace hmd := hid hmd; replace Rmd := hid Rmd; (have MX := hid ((Own.set (L1 := []) (Own.set (L1 := []) (Own.front (L1 := rdE _ _ _ _ _) (X := [_]) M) 4 (.int .u64 cr)) 5 (.int .u64 md)))); obtain ⟨c4, f4⟩ := hd_at M (m := m) (h := ⟨rv, adj, fl, un, 0, 0, 0, 0, 0, 0, 0, 0, 0, false⟩) (by simp) 4; obtain ⟨c5, f5⟩ := hd_at M (m := m) (h := ⟨rv, adj, fl, un, 0, 0, 0, 0, 0, 0, 0, 0, 0, false⟩) (by simp) 5; clear M Mcr))
  simp only [hd_set, List.nil_append, List.append_eq] at MX
  clear c4 c5 f4 f5
  go_loopw [34] (fun i wr => ∃ (k a : Nat) (bad : Bool) (x0 x1 x2 x3 : Int), k ≤ 4 ∧ i = .int .i64 k ∧ Hid (RdAt 54 l (36 + 2 * k) a bad) ∧ Hid (l.length = 54 → (0 < k → x0 = sgn (n2 l 36)) ∧ (1 < k → x1 = sgn (n2 l 38)) ∧ (2 < k → x2 = sgn (n2 l 40)) ∧ (3 < k → x3 = sgn (n2 l 42))) ∧ Hid (Own w wr ([.blk m 29 (hdC ⟨rv, adj, fl, un, cr, md, x0, x1, x2, x3, 0, 0, 0, false⟩).toArray] ++ (rdE b v l a bad ++ [.blk r 29 (hdC hd0).toArray])))) (fun i _ => 4 - (intOf i).toNat)
  case atStart => exact ⟨0, amd, bmd, 0, 0, 0, 0, by omega, rfl, Rmd, hid (fun _ => ⟨by omega, by omega, by omega, by omega⟩), MX⟩
  case round =>
    clear MX
    obtain ⟨k, a, bad, x0, x1, x2, x3, hk, rfl, R, hx, MH⟩ := hrel
    by_cases hlt : k < 4
    · have hk' : k = 0 ∨ k = 1 ∨ k = 2 ∨ k = 3 := by omega
      clear hlt hk
      rcases hk' with rfl | rfl | rfl | rfl
      · go_wp2_with fail
        refine (rdI16_at R.out (by omega) (Own.front (L1 := [_]) (X := rdE _ _ _ _ _) MH.out)).mono ?_; rintro _ w12 ⟨_, rfl, y, a', b', rfl, y0, y1, hy, R', M⟩
        have MY := hid (Own.set (L1 := []) (Own.front (L1 := rdE _ _ _ _ _) (X := [_]) M) 6 (.int .i16 y))
        obtain ⟨c4, f4⟩ := hd_at M (m := m) (h := ⟨rv, adj, fl, un, cr, md, x0, x1, x2, x3, 0, 0, 0, false⟩) (by simp) 6
        replace hy := hid hy
        replace R' := hid R'
        simp only [hd_set, List.nil_append, List.append_eq] at MY
        clear M
        go_wp2_with fail
        go_roundw
        case rel => exact ⟨1, a', b', y, x1, x2, x3, by omega, by go_num, R', hid (fun hl => by
          obtain ⟨h0, h1, h2, h3⟩ := hx.out hl
          exact ⟨fun _ => hy.out hl, fun h => absurd h (by omega), fun h => absurd h (by omega), fun h => absurd h (by omega)⟩), MY⟩
        case measure => simp [intOf]
      · go_wp2_with fail
        refine (rdI16_at R.out (by omega) (Own.front (L1 := [_]) (X := rdE _ _ _ _ _) MH.out)).mono ?_; rintro _ w12 ⟨_, rfl, y, a', b', rfl, y0, y1, hy, R', M⟩
        have MY := hid (Own.set (L1 := []) (Own.front (L1 := rdE _ _ _ _ _) (X := [_]) M) 7 (.int .i16 y))
        obtain ⟨c4, f4⟩ := hd_at M (m := m) (h := ⟨rv, adj, fl, un, cr, md, x0, x1, x2, x3, 0, 0, 0, false⟩) (by simp) 7
        replace hy := hid hy
        replace R' := hid R'
        simp only [hd_set, List.nil_append, List.append_eq] at MY
        clear M
        go_wp2_with fail
        go_roundw
        case rel => exact ⟨2, a', b', x0, y, x2, x3, by omega, by go_num, R', hid (fun hl => by
          obtain ⟨h0, h1, h2, h3⟩ := hx.out hl
          exact ⟨fun _ => h0 (by omega), fun _ => hy.out hl, fun h => absurd h (by omega), fun h => absurd h (by omega)⟩), MY⟩
        case measure => simp [intOf]
      · go_wp2_with fail
        refine (rdI16_at R.out (by omega) (Own.front (L1 := [_]) (X := rdE _ _ _ _ _) MH.out)).mono ?_; rintro _ w12 ⟨_, rfl, y, a', b', rfl, y0, y1, hy, R', M⟩
        have MY := hid (Own.set (L1 := []) (Own.front (L1 := rdE _ _ _ _ _) (X := [_]) M) 8 (.int .i16 y))
        obtain ⟨c4, f4⟩ := hd_at M (m := m) (h := ⟨rv, adj, fl, un, cr, md, x0, x1, x2, x3, 0, 0, 0, false⟩) (by simp) 8
        replace hy := hid hy
        replace R' := hid R'
        simp only [hd_set, List.nil_append, List.append_eq] at MY
        clear M
        go_wp2_with fail
        go_roundw
        case rel => exact ⟨3, a', b', x0, x1, y, x3, by omega, by go_num, R', hid (fun hl => by
          obtain ⟨h0, h1, h2, h3⟩ := hx.out hl
          exact ⟨fun _ => h0 (by omega), fun _ => h1 (by omega), fun _ => hy.out hl, fun h => absurd h (by omega)⟩), MY⟩
        case measure => simp [intOf]
      · go_wp2_with fail
        refine (rdI16_at R.out (by omega) (Own.front (L1 := [_]) (X := rdE _ _ _ _ _) MH.out)).mono ?_; rintro _ w12 ⟨_, rfl, y, a', b', rfl, y0, y1, hy, R', M⟩
        have MY := hid (Own.set (L1 := []) (Own.front (L1 := rdE _ _ _ _ _) (X := [_]) M) 9 (.int .i16 y))
        obtain ⟨c4, f4⟩ := hd_at M (m := m) (h := ⟨rv, adj, fl, un, cr, md, x0, x1, x2, x3, 0, 0, 0, false⟩) (by simp) 9
        replace hy := hid hy
        replace R' := hid R'
        simp only [hd_set, List.nil_append, List.append_eq] at MY
        clear M
        go_wp2_with fail
        go_roundw
        case rel => exact ⟨4, a', b', x0, x1, x2, y, by omega, by go_num, R', hid (fun hl => by
          obtain ⟨h0, h1, h2, h3⟩ := hx.out hl
          exact ⟨fun _ => h0 (by omega), fun _ => h1 (by omega), fun _ => h2 (by omega), fun _ => hy.out hl⟩), MY⟩
        case measure => simp [intOf]
    · obtain rfl : k = 4 := by omega
      go_wp2_with (first
        | (go_at_call 28; refine (rdU16_at R.out (by omega) (Own.front (L1 := [_]) (X := rdE _ _ _ _ _) MH.out)).mono ?_; rintro _ w13 ⟨_, rfl, st, ast, bst, rfl, st0, st1, hst, Rst, M⟩; (have Mst := hid M); replace hst := hid hst; replace Rst := hid Rst; clear M MH)
        | (go_at_call 28; refine (rdU16_at Rst.out (by omega) Mst.out).mono ?_; rintro _ w14 ⟨_, rfl, lo, alo, blo, rfl, lo0, lo1, hlo, Rlo, M⟩; (have Mlo := hid M); replace hlo := hid hlo; replace Rlo := hid Rlo; clear M Mst)
        | (go_at_call 30; refine (rdI16_at Rlo.out (by omega) Mlo.out).mono ?_; rintro _ w15 ⟨_, rfl, hi, ahi, bhi, rfl, hi0, hi1, hhi, Rhi, M⟩; replace hhi := hid hhi; replace Rhi := hid Rhi; (have MX := hid ((Own.set (L1 := []) (Own.set (L1 := []) (Own.set (L1 := []) (Own.front (L1 := rdE _ _ _ _ _) (X := [_]) M) 10 (.int .u16 st)) 11 (.int .u16 lo)) 12 (.int .i16 hi)))); simp only [hd_set, List.nil_append, List.append_eq] at MX; obtain ⟨c4, f4⟩ := hd_at M (m := m) (h := ⟨rv, adj, fl, un, cr, md, x0, x1, x2, x3, 0, 0, 0, false⟩) (by simp) 10; obtain ⟨c5, f5⟩ := hd_at M (m := m) (h := ⟨rv, adj, fl, un, cr, md, x0, x1, x2, x3, 0, 0, 0, false⟩) (by simp) 11; obtain ⟨c6, f6⟩ := hd_at M (m := m) (h := ⟨rv, adj, fl, un, cr, md, x0, x1, x2, x3, 0, 0, 0, false⟩) (by simp) 12; clear M Mlo)
        | (go_at_call 28; refine (rdU16_at Rhi.out (by omega) (Own.front (L1 := [_]) (X := rdE _ _ _ _ _) MX.out)).mono ?_; rintro _ w16 ⟨_, rfl, wd, awd, bwd, rfl, wd0, wd1, hwd, Rwd, M⟩; (have Mwd := hid M); replace hwd := hid hwd; replace Rwd := hid Rwd; clear M MX c4 c5 c6 f4 f5 f6)
        | (go_at_call 28; refine (rdU16_at Rwd.out (by omega) Mwd.out).mono ?_; rintro _ w17 ⟨_, rfl, fm, afm, bfm, rfl, fm0, fm1, hfm, Rfm, M⟩; replace hfm := hid hfm; (obtain ⟨MX, c4, f4⟩ := hd_end M (wd == 1)); replace MX := hid MX; (have hq := hid (hd_cases (h := ⟨rv, adj, fl, un, cr, md, x0, x1, x2, x3, st, lo, hi, (wd == 1)⟩) (fun hl => ⟨hver.out hl, hmg.out hl, hwd.out hl, hfm.out hl, by (obtain ⟨g0, g1, g2, g3⟩ := hx.out hl); rw [hrv.out hl, hadj.out hl, hfl.out hl, hun.out hl, hcr.out hl, hmd.out hl, g0 (by omega), g1 (by omega), g2 (by omega), g3 (by omega), hst.out hl, hlo.out hl, hhi.out hl, hwd.out hl]; rfl⟩))); clear M Mwd; clear hver hmg hwd hfm hrv hadj hfl hun hcr hmd hst hlo hhi Rver Rrv Radj Rmg Rfl Rst Rlo Rhi Rwd R hx R0 M0 M2 Run Rcr Rmd Mun ver0 ver1 mg0 mg1 rv0 rv1 adj0 adj1 fl0 fl1 un0 un1 cr0 cr1 md0 md1 st0 st1 lo0 lo1 hi0 hi1; (generalize (⟨rv, adj, fl, un, cr, md, x0, x1, x2, x3, st, lo, hi, (wd == 1)⟩ : Hd) = H at *); (rcases hq.out with ⟨ok, eR, q1, q2, q3, q4, q5, q6⟩ | ⟨ok, eR, q1 | ⟨q1, q2 | ⟨q2, q3 | ⟨q3, q4 | ⟨q4, q5 | ⟨q5, q6⟩⟩⟩⟩⟩⟩ <;> (clear hq; replace ok := hid ok; replace eR := hid eR)))
        | ((with_reducible refine gate (N := 79) rfl ?_); refine wpList_run rfl (exec_load_agg agg_head rfl rfl MX.out (g := m) (t := 29) (cs := (hdC H).toArray) (vs := hdC H) (.tail _ (.head _)) rfl rfl) ?_)
        | (go_at_call 15; refine (headRight_calls _ H).mono ?_; rintro _ w18 ⟨_, rfl, rfl, hb⟩; replace MX := hid (MX.out.keep hb); clear hb; rw [q6])
        | ((with_reducible refine gate (N := 84) rfl ?_); refine wpList_run rfl (exec_load_agg agg_head rfl rfl MX.out (g := m) (t := 29) (cs := (hdC H).toArray) (vs := hdC H) (.tail _ (.head _)) rfl rfl) ?_; have hyes := hid True.intro)
        | ((with_reducible refine gateSt (t := 29) (p := 2) rfl ?_); have hy := hyes; refine wpList_store_all (n := 14) (L1 := []) (mid := hdC hd0) (vs := hdC H) rfl rfl (by kernel_rfl) rfl rfl rfl rfl rfl (hdC_one _) MX.out ?_; intro w19 M; (have MZ := hid M); clear M; go_wp2; refine bodyPost_ret (v := .tuple #[.agg (hdC (hdR l)).toArray, .int .i64 (hdE l)]) ?_ rfl (.mk ⟨rfl, MZ.out.below⟩); rw [eR.out, (hdE_of ok.out : hdE l = 0)]; exact results_agg_tmp (p := 2) (q := 3) rfl agg_head _ (by rfl) (MZ.out.heap (.head _)) rfl)
        | ((with_reducible refine gateSt (t := 29) (p := 2) rfl ?_); refine wpList_store_all (n := 14) (L1 := []) (mid := hdC hd0) (vs := hdC hd0) rfl rfl (by kernel_rfl) rfl rfl rfl rfl rfl (hdC_one _) MX.out ?_; intro w19 M; (have MZ := hid M); clear M; go_wp2; refine bodyPost_ret (v := .tuple #[.agg (hdC (hdR l)).toArray, .int .i64 (hdE l)]) ?_ rfl (.mk ⟨rfl, MZ.out.below⟩); rw [eR.out, (hdE_no ok.out : hdE l = 2)]; exact results_agg_tmp (p := 2) (q := 3) rfl agg_head _ (by rfl) (MZ.out.heap (.head _)) rfl))
end Go.Proofs.Ytigcbficlohbmaa
