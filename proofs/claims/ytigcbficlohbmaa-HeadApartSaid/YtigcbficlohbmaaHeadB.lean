/- Package head: its bytes. -/
import Derived.Test.YtigcbficlohbmaaHeadA
import Derived.Deep.RegionWith
import Derived.Deep.DeepCutAuto
namespace Go.Proofs.Ytigcbficlohbmaa
open Go Go.RowKit
set_option linter.unusedVariables false
set_option linter.unusedSimpArgs false
set_option maxRecDepth 100000

theorem Own.and1 {W0 w : World} {x : Ent} {L : List Ent} (M : Own W0 w (x :: L)) (y : Ent) (h : y ∈ L) : Own W0 w [x, y] := M.sub (List.cons_sublist_cons.2 (List.singleton_sublist.2 h))
def s2 (n : Int) : List Int := b2 (n % 65536)
def b8 (n : Int) : List Int := b4 (n / 4294967296 % 4294967296) ++ b4 (n % 4294967296)
theorem s2_length (n : Int) : (s2 n).length = 2 := b2_length _
theorem b8_length (n : Int) : (b8 n).length = 8 := by unfold b8; rw [List.length_append, b4_length, b4_length]
def lgI (b : Bool) : Int := if b = true then 1 else 0
def Hd.box (h : Hd) : List Int := [h.b0, h.b1, h.b2, h.b3]
/-- Its bytes, up to the dates; the dates; the box; the rest. -/
def hdB1 (h : Hd) : List Int := [] ++ b4 65536 ++ b4 h.rv ++ b4 h.adj ++ b4 1594834165 ++ b2 h.fl ++ b2 h.un
def hdB2 (h : Hd) : List Int := hdB1 h ++ b8 h.cr ++ b8 h.md
def hdB3 (h : Hd) : List Int := hdB2 h ++ h.box.flatMap s2
def hdB (h : Hd) : List Int := hdB3 h ++ b2 h.st ++ b2 h.lo ++ s2 h.hi ++ b2 (lgI h.lg) ++ b2 0
theorem hdB1_length (h : Hd) : (hdB1 h).length = 20 := by simp [hdB1, b4_length, b2_length]
theorem hdB2_length (h : Hd) : (hdB2 h).length = 36 := by simp [hdB2, hdB1_length, b8_length]
theorem hdB3_length (h : Hd) : (hdB3 h).length = 44 := by simp [hdB3, hdB2_length, Hd.box, s2_length]
theorem hdB_length (h : Hd) : (hdB h).length = 54 := by simp [hdB, hdB3_length, s2_length, b2_length]
theorem hd_cells {W0 w : World} {L : List Ent} {m : Nat} {h : Hd} (M : Own W0 w L) (hm : .blk m 29 (hdC h).toArray ∈ L) :
    (w.cell? ⟨m, 0, none⟩ = some (.int .u32 h.rv) ∧ w.cell? ⟨m, 1, none⟩ = some (.int .u32 h.adj) ∧ w.cell? ⟨m, 2, none⟩ = some (.int .u16 h.fl) ∧ w.cell? ⟨m, 3, none⟩ = some (.int .u16 h.un)) ∧
    (w.cell? ⟨m, 4, none⟩ = some (.int .u64 h.cr) ∧ w.cell? ⟨m, 5, none⟩ = some (.int .u64 h.md)) ∧
    (w.cell? ⟨m, 10, none⟩ = some (.int .u16 h.st) ∧ w.cell? ⟨m, 11, none⟩ = some (.int .u16 h.lo) ∧ w.cell? ⟨m, 12, none⟩ = some (.int .i16 h.hi)) ∧ w.cell? ⟨m, 13, none⟩ = some (.bool h.lg) :=
  ⟨⟨M.cell hm 0, M.cell hm 1, M.cell hm 2, M.cell hm 3⟩, ⟨M.cell hm 4, M.cell hm 5⟩, ⟨M.cell hm 10, M.cell hm 11, M.cell hm 12⟩, M.cell hm 13⟩

theorem flatS_length (l : List Int) : (l.flatMap s2).length = 2 * l.length := by
  induction l with
  | nil => rfl
  | cons x l ih => rw [List.flatMap_cons, List.length_append, ih, s2_length, List.length_cons]; omega
theorem flatS_snoc (l : List Int) (k : Nat) (hk : k < l.length) : (l.take (k + 1)).flatMap s2 = (l.take k).flatMap s2 ++ s2 (l.getD k 0) := by
  rw [take_succ_getD hk, List.flatMap_append]; simp
theorem box_bd {h : Hd} (O : h.ok) (k : Nat) (hk : k < 4) : -32768 ≤ h.box.getD k 0 ∧ h.box.getD k 0 < 32768 := by
  match k, hk with
  | 0, _ => exact O.b0
  | 1, _ => exact O.b1
  | 2, _ => exact O.b2
  | 3, _ => exact O.b3
theorem headBytes_no (w : World) (h : Hd) (hr : h.right = false) : Calls Try.prog 11 #[.agg (hdC h).toArray] w (Ret fun r w' => Own w w' [.row 5 1 r 0 []]) := by
  have M0 := hid (Own.start w)
  have hR := hid (fun w => headRight_calls w h)
  rw [hr] at hR
  have hl : (hdC h).length = 14 := rfl
  have htk : (((hdC h).toArray).toList.drop 0).take 14 = hdC h := rfl
  generalize hdC h = cs at *
  go_enter Try.func11, Try.ntmps11
  go_wp2_with (first
    | ((with_reducible refine gate (N := 1) rfl ?_); refine wpList_box_Own rfl (cs := cs.toArray) (t := 29) (by first | (go_simp; done) | (go_simp; rfl)) M0.out ?_; intro m w1 M; (have M1 := hid M); clear M)
    | ((with_reducible refine gate (N := 9) rfl ?_); refine wpList_run rfl (exec_load_agg agg_head rfl rfl M1.out (g := m) (t := 29) (cs := cs.toArray) (.head _) htk hl) ?_)
    | (go_at_call 15; refine (hR.out _).mono ?_; rintro _ w2 ⟨_, rfl, rfl, hb⟩; (have M2 := hid (M1.out.keep hb)); clear hb))
  go_ret
  exact .mk (M2.out.tail.nil_row _ _)

set_option maxHeartbeats 8000000 in
theorem headBytes_calls (w : World) (h : Hd) (hok : h.ok) (hr : h.right = true) : Calls Try.prog 11 #[.agg (hdC h).toArray] w (Ret fun r w' => Own w w' [.row 5 1 r (hdB h).length (ints .u8 (hdB h))]) := by
  have M0 := hid (Own.start w)
  have hR := hid (fun w => headRight_calls w h)
  rw [hr] at hR
  have hl : (hdC h).length = 14 := rfl
  have htk : (((hdC h).toArray).toList.drop 0).take 14 = hdC h := rfl
  have hbx : (((hdC h).toArray).toList.drop 6).take 4 = ints .i16 h.box := rfl
  have hC := hid (fun (w' : World) (L : List Ent) (m : Nat) (M : Own w w' L) (hm : Ent.blk m 29 (hdC h).toArray ∈ L) => hd_cells M hm)
  have O := hid hok
  have e1 := hid (show hdB1 h = [] ++ b4 65536 ++ b4 h.rv ++ b4 h.adj ++ b4 1594834165 ++ b2 h.fl ++ b2 h.un from rfl)
  generalize hdC h = cs at *
  go_enter Try.func11, Try.ntmps11
  go_wp2_with (first
    | ((with_reducible refine gate (N := 1) rfl ?_); refine wpList_box_Own rfl (cs := cs.toArray) (t := 29) (by first | (go_simp; done) | (go_simp; rfl)) M0.out ?_; intro m w1 M; (have M1 := hid M); clear M)
    | ((with_reducible refine gate (N := 9) rfl ?_); refine wpList_run rfl (exec_load_agg agg_head rfl rfl M1.out (g := m) (t := 29) (cs := cs.toArray) (.head _) htk hl) ?_)
    | (go_at_call 15; refine (hR.out _).mono ?_; rintro _ w2 ⟨_, rfl, rfl, hb⟩; (have M2 := hid (M1.out.keep hb)); clear hb)
    | ((with_reducible refine gate (N := 3) rfl ?_); refine wpList_box_Own rfl (cs := #[.slice none 0 0]) (t := 52) (by first | (go_simp; done) | (go_simp; rfl)) M2.out ?_; intro b w3 M; (have M3 := hid M.mk_writer); clear M))
  simp only [Act.put, List.setIfInBounds_toArray, List.set_cons_zero, List.set_cons_succ]
  obtain ⟨⟨k0, k1, k2, k3⟩, -⟩ := hC.out _ _ m M3.out.drew (by simp [wrE])
  clear M0 M1 M2
  go_region_held3 (fun w' => w'.cell? ⟨m, 0, none⟩ = some (.int .u32 h.rv) ∧ w'.cell? ⟨m, 1, none⟩ = some (.int .u32 h.adj) ∧ w'.cell? ⟨m, 2, none⟩ = some (.int .u16 h.fl) ∧ w'.cell? ⟨m, 3, none⟩ = some (.int .u16 h.un)) (go_keep)
    (first
      | (go_at_call 21; refine (wr_U32 (n := 65536) (by omega) (by omega) (by simp) M3.out.drew).mono ?_; rintro _ w4 ⟨_, rfl, rfl, v4, M⟩; have M4 := hid M; clear M3; obtain ⟨⟨k0, k1, k2, k3⟩, -⟩ := hC.out _ _ m M (by simp [wrE]); clear M)
      | (go_at_call 21; refine (wr_U32 (n := h.rv) O.out.rv.1 O.out.rv.2 (by simp [b4_length]) M4.out).mono ?_; rintro _ w5 ⟨_, rfl, rfl, v5, M⟩; have M5 := hid M; clear M4; obtain ⟨⟨k0, k1, k2, k3⟩, -⟩ := hC.out _ _ m M (by simp [wrE]); clear M)
      | (go_at_call 21; refine (wr_U32 (n := h.adj) O.out.adj.1 O.out.adj.2 (by simp [b4_length]) M5.out).mono ?_; rintro _ w6 ⟨_, rfl, rfl, v6, M⟩; have M6 := hid M; clear M5; obtain ⟨⟨k0, k1, k2, k3⟩, -⟩ := hC.out _ _ m M (by simp [wrE]); clear M)
      | (go_at_call 21; refine (wr_U32 (n := 1594834165) (by omega) (by omega) (by simp [b4_length]) M6.out).mono ?_; rintro _ w7 ⟨_, rfl, rfl, v7, M⟩; have M7 := hid M; clear M6; obtain ⟨⟨k0, k1, k2, k3⟩, -⟩ := hC.out _ _ m M (by simp [wrE]); clear M)
      | (go_at_call 22; refine (wr_U16 (n := h.fl) O.out.fl.1 O.out.fl.2 (by simp [b4_length]) M7.out).mono ?_; rintro _ w8 ⟨_, rfl, rfl, v8, M⟩; have M8 := hid M; clear M7; obtain ⟨⟨k0, k1, k2, k3⟩, -⟩ := hC.out _ _ m M (by simp [wrE]); clear M)
      | (go_at_call 22; refine (wr_U16 (n := h.un) O.out.un.1 O.out.un.2 (by simp [b4_length, b2_length]) M8.out).mono ?_; rintro _ w9 ⟨_, rfl, rfl, v9, M⟩; have M9 := hid M; clear M8; obtain ⟨⟨k0, k1, k2, k3⟩, -⟩ := hC.out _ _ m M (by simp [wrE]); clear M))
  rw [← e1.out] at M9
  obtain ⟨-, ⟨k4, k5⟩, -⟩ := hC.out _ _ m M9.out (by simp [wrE])
  clear k0 k1 k2 k3 e1
  have l1 := hid (hdB1_length h)
  go_wp2_with fail
  have u64i : (Try.prog.info? 25).map (·.size) = some 1 := by kernel_rfl
  have x0 : ∀ w, (Instr.index 56 (.agg #[.int .u64 h.cr, .int .u64 h.md]) (.int .i64 0)).run Try.prog w = .ok (.int .u64 h.cr) w := fun w => run_index_ints (P := Try.prog) Try.underlying56 Try.underlying25 u64i [h.cr, h.md] 0 rfl (by omega) w
  have x1 : ∀ w, (Instr.index 56 (.agg #[.int .u64 h.cr, .int .u64 h.md]) (.int .i64 1)).run Try.prog w = .ok (.int .u64 h.md) w := fun w => run_index_ints (P := Try.prog) Try.underlying56 Try.underlying25 u64i [h.cr, h.md] 1 rfl (by omega) w
  go_loopw [31] (fun i wr => ∃ (k : Nat) (v : Value), i = .int .i64 k ∧ ((k = 0 ∧ Hid (Own w wr ([] ++ (wrE b v (hdB1 h) ++ [.blk m 29 cs.toArray])))) ∨ (k = 1 ∧ Hid (Own w wr ([] ++ (wrE b v (hdB1 h ++ b8 h.cr) ++ [.blk m 29 cs.toArray])))) ∨ (k = 2 ∧ Hid (Own w wr ([] ++ (wrE b v (hdB2 h) ++ [.blk m 29 cs.toArray])))))) (fun i _ => 2 - (intOf i).toNat)
  case atStart => exact ⟨0, v9, rfl, .inl ⟨rfl, M9⟩⟩
  case round =>
    obtain ⟨k, v, rfl, ⟨rfl, MH⟩ | ⟨rfl, MH⟩ | ⟨rfl, MH⟩⟩ := hrel
    · have hx := hid (show hdB1 h ++ b4 (h.cr / 4294967296 % 4294967296) ++ b4 (h.cr % 4294967296) = hdB1 h ++ b8 h.cr by simp only [b8, List.append_assoc])
      have hl := hid (show (hdB1 h).length = 20 by exact hdB1_length h)
      generalize hdB1 h = q at *
      generalize hdB1 h ++ b8 h.cr = q' at *
      go_wp2_with fail
      refine (wr_U32 (by omega) (by omega) (by rw [hl.out]; omega) MH.out).mono ?_; rintro _ wa ⟨_, rfl, rfl, va, M⟩; have Ma := hid M; clear M
      go_wp2_with fail
      refine (wr_U32 (by omega) (by omega) (by rw [List.length_append, hl.out, b4_length]; omega) Ma.out).mono ?_; rintro _ wb ⟨_, rfl, rfl, vb, M⟩; rw [hx.out] at M; have Mb := hid M; clear M
      go_wp2_with fail
      go_roundw
      case rel => exact ⟨1, vb, by go_num, .inr (.inl ⟨rfl, Mb⟩)⟩
      case measure => simp [intOf]
    · have hx := hid (show hdB1 h ++ b8 h.cr ++ b4 (h.md / 4294967296 % 4294967296) ++ b4 (h.md % 4294967296) = hdB2 h by simp only [hdB2, b8, List.append_assoc])
      have hl := hid (show (hdB1 h ++ b8 h.cr).length = 28 by rw [List.length_append, hdB1_length, b8_length])
      generalize hdB1 h ++ b8 h.cr = q at *
      generalize hdB2 h = q' at *
      go_wp2_with fail
      refine (wr_U32 (by omega) (by omega) (by rw [hl.out]; omega) MH.out).mono ?_; rintro _ wa ⟨_, rfl, rfl, va, M⟩; have Ma := hid M; clear M
      go_wp2_with fail
      refine (wr_U32 (by omega) (by omega) (by rw [List.length_append, hl.out, b4_length]; omega) Ma.out).mono ?_; rintro _ wb ⟨_, rfl, rfl, vb, M⟩; rw [hx.out] at M; have Mb := hid M; clear M
      go_wp2_with fail
      go_roundw
      case rel => exact ⟨2, vb, by go_num, .inr (.inr ⟨rfl, Mb⟩)⟩
      case measure => simp [intOf]
    · clear x0 x1 k4 k5 M9
      have l2 := hid (hdB2_length h)
      have l13 : (ints .i16 h.box).length = 4 := rfl
      have i16i : (Try.prog.info? 26).map (·.size) = some 1 := by kernel_rfl
      go_wp2_with ((with_reducible refine gate (N := 43) rfl ?_); refine wpList_run rfl (exec_load_agg agg_box rfl rfl MH.out (g := m) (t := 29) (cs := cs.toArray) (by simp [wrE]) hbx l13) ?_)
      go_loopw [44] (fun i wr => ∃ (k : Nat) (v : Value), k ≤ 4 ∧ i = .int .i64 k ∧ Hid (Own w wr ([] ++ (wrE b v (hdB2 h ++ (h.box.take k).flatMap s2) ++ [.blk m 29 cs.toArray])))) (fun i _ => 4 - (intOf i).toNat)
      case atStart => exact ⟨0, v, by omega, rfl, hid (by simpa using MH.out)⟩
      case round =>
        clear MH
        obtain ⟨k, v, hk, rfl, MH⟩ := hrel
        by_cases hlt : k < 4
        · have hix := run_index_ints (P := Try.prog) Try.underlying27 Try.underlying26 i16i h.box k rfl hlt
          obtain ⟨x0, x1⟩ := box_bd O.out k hlt
          have hfs := hid (show hdB2 h ++ (h.box.take k).flatMap s2 ++ s2 (h.box.getD k 0) = hdB2 h ++ (h.box.take (k + 1)).flatMap s2 by rw [List.append_assoc, ← flatS_snoc _ k (show k < h.box.length from hlt)])
          have hll := hid (show (hdB2 h ++ (h.box.take k).flatMap s2).length + 2 ≤ 140737488355328 by rw [List.length_append, flatS_length, l2.out, List.length_take]; omega)
          generalize h.box.getD k 0 = x at *
          go_wp2_with fail
          refine (wr_I16 x0 x1 hll.out MH.out).mono ?_; rintro _ w5 ⟨_, rfl, rfl, v5, M⟩; have M5 := hid M; clear M
          go_wp2_with fail
          go_roundw
          case rel => exact ⟨k + 1, v5, by omega, by go_num, by rw [← hfs.out]; exact M5⟩
          case measure => simp [intOf]; omega
        · obtain rfl : k = 4 := by omega
          replace MH := hid (show Own w _ ([] ++ (wrE b v (hdB3 h) ++ [.blk m 29 cs.toArray])) from MH.out)
          have l3 := hid (hdB3_length h)
          have lB := hid (show (hdB h).length = 54 from hdB_length h)
          have eB := hid (show hdB3 h ++ b2 h.st ++ b2 h.lo ++ s2 h.hi ++ b2 (lgI h.lg) ++ b2 0 = hdB h from rfl)
          obtain ⟨-, -, -, k13⟩ := hC.out _ _ m MH.out (by simp [wrE])
          cases hlg' : h.lg
          all_goals
            replace hlg' := hid hlg'
            have hlg := hlg'
            clear hlg'
          · have eL := hid (show hdB3 h ++ b2 h.st ++ b2 h.lo ++ b2 (h.hi % 65536) ++ b2 (lgI false) ++ b2 0 = hdB h by rw [← eB.out, hlg.out]; rfl)
            rw [hlg.out] at k13
            go_upto_region 18 with fail
            obtain ⟨-, -, ⟨k10, k11, k12⟩, -⟩ := hC.out _ _ m MH.out.drew (by simp [wrE])
            clear k13
            go_region_held3 (fun w' => w'.cell? ⟨m, 10, none⟩ = some (.int .u16 h.st) ∧ w'.cell? ⟨m, 11, none⟩ = some (.int .u16 h.lo) ∧ w'.cell? ⟨m, 12, none⟩ = some (.int .i16 h.hi)) (go_keep)
            (first
              | (go_at_call 22; refine (wr_U16 (n := h.st) O.out.st.1 O.out.st.2 (by rw [l3.out]; omega) MH.out.drew).mono ?_; rintro _ w5 ⟨_, rfl, rfl, v5, M⟩; have M5 := hid M; clear MH; obtain ⟨-, -, ⟨k10, k11, k12⟩, -⟩ := hC.out _ _ m M (by simp [wrE]); clear M)
              | (go_at_call 22; refine (wr_U16 (n := h.lo) O.out.lo.1 O.out.lo.2 (by simp only [List.length_append, l3.out, b2_length]; omega) M5.out).mono ?_; rintro _ w6 ⟨_, rfl, rfl, v6, M⟩; have M6 := hid M; clear M5; obtain ⟨-, -, ⟨k10, k11, k12⟩, -⟩ := hC.out _ _ m M (by simp [wrE]); clear M)
              | (go_at_call 23; refine (wr_I16 (n := h.hi) O.out.hi.1 O.out.hi.2 (by simp only [List.length_append, l3.out, b2_length]; omega) M6.out).mono ?_; rintro _ w7 ⟨_, rfl, rfl, v7, M⟩; have M7 := hid M; clear M6; obtain ⟨-, -, ⟨k10, k11, k12⟩, -⟩ := hC.out _ _ m M (by simp [wrE]); clear M)
              | (go_at_call 22; refine (wr_U16 (n := lgI false) (by decide) (by decide) (by simp only [List.length_append, l3.out, b2_length]; omega) M7.out).mono ?_; rintro _ w8 ⟨_, rfl, rfl, v8, M⟩; have M8 := hid M; clear M7; obtain ⟨-, -, ⟨k10, k11, k12⟩, -⟩ := hC.out _ _ m M (by simp [wrE]); clear M)
              | (go_at_call 22; refine (wr_U16 (n := 0) (by decide) (by decide) (by simp only [List.length_append, l3.out, b2_length]; omega) M8.out).mono ?_; rintro _ w9 ⟨_, rfl, rfl, v9, M⟩; have M9 := hid M; clear M8; obtain ⟨-, -, ⟨k10, k11, k12⟩, -⟩ := hC.out _ _ m M (by simp [wrE]); clear M)
              | (go_at_call 24; refine (wr_Done (by simp only [List.length_append, l3.out, b2_length]; omega) M9.out).mono ?_; rintro _ w10 ⟨_, rfl, M⟩; have M10 := hid M.head1; clear M9; obtain ⟨-, -, ⟨k10, k11, k12⟩, -⟩ := hC.out _ _ m M (by simp [wrE]); clear M))
            rw [eL.out] at M10
            go_wp2_with fail
            go_ret
            exact .mk M10.out
          · have eL := hid (show hdB3 h ++ b2 h.st ++ b2 h.lo ++ b2 (h.hi % 65536) ++ b2 (lgI true) ++ b2 0 = hdB h by rw [← eB.out, hlg.out]; rfl)
            rw [hlg.out] at k13
            go_upto_region 18 with fail
            obtain ⟨-, -, ⟨k10, k11, k12⟩, -⟩ := hC.out _ _ m MH.out.drew (by simp [wrE])
            clear k13
            go_region_held3 (fun w' => w'.cell? ⟨m, 10, none⟩ = some (.int .u16 h.st) ∧ w'.cell? ⟨m, 11, none⟩ = some (.int .u16 h.lo) ∧ w'.cell? ⟨m, 12, none⟩ = some (.int .i16 h.hi)) (go_keep)
            (first
              | (go_at_call 22; refine (wr_U16 (n := h.st) O.out.st.1 O.out.st.2 (by rw [l3.out]; omega) MH.out.drew).mono ?_; rintro _ w5 ⟨_, rfl, rfl, v5, M⟩; have M5 := hid M; clear MH; obtain ⟨-, -, ⟨k10, k11, k12⟩, -⟩ := hC.out _ _ m M (by simp [wrE]); clear M)
              | (go_at_call 22; refine (wr_U16 (n := h.lo) O.out.lo.1 O.out.lo.2 (by simp only [List.length_append, l3.out, b2_length]; omega) M5.out).mono ?_; rintro _ w6 ⟨_, rfl, rfl, v6, M⟩; have M6 := hid M; clear M5; obtain ⟨-, -, ⟨k10, k11, k12⟩, -⟩ := hC.out _ _ m M (by simp [wrE]); clear M)
              | (go_at_call 23; refine (wr_I16 (n := h.hi) O.out.hi.1 O.out.hi.2 (by simp only [List.length_append, l3.out, b2_length]; omega) M6.out).mono ?_; rintro _ w7 ⟨_, rfl, rfl, v7, M⟩; have M7 := hid M; clear M6; obtain ⟨-, -, ⟨k10, k11, k12⟩, -⟩ := hC.out _ _ m M (by simp [wrE]); clear M)
              | (go_at_call 22; refine (wr_U16 (n := lgI true) (by decide) (by decide) (by simp only [List.length_append, l3.out, b2_length]; omega) M7.out).mono ?_; rintro _ w8 ⟨_, rfl, rfl, v8, M⟩; have M8 := hid M; clear M7; obtain ⟨-, -, ⟨k10, k11, k12⟩, -⟩ := hC.out _ _ m M (by simp [wrE]); clear M)
              | (go_at_call 22; refine (wr_U16 (n := 0) (by decide) (by decide) (by simp only [List.length_append, l3.out, b2_length]; omega) M8.out).mono ?_; rintro _ w9 ⟨_, rfl, rfl, v9, M⟩; have M9 := hid M; clear M8; obtain ⟨-, -, ⟨k10, k11, k12⟩, -⟩ := hC.out _ _ m M (by simp [wrE]); clear M)
              | (go_at_call 24; refine (wr_Done (by simp only [List.length_append, l3.out, b2_length]; omega) M9.out).mono ?_; rintro _ w10 ⟨_, rfl, M⟩; have M10 := hid M.head1; clear M9; obtain ⟨-, -, ⟨k10, k11, k12⟩, -⟩ := hC.out _ _ m M (by simp [wrE]); clear M))
            rw [eL.out] at M10
            go_wp2_with fail
            go_ret
            exact .mk M10.out
end Go.Proofs.Ytigcbficlohbmaa
