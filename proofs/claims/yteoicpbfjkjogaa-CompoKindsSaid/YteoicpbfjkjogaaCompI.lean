/- Package compo: Parse. -/
import Derived.Test.YteoicpbfjkjogaaCompH
import Derived.Test.YteoicpbfjkjogaaLaw13A
namespace Go.Proofs.Yteoicpbfjkjogaa
open Go Go.RowKit
set_option linter.unusedVariables false
set_option linter.unusedSimpArgs false
set_option maxRecDepth 1000000

/-- The parts that stand from a place on (so many at most), and where they end. -/
def ptsF : Nat → List Int → Nat → Option (List Pt × Nat)
  | 0, _, _ => none
  | k + 1, l, a => if a + wid (n2 l a) ≤ l.length then (if hasB (n2 l a) 32 then (ptsF k l (a + wid (n2 l a))).map (fun r => (ptAt l a :: r.1, r.2)) else some ([ptAt l a], a + wid (n2 l a))) else none
theorem ptsF_succ (k : Nat) (l : List Int) (a : Nat) : ptsF (k + 1) l a = if a + wid (n2 l a) ≤ l.length then (if hasB (n2 l a) 32 then (ptsF k l (a + wid (n2 l a))).map (fun r => (ptAt l a :: r.1, r.2)) else some ([ptAt l a], a + wid (n2 l a))) else none := rfl
def boxS (l : List Int) (ps : List Pt) (pr : List Int) : Cg := ⟨sgn (n2 l 2), sgn (n2 l 4), sgn (n2 l 6), sgn (n2 l 8), ps, pr⟩
/-- The program behind the parts. -/
def tailS (l : List Int) (ps : List Pt) (a : Nat) : Option (Cg × Nat) :=
  if codeB ps ps.length then (if a + 2 + (n2 l a).toNat ≤ l.length then some (boxS l ps ((l.drop (a + 2)).take (n2 l a).toNat), a + 2 + (n2 l a).toNat) else none) else some (boxS l ps [], a)
/-- The glyph that bytes begin with. -/
def cpS (l : List Int) : Option (Cg × Nat) := if n2 l 0 = 65535 then (ptsF 201 l 10).bind fun r => (tailS l r.1 r.2).bind fun g => if cgR g.1 then some g else none else none
def SpecL (l : List Int) (j a : Nat) (q : Bool) (done : List Pt) : Prop :=
  (l.length < a → ptsF 201 l 10 = none) ∧ (a ≤ l.length → if q = true then ptsF 201 l 10 = (ptsF (201 - j) l a).map (fun r => (done ++ r.1, r.2)) else ptsF 201 l 10 = some (done, a))
theorem wid_pos (f : Int) : 6 ≤ wid f := by unfold wid eachW; split <;> omega
theorem ptsF_none {k a : Nat} {l : List Int} (h : l.length < a) : ptsF k l a = none := by
  cases k with
  | zero => rfl
  | succ k => rw [ptsF_succ, if_neg (by omega)]
theorem SpecL.start (l : List Int) : SpecL l 0 10 true [] := ⟨ptsF_none, fun _ => by rw [if_pos rfl]; cases ptsF (201 - 0) l 10 with | none => simp_all | some r => simp_all⟩
theorem SpecL.next {l : List Int} {j a : Nat} {done : List Pt} (h : SpecL l j a true done) (ha : a ≤ l.length) (hj : j ≤ 200) : SpecL l (j + 1) (a + wid (n2 l a)) (hasB (n2 l a) 32) (done ++ [ptAt l a]) := by
  have h1 := h.2 ha
  rw [if_pos rfl, show 201 - j = (201 - (j + 1)) + 1 by omega, ptsF_succ (201 - (j + 1)) l a] at h1
  refine ⟨fun hb => by rw [h1, if_neg (by omega)]; rfl, fun hg => ?_⟩
  rw [if_pos hg] at h1
  by_cases hm : hasB (n2 l a) 32 = true
  · rw [if_pos hm] at h1
    rw [if_pos hm, h1, Option.map_map]
    congr 1
    funext r
    simp
  · rw [if_neg hm] at h1
    rw [if_neg hm, h1]; rfl
abbrev nil2 : List Value := [.slice none 0 0, .slice none 0 0]
def sLen (v : Value) : Nat := match v with | .slice _ n _ => n | _ => 0
abbrev cNil : Array Value := cA ⟨0, 0, 0, 0, [], []⟩ (.slice none 0 0) (.slice none 0 0)
theorem sgn_i16 {x : Int} (h0 : 0 ≤ x) (h1 : x < 65536) : I16 (sgn x) := by unfold sgn; split <;> (constructor <;> omega)
theorem sg8_i16 {x : Int} (h0 : 0 ≤ x) (h1 : x < 256) : I16 (sg8 x) := by unfold sg8; split <;> (constructor <;> omega)
theorem ptAt_ok {l : List Int} (hB : Bytes l) (a : Nat) : (ptAt l a).Ok := by
  have hs := fun k => sgn_i16 (n2_bound hB k).1 (n2_bound hB k).2
  have h0 : I16 0 := by decide
  have hone : I16 16384 := by decide
  obtain ⟨f0, f1⟩ := n2_bound hB a
  refine ⟨?_, n2_bound hB _, ?_, ?_, ?_, ?_, ?_, ?_⟩
  · show U16 (n2 l a - 32 * b01 (hasB (n2 l a) 32))
    rw [b01_has]
    constructor <;> omega
  · show I16 (xAt l a (n2 l a)); unfold xAt; split
    · exact hs _
    · exact sg8_i16 (hB.get _).1 (hB.get _).2
  · show I16 (yAt l a (n2 l a)); unfold yAt; split
    · exact hs _
    · exact sg8_i16 (hB.get _).1 (hB.get _).2
  · show I16 (mtA l _ (n2 l a)); unfold mtA; split; exact hs _; split; exact hs _; split; exact hs _; exact hone
  · show I16 (mtB l _ (n2 l a)); unfold mtB; split; exact hs _; exact h0
  · show I16 (mtC l _ (n2 l a)); unfold mtC; split; exact hs _; exact h0
  · show I16 (mtD l _ (n2 l a)); unfold mtD; split; exact hs _; split; exact hs _; split; exact hs _; exact hone
/-- The program and the place behind it, as they are read. -/
def TailP (l : List Int) (a : Nat) (cb : Bool) (a2 : Nat) (pr : List Int) : Prop := (cb = false ∧ a2 = a ∧ pr = []) ∨ (cb = true ∧ a2 = a + 2 + (n2 l a).toNat ∧ pr = tkB l (a + 2) (n2 l a).toNat)
theorem cp_cases {l : List Int} {j a a2 : Nat} {q : Bool} {done : List Pt} {pr : List Int} (hsp : SpecL l j a q done) (hdl : done.length = j) (hend : ¬ (q = true ∧ ¬ l.length < a ∧ j ≤ 200)) (hj : j ≤ 201) (ht : TailP l a (codeB done j) a2 pr) :
    cpS l = if (decide (l.length < a2) || (!(n2 l 0 == 65535) || !cgR (boxS l done pr))) = true then none else some (boxS l done pr, a2) := by
  unfold cpS
  by_cases h0 : n2 l 0 = 65535
  · rw [if_pos h0, show (n2 l 0 == 65535) = true by rw [beq_iff_eq]; exact h0]
    have ha2 : a ≤ a2 := by rcases ht with ⟨-, h, -⟩ | ⟨-, h, -⟩ <;> omega
    by_cases hb : l.length < a
    · rw [hsp.1 hb, decide_eq_true (show l.length < a2 by omega)]; rfl
    · have h2 := hsp.2 (by omega)
      cases q with
      | false =>
        rw [if_neg (by simp)] at h2
        rw [h2, Option.bind_some]
        unfold tailS
        rw [hdl]
        rcases ht with ⟨hc, rfl, rfl⟩ | ⟨hc, rfl, rfl⟩
        · rw [hc, if_neg (by simp), Option.bind_some, decide_eq_false hb]
          cases hR : cgR (boxS l done []) <;> simp
        · rw [hc, if_pos rfl]
          by_cases hl : a + 2 + (n2 l a).toNat ≤ l.length
          · have e : tkB l (a + 2) (n2 l a).toNat = (l.drop (a + 2)).take (n2 l a).toNat := by unfold tkB; rw [if_pos hl]
            rw [if_pos hl, Option.bind_some, decide_eq_false (show ¬ l.length < a + 2 + (n2 l a).toNat by omega), e]
            cases hR : cgR (boxS l done ((l.drop (a + 2)).take (n2 l a).toNat)) <;> simp
          · rw [if_neg hl, decide_eq_true (show l.length < a + 2 + (n2 l a).toNat by omega)]; rfl
      | true =>
        have hj2 : j = 201 := by
          by_cases h : j ≤ 200
          · exact absurd ⟨rfl, hb, h⟩ hend
          · omega
        rw [if_pos rfl, hj2] at h2
        rw [h2]
        have hR : cgR (boxS l done pr) = false := by
          unfold cgR
          rw [show (boxS l done pr).parts.length = 201 from hdl.trans hj2, decide_eq_false (show ¬ 201 ≤ 200 by omega)]
          simp
        rw [hR]
        show _ = if (_ || (_ || true)) = true then none else _
        simp [ptsF]
  · rw [if_neg h0, show (n2 l 0 == 65535) = false by rw [beq_eq_false_iff_ne]; exact h0]
    simp
/-- What is parsed. -/
def CParseP (w : World) (l : List Int) (r : Value) (w' : World) : Prop :=
  (∃ (g : Cg) (n : Nat) (vp vg : Value), cpS l = some (g, n) ∧ g.Ok ∧ r = .tuple #[.agg (cA g vp vg), .int .i64 n, .int .i64 0] ∧ Own w w' [.row 35 8 vp g.parts.length (ptC g.parts), .row 5 1 vg g.prog.length (ints .u8 g.prog)]) ∨
  (cpS l = none ∧ r = .tuple #[.agg cNil, .int .i64 0, .int .i64 2] ∧ Below w.heap.size w w')
set_option maxHeartbeats 8000000 in
theorem cParse_calls (w : World) {V : Value} {l : List Int} (h1 : BytesAt w V l) (hB : Bytes l) (hn : l.length ≤ 140737488355328) :
    Calls Try.prog 23 #[V] w (Ret fun r w' => CParseP w l r w') := by
  have M0 := hid (Own.start w)
  have h1H := hid h1
  obtain ⟨A, C, rfl, hc1, hm1, -⟩ := h1
  unfold maxLen at hm1
  have hBH := hid hB
  clear hB
  go_enter Try.func23, Try.ntmps23
  go_wp2_with (first
    | ((with_reducible refine gate (N := 2) rfl ?_); refine wpList_box_Own rfl (cs := cNil) (t := 29) (by first | (go_simp; done) | (go_simp; rfl)) M0.out ?_; intro m0 w1 M; (have M1 := hid M); clear M)
    | (go_at_call 33; (with_reducible refine (new_calls _ (h1H.out.below M1.out.below) hn).mono ?_); rintro _ w2 ⟨_, rfl, b, v, rfl, M⟩; ((have M2 := hid (M1.out.lift M (by simp [rdE, Ent.mine])))); (clear M))
    | ((with_reducible refine gate (N := 6) rfl ?_); refine wpList_box_Own rfl (cs := cNil) (t := 29) (by first | (go_simp; done) | (go_simp; rfl)) M2.out ?_; intro m w3 M; ((have R3 := hid (RS.start (L := [.blk m 29 cNil, .blk m0 29 cNil]) hBH.out (M.perm (List.perm_middle (l₁ := rdE _ _ _ _ _)).symm)))); (have M3 := hid M); clear M)
    | (go_at_call 44; (with_reducible refine (RS.U16 R3.out).mono ?_); rintro _ w4 ⟨_, rfl, rfl, M⟩; (have R4 := hid M); clear M))
  clear M1 M2 M3 R3
  go_loopw [15] (fun i wr => ∃ (j : Nat), j ≤ 4 ∧ i = .int .i64 j ∧ Hid (RS w wr b l (2 + 2 * j) [.blk m 29 (ints .i16 (boxK l j) ++ nil2).toArray, .blk m0 29 cNil])) (fun i _ => 4 - (intOf i).toNat)
  case atStart => exact ⟨0, Nat.zero_le _, rfl, R4⟩
  case round =>
    clear R4
    obtain ⟨j, hj, rfl, MR⟩ := hrel
    by_cases hlt : j < 4
    · go_wp2_with (go_at_call 34; (with_reducible refine (RS.I16 MR.out).mono ?_); rintro _ w5 ⟨_, rfl, rfl, M⟩; obtain ⟨v5, a5, b5, M5, e1, e2, e3⟩ := M.opened; obtain ⟨cx, fx⟩ := gb_cell (i := j) M5 (by rw [boxK_length l (by omega)]; omega); ((replace M5 := hid M5)); ((replace e1 := hid e1)); ((replace e2 := hid e2)); ((replace e3 := hid e3)); (clear M))
      go_roundw
      case rel => exact ⟨j + 1, by omega, by go_num, hid (RS.shut (L := [_, _]) (by rw [← boxK_set l hlt]; exact gb_set M5.out (by rw [boxK_length l (by omega)]; omega) _) e1.out e2.out e3.out)⟩
      case measure => simp [intOf] <;> omega
    · obtain rfl : j = 4 := by omega
      have R10 : Hid (RS w wr b l 10 [.blk m 29 (cA (boxS l [] []) (.slice none 0 0) (.slice none 0 0)), .blk m0 29 cNil]) := MR
      clear MR
      obtain ⟨gx, hgx⟩ : ∃ gx : Cg, boxS l [] [] = gx := ⟨_, rfl⟩
      rw [hgx] at R10
      replace hgx := hid hgx
      have hmin := hid (n2_bound hBH.out 0)
      go_wp2
      go_loopw [9] (fun ag wr => ∃ (j a : Nat) (q : Bool) (Ap : Option Addr) (cp : Nat), ag = .bool q ∧ j ≤ 201 ∧ Hid (∃ done, done.length = j ∧ (∀ p ∈ done, p.Ok) ∧ SpecL l j a q done ∧ RS w wr b l a [.row 35 8 (.slice Ap j cp) j (ptC done), .blk m 29 (cA gx (.slice Ap j cp) (.slice none 0 0)), .blk m0 29 cNil])) (fun _ wr => 201 - sLen ((wr.cell? ⟨m, 4, none⟩).getD undef))
      case atStart => exact ⟨0, 10, true, none, 0, rfl, by omega, hid ⟨[], rfl, by simp, SpecL.start l, R10.out.nil_row 35 8⟩⟩
      case round =>
        clear R10
        obtain ⟨j, a, q, Ap, cp, rfl, hj, hR⟩ := hrel
        obtain ⟨done, hdl, hdo, hsp, MR⟩ := hR.out
        clear hR
        replace hdl := hid hdl
        replace hdo := hid hdo
        replace hsp := hid hsp
        replace MR := hid MR
        have c4 := (c_cells (m := m) (g := gx) (vp := .slice Ap j cp) (vg := .slice none 0 0) MR.out.beside (by simp)).1
        by_cases hgo : q = true ∧ ¬ l.length < a ∧ j ≤ 200
        · obtain ⟨rfl, ha, hj2⟩ := hgo
          have hba : decide (l.length < a) = false := decide_eq_false ha
          have hbad := hid (RS.Bad MR.out)
          rw [hba] at hbad
          have hj2' : (j : Int) ≤ 200 := by omega
          have hsn := hid (hsp.out.next (by omega) hj2)
          have hok := hid (ptAt_ok hBH.out a)
          clear hba ha
          go_wp2_with (first
            | (go_at_call 45; (with_reducible refine hbad.out.mono ?_); rintro _ _ ⟨_, rfl, rfl, rfl⟩; obtain ⟨v5, a5, bad5, MO, h5, h6, h7⟩ := MR.out.opened; (have M5 := hid MO); (replace h5 := hid h5); (replace h6 := hid h6); (replace h7 := hid h7); clear MO)
            | ((with_reducible refine gate (N := 10) rfl ?_); refine wpList_box_Own rfl (cs := ptA pt0) (t := 35) (by first | (go_simp; done) | (go_simp; rfl)) M5.out ?_; intro n w6 M; (have M6 := hid (show RS w w6 b l a (.blk n 35 (ptA pt0) :: [.row 35 8 (.slice Ap j cp) j (ptC done), .blk m 29 (cA gx (.slice Ap j cp) (.slice none 0 0)), .blk m0 29 cNil]) from RS.shut (L := _ :: _) M h5.out h6.out h7.out)); (have M6' := hid M); clear M)
            | (go_at_call 46; (have hC := part_calls hBH.out M6.out); ((with_reducible refine hC.mono ?_); clear hC); rintro _ w7 ⟨_, rfl, rfl, M⟩; obtain ⟨v8, a8, bad8, MO, h8, h9, h10⟩ := M.opened; (have M7 := hid MO); (replace h8 := hid h8); (replace h9 := hid h9); (replace h10 := hid h10); clear MO M M6)
            | ((with_reducible refine gateSt (t := 35) (p := 10) rfl ?_); refine wpList_store_all (n := 8) (L1 := []) (mid := (ptA pt0).toList) (vs := (ptA (ptAt l a)).toList) rfl rfl (by kernel_rfl) rfl rfl rfl rfl rfl (one_all rfl) M7.out ?_; intro w8 M; (clear c4); ((have c4 := (c_cells (m := m) (g := gx) (vp := .slice Ap j cp) (vg := .slice none 0 0) M (by simp)).1)); (have M8 := hid M); clear M)
            | ((with_reducible refine gate (N := 43) rfl ?_); refine wpList_run rfl (exec_load_agg agg_part rfl rfl M8.out (g := n) (t := 35) (cs := ptA (ptAt l a)) (vs := (ptA (ptAt l a)).toList) (.head _) rfl rfl) ?_)
            | ((at_builtin; refine wpList_append_Own rfl (.tmp 42) (.tmp 44) _ rfl sized_part rfl rfl (L1 := [.blk w8.heap.size 35 (ptA (ptAt l a)), .blk n 35 (ptA (ptAt l a))]) (L2 := [.blk m 29 (cA gx (.slice Ap j cp) (.slice none 0 0)), .blk m0 29 cNil] ++ rdE b v8 l a8 bad8) (M8.out.alloc _ _) (SliceAt.built (M8.out.alloc _ _) (.head _) 8 1 rfl (by unfold maxLen; omega)) (one_all rfl) (by unfold maxLen; omega) (by omega) ?_; intro v' w9 M'; obtain ⟨A9, c9, rfl⟩ := M'.tail.tail.form (.head _); (have M9 := hid M'.tail.tail); (have cc4 := (c_cells (m := m) (g := gx) (vp := .slice Ap j cp) (vg := .slice none 0 0) M9.out (by simp)).1); (have ff4 := (c_free (m := m) (g := gx) (vp := .slice Ap j cp) (vg := .slice none 0 0) M9.out (by simp)).1); clear M')))
          have M10 := hid (M9.out.set (L1 := [_]) 4 (.slice A9 (j + 1) c9))
          have cm := (c_cells (m := m) (g := gx) (vp := .slice A9 (j + 1) c9) (vg := .slice none 0 0) (show Own w _ _ from M10.out) (by simp [cA])).1
          replace cm := hid cm
          replace c4 := hid (c_cells (m := m) (g := gx) (vp := .slice Ap j cp) (vg := .slice none 0 0) MR.out.beside (by simp)).1
          go_roundw
          case rel =>
            refine ⟨j + 1, a + wid (n2 l a), ?_⟩
            have hsn2 := hsn.out
            have hfull := fun (q : Bool) (h : SpecL l (j + 1) (a + wid (n2 l a)) q (done ++ [ptAt l a])) => show ∃ d, d.length = j + 1 ∧ (∀ p ∈ d, p.Ok) ∧ SpecL l (j + 1) (a + wid (n2 l a)) q d ∧ RS w _ b l (a + wid (n2 l a)) [.row 35 8 (.slice A9 (j + 1) c9) (j + 1) (ptC d), .blk m 29 (cA gx (.slice A9 (j + 1) c9) (.slice none 0 0)), .blk m0 29 cNil] from
              ⟨done ++ [ptAt l a], by rw [List.length_append, hdl.out]; rfl, fun p hp => (List.mem_append.1 hp).elim (hdo.out p) (fun h => by rw [List.mem_singleton] at h; rw [h]; exact hok.out), h, by rw [ptC_append]; exact RS.shut (L := [_, _, _]) M10.out h8.out h9.out h10.out⟩
            cases hq : hasB (n2 l a) 32
            · rw [hq] at hsn2
              exact .inl ⟨rfl, by omega, A9, c9, hid (hfull _ hsn2)⟩
            · rw [hq] at hsn2
              exact .inr ⟨rfl, by omega, A9, c9, hid (hfull _ hsn2)⟩
          case measure => (try rw [cm.out]); rw [c4.out]; simp [sLen] <;> omega
        · have hend := hid hgo
          clear hgo
          obtain ⟨bd, hbd⟩ : ∃ b, decide (l.length < a) = b := ⟨_, rfl⟩
          have hbad := hid (RS.Bad MR.out)
          rw [hbd] at hbad
          have hj3 : (q = false) ∨ (q = true ∧ bd = true) ∨ (q = true ∧ bd = false ∧ ¬ j ≤ 200) := by
            cases q
            · exact .inl rfl
            · cases bd
              · refine .inr (.inr ⟨rfl, rfl, fun h => hend.out ⟨rfl, of_decide_eq_false hbd, h⟩⟩)
              · exact .inr (.inl ⟨rfl, rfl⟩)
          go_upto_region 10 with fail
          go_cut [35] (fun c wx => c = .bool false ∧ wr = wx)
          case first =>
            rcases hj3 with rfl | ⟨rfl, rfl⟩ | ⟨rfl, rfl, hj4⟩
            · go_wp2_with (first
                | (go_at_call 45; (with_reducible refine hbad.out.mono ?_); rintro _ _ ⟨_, rfl, rfl, rfl⟩))
              go_meet
              exact ⟨by first | rfl | exact congrArg Value.bool (decide_eq_false (by omega)), rfl⟩
            · go_wp2_with (first
                | (go_at_call 45; (with_reducible refine hbad.out.mono ?_); rintro _ _ ⟨_, rfl, rfl, rfl⟩))
              go_meet
              exact ⟨by first | rfl | exact congrArg Value.bool (decide_eq_false (by omega)), rfl⟩
            · have hj5 : ¬ (j : Int) ≤ 200 := by omega
              go_wp2_with (first
                | (go_at_call 45; (with_reducible refine hbad.out.mono ?_); rintro _ _ ⟨_, rfl, rfl, rfl⟩))
              go_meet
              exact ⟨by first | rfl | exact congrArg Value.bool (decide_eq_false (by omega)), rfl⟩
          obtain ⟨hc, hw⟩ := hcut
          subst hc hw
          go_upto_region 14 with fail
          obtain ⟨cb, hcb⟩ : ∃ b, codeB done j = b := ⟨_, rfl⟩
          have hcbH := hid hcb
          go_cut [63] (fun c wx => c = .bool cb ∧ wr = wx)
          case first =>
            clear hbad hend hj3 hbd
            rcases (show j = 0 ∨ ∃ t, j = t + 1 from by cases j; exact .inl rfl; exact .inr ⟨_, rfl⟩) with rfl | ⟨t, rfl⟩
            · have : cb = false := hcb.symm
              subst this
              clear hcb
              go_wp2
              go_meet
              exact ⟨rfl, rfl⟩
            · obtain ⟨g3, hg3⟩ := MR.out.beside.row_at (.head _) (by omega)
              subst hg3
              have kc := (Own.row_set (L1 := []) MR.out.beside (t * 8) (by omega) (.int .u16 0)).2.1
              rw [ptC_f (by rw [hdl.out]; omega)] at kc
              have hOk := hid (show (pAt done t).Ok from hdo.out _ (by
                have := hdl.out
                simp [pAt, List.getD, show t < done.length by omega]))
              have hcc := hid (show hasB (pAt done t).f 256 = cb from hcb)
              obtain ⟨K, hK, hKc⟩ := code_ne hOk.out.f.1 hOk.out.f.2
              generalize pAt done t = p at *
              rw [hcc.out] at hKc
              clear hcb
              rcases hKc with ⟨rfl, rfl⟩ | ⟨rfl, rfl⟩
              · go_wp2
                go_meet
                exact ⟨by first | rfl | simp, rfl⟩
              · go_wp2
                go_meet
                exact ⟨by first | rfl | simp, rfl⟩
          obtain ⟨hc, hw⟩ := hcut
          subst hc hw
          clear hcb
          obtain ⟨z, hz⟩ : ∃ z : Nat, n2 l a = z := ⟨(n2 l a).toNat, by have := n2_bound hBH.out a; omega⟩
          have hzb : z < 65536 := by have := n2_bound hBH.out a; omega
          go_upto_if 63 with fail
          go_cut [] (fun wx => Hid (∃ (a2 : Nat) (pr : List Int) (Ag : Option Addr) (cg : Nat), Bytes pr ∧ TailP l a cb a2 pr ∧ RS w wx b l a2 [.row 5 1 (.slice Ag pr.length cg) pr.length (ints .u8 pr), .row 35 8 (.slice Ap j cp) j (ptC done), .blk m 29 (cA gx (.slice Ap j cp) (.slice Ag pr.length cg)), .blk m0 29 cNil]))
          case first =>
            clear hbad hend hj3 hbd
            cases cb
            · go_wp2
              go_meet
              exact hid ⟨a, [], none, 0, bytes_nil, .inl ⟨rfl, rfl, rfl⟩, MR.out.nil_row 5 1⟩
            · have hU := hid (RS.U16 MR.out)
              rw [hz] at hU
              have hwz : IntKind.i64.wrap (z : Int) = z := IntWalk.i64_in _ (by omega)
              go_wp2_with (first
                | (go_at_call 44; refine hU.out.mono ?_; rintro _ w8 ⟨_, rfl, rfl, M⟩; (have R8 := hid M); clear M)
                | (go_at_call 47; refine (RS.Take R8.out z hn).mono ?_; rintro _ w9 ⟨vp, rfl, M⟩; obtain ⟨Ag, cg, rfl⟩ := M.beside.form (.head _); obtain ⟨c5, f5⟩ := M.cellf (g := m) (t := 29) (cs := cA gx (.slice Ap j cp) (.slice none 0 0)) (by simp) 5; (replace c5 : w9.cell? ⟨m, 5, none⟩ = some (.slice none 0 0) := c5); (have R9 := hid M); clear M))
              have R10 := hid (RS.set (L1 := [_, _]) R9.out 5 (.slice Ag (tkB l (a + 2) z).length cg))
              go_meet
              exact hid ⟨a + 2 + z, tkB l (a + 2) z, Ag, cg, by unfold tkB; split; exact (hBH.out.drop _).take _; exact bytes_nil, .inr ⟨rfl, by rw [hz]; rfl, by rw [hz]; rfl⟩, R10.out⟩
          obtain ⟨a2, pr, Ag, cg, hprB, htl, MT⟩ := hcut.out
          rw [← hcbH.out] at htl
          have hcs := cp_cases hsp.out hdl.out hend.out hj htl
          clear hcut MR htl hcbH hbad hend hj3 hbd hsp hz
          replace MT := hid MT
          replace hprB := hid hprB
          obtain ⟨gg, hgg⟩ : ∃ gg, boxS l done pr = gg := ⟨_, rfl⟩
          rw [hgg] at hcs
          replace hcs := hid hcs
          have hcA : cA gg (.slice Ap j cp) (.slice Ag pr.length cg) = cA gx (.slice Ap j cp) (.slice Ag pr.length cg) := by rw [← hgg, ← hgx.out]; rfl
          have hgp : gg.parts = done ∧ gg.prog = pr := by rw [← hgg]; exact ⟨rfl, rfl⟩
          have hs16 := fun k => sgn_i16 (n2_bound hBH.out k).1 (n2_bound hBH.out k).2
          have hgO := hid (show gg.Ok by rw [← hgg]; exact ⟨hs16 2, hs16 4, hs16 6, hs16 8, hdo.out, hprB.out⟩)
          have hGA := hid (fun w1 L' (M : Own w w1 L') (h1 : .row 35 8 (.slice Ap j cp) j (ptC done) ∈ L') (h2 : .row 5 1 (.slice Ag pr.length cg) pr.length (ints .u8 pr) ∈ L') => show CAt w1 gg (.slice Ap j cp) (.slice Ag pr.length cg) from ⟨by rw [hgp.1, hdl.out]; exact M.slice h1, by rw [hgp.2]; exact M.slice h2⟩)
          have hRt := hid (cRight_calls wc hgO.out (hGA.out _ _ MT.out.beside (by simp) (by simp)))
          rw [hcA] at hRt
          obtain ⟨rg, hrg⟩ : ∃ b, cgR gg = b := ⟨_, rfl⟩
          obtain ⟨b2, hb2⟩ : ∃ b, decide (l.length < a2) = b := ⟨_, rfl⟩
          obtain ⟨e0, he0⟩ : ∃ b, (n2 l 0 == 65535) = b := ⟨_, rfl⟩
          rw [hrg] at hRt hcs
          have hbad := hid (RS.Bad MT.out)
          rw [hb2] at hbad hcs
          have hne : (n2 l 0 != 65535) = !e0 := by rw [← he0]; rfl
          rw [he0] at hcs
          have hb2H := hid hb2
          replace hrg := hid hrg
          replace hgp := hid hgp
          clear hb2 he0 hgg hs16 hmin c4 hzb
          obtain ⟨bb, hbb⟩ : ∃ b, (b2 || (!e0 || !rg)) = b := ⟨_, rfl⟩
          rw [hbb] at hcs
          have hbf := hid (show bb = false → a2 ≤ l.length from fun h => by
            have h2 : b2 = false := by
              cases b2
              · rfl
              · rw [h] at hbb; cases hbb
            have := of_decide_eq_false (hb2H.out.trans h2)
            omega)
          go_upto_region 16 with fail
          go_cut [80] (fun c wx => c = .bool bb ∧ Hid (RS w wx b l a2 [.row 5 1 (.slice Ag pr.length cg) pr.length (ints .u8 pr), .row 35 8 (.slice Ap j cp) j (ptC done), .blk m 29 (cA gx (.slice Ap j cp) (.slice Ag pr.length cg)), .blk m0 29 cNil]))
          case first =>
            clear hcs
            cases b2
            · cases e0
              · go_wp2_with (first
                  | (go_at_call 45; (with_reducible refine hbad.out.mono ?_); rintro _ _ ⟨_, rfl, rfl, rfl⟩))
                go_meet
                exact ⟨congrArg Value.bool (by rw [← hbb]; rfl), MT⟩
              · have MT2 := hid MT.out.beside
                go_wp2_with (first
                  | (go_at_call 45; (with_reducible refine hbad.out.mono ?_); rintro _ _ ⟨_, rfl, rfl, rfl⟩)
                  | ((with_reducible refine gate (N := 77) rfl ?_); refine wpList_run rfl (exec_load_agg agg_cg rfl rfl MT2.out (g := m) (t := 29) (cs := cA gx (.slice Ap j cp) (.slice Ag pr.length cg)) (vs := (cA gx (.slice Ap j cp) (.slice Ag pr.length cg)).toList) (by simp) rfl rfl) ?_)
                  | (go_at_call 12; (with_reducible refine hRt.out.mono ?_); rintro _ w12 ⟨_, rfl, rfl, hb⟩; (have MK := hid (MT.out.keep hb)); clear hb))
                go_meet
                exact ⟨congrArg Value.bool (by rw [← hbb]; cases rg <;> rfl), MK⟩
            · go_wp2_with (first
                | (go_at_call 45; (with_reducible refine hbad.out.mono ?_); rintro _ _ ⟨_, rfl, rfl, rfl⟩))
              go_meet
              exact ⟨congrArg Value.bool (by rw [← hbb]; rfl), MT⟩
          obtain ⟨hc, MT3⟩ := hcut
          subst hc
          clear hRt hbad hne hbb MT
          cases bb
          · rw [if_neg (by simp)] at hcs
            have hle := hbf.out rfl
            go_upto_region 18 with fail
            have MW := hid (MT3.out.keep (Below.refl _ _).drew)
            refine wp_region_until (S := fun w' => (loadVar 29 ⟨m, 0, none⟩).run Try.prog w' = .ok (.agg (cA gx (.slice Ap j cp) (.slice Ag pr.length cg))) w') 3 (by kernel_rfl) (run_load_agg (P := Try.prog) agg_cg (g := m) (off := 0) (vs := (cA gx (.slice Ap j cp) (.slice Ag pr.length cg)).toList) (MW.out.beside.heap (t := 29) (cs := cA gx (.slice Ap j cp) (.slice Ag pr.length cg)) (by simp)) rfl rfl) (fun hHeld => ?_)
            repeat (first | (refine wpAnyV_take (i := 0) (v := ?_) rfl (by kernel_rfl) (by decide +kernel) (by decide +kernel) [] (by decide +kernel) (by decide +kernel) (by decide) (fun _ _ _ h => h) ?_ (by assumption) ?_; rotate_left; (first | (refine yields_load (by rfl) rfl rfl ?_; intro w hSw; (try dsimp only at hSw); go_split_ands; assumption) | (refine Or.inl ⟨by rfl, ?_⟩; intro w hSw; (try dsimp only at hSw); go_simp; done) | (refine Or.inl ⟨by rfl, ?_⟩; intro w hSw; (try dsimp only at hSw); go_simp; with_reducible rfl) | exact Or.inr ⟨by rfl, rfl⟩ | exact Or.inr ⟨by rfl, by rfl⟩); (try simp only [Act.put, List.setIfInBounds_toArray, List.set_cons_zero, List.set_cons_succ, List.getElem_toArray, List.getElem_cons_zero, List.getElem_cons_succ])))
            repeat (first | (refine wpAnyV_take (i := 1) (v := ?_) rfl (by kernel_rfl) (by decide +kernel) (by decide +kernel) [2] (by decide +kernel) (by decide +kernel) (by decide) (fun _ _ _ h => h) ?_ (by assumption) ?_; rotate_left; (first | (refine yields_load (by rfl) rfl rfl ?_; intro w hSw; (try dsimp only at hSw); go_split_ands; assumption) | (refine Or.inl ⟨by rfl, ?_⟩; intro w hSw; (try dsimp only at hSw); go_simp; done) | (refine Or.inl ⟨by rfl, ?_⟩; intro w hSw; (try dsimp only at hSw); go_simp; with_reducible rfl) | exact Or.inr ⟨by rfl, rfl⟩ | exact Or.inr ⟨by rfl, by rfl⟩); (try simp only [Act.put, List.setIfInBounds_toArray, List.set_cons_zero, List.set_cons_succ, List.getElem_toArray, List.getElem_cons_zero, List.getElem_cons_succ])))
            refine wpAnyV_ready (rs := [2]) (by decide +kernel) (by simp) ?_; refine (AllReadyV.cons rfl (by decide) (fun K hK => ?_) AllReadyV.nil)
            go_simp
            refine (RS.At MW.out).mono ?_
            rintro _ _ ⟨_, rfl, at9, ha9, rfl, rfl⟩
            go_wp2_with fail
            refine hK.out _ _ hHeld (fun hHeld => ?_); clear hK K; (try simp only [Act.put, List.setIfInBounds_toArray, List.set_cons_zero, List.set_cons_succ, List.getElem_toArray, List.getElem_cons_zero, List.getElem_cons_succ])
            refine wpAnyV_ready (rs := [3]) (by decide +kernel) (by simp) ?_
            refine AllReadyV.last rfl (fun K hK => ?_)
            refine step_store_all (n := 6) (L1 := [.row 5 1 (.slice Ag pr.length cg) pr.length (ints .u8 pr), .row 35 8 (.slice Ap j cp) j (ptC done), .blk m 29 (cA gx (.slice Ap j cp) (.slice Ag pr.length cg))]) (mid := cNil.toList) (vs := (cA gx (.slice Ap j cp) (.slice Ag pr.length cg)).toList) rfl rfl (by kernel_rfl) rfl rfl rfl rfl rfl (one_all rfl) MW.out.beside ?_
            intro w9 M
            have M9 := hid M
            clear M
            refine hK.out _ _ (fun hHeld => ?_); clear hK K; (try simp only [Act.put, List.setIfInBounds_toArray, List.set_cons_zero, List.set_cons_succ, List.getElem_toArray, List.getElem_cons_zero, List.getElem_cons_succ])
            repeat (first | (refine wpAnyH_take (i := 4) (v := ?_) rfl (by kernel_rfl) (by decide +kernel) (by decide +kernel) (fun _ _ _ h => h) ?_ (by assumption) ?_; rotate_left; (first | (refine yields_load (by rfl) rfl rfl ?_; intro w hSw; (try dsimp only at hSw); go_split_ands; assumption) | (refine Or.inl ⟨by rfl, ?_⟩; intro w hSw; (try dsimp only at hSw); go_simp; done) | (refine Or.inl ⟨by rfl, ?_⟩; intro w hSw; (try dsimp only at hSw); go_simp; with_reducible rfl) | exact Or.inr ⟨by rfl, rfl⟩ | exact Or.inr ⟨by rfl, by rfl⟩); (try simp only [Act.put, List.setIfInBounds_toArray, List.set_cons_zero, List.set_cons_succ, List.getElem_toArray, List.getElem_cons_zero, List.getElem_cons_succ])) | (refine wpAnyH_take (i := 5) (v := ?_) rfl (by kernel_rfl) (by decide +kernel) (by decide +kernel) (fun _ _ _ h => h) ?_ (by assumption) ?_; rotate_left; (first | (refine yields_load (by rfl) rfl rfl ?_; intro w hSw; (try dsimp only at hSw); go_split_ands; assumption) | (refine Or.inl ⟨by rfl, ?_⟩; intro w hSw; (try dsimp only at hSw); go_simp; done) | (refine Or.inl ⟨by rfl, ?_⟩; intro w hSw; (try dsimp only at hSw); go_simp; with_reducible rfl) | exact Or.inr ⟨by rfl, rfl⟩ | exact Or.inr ⟨by rfl, by rfl⟩); (try simp only [Act.put, List.setIfInBounds_toArray, List.set_cons_zero, List.set_cons_succ, List.getElem_toArray, List.getElem_cons_zero, List.getElem_cons_succ])))
            refine wpAnyH_done (by kernel_rfl) ?_ _
            go_wp2_with fail
            have hat : at9 = a2 := ha9 hle
            have hOwn : Own w w9 [.row 35 8 (.slice Ap j cp) gg.parts.length (ptC gg.parts), .row 5 1 (.slice Ag pr.length cg) gg.prog.length (ints .u8 gg.prog)] := by
              rw [hgp.out.1, hgp.out.2, hdl.out]
              exact (M9.out.sub (L' := [.row 5 1 (.slice Ag pr.length cg) pr.length (ints .u8 pr), .row 35 8 (.slice Ap j cp) j (ptC done)]) (by simp)).swap
            refine bodyPost_ret (v := .tuple #[.agg (cA gx (.slice Ap j cp) (.slice Ag pr.length cg)), .int .i64 a2, .int .i64 0]) ?_ rfl (Ret.mk (.inl ⟨gg, a2, .slice Ap j cp, .slice Ag pr.length cg, hcs.out, hgO.out, by rw [hcA], hOwn⟩))
            exact results_agg_tmps2 (p := 2) (q := 3) (s := 4) rfl agg_cg _ (by rfl) (M9.out.heap (g := m0) (t := 29) (cs := cA gx (.slice Ap j cp) (.slice Ag pr.length cg)) (by simp)) rfl
          · rw [if_pos rfl] at hcs
            have hnone := hcs.out
            have MF := hid (MT3.out.beside.sub (L' := [.blk m0 29 cNil]) (by simp))
            go_wp2_with (first
              | ((with_reducible refine gateSt (t := 29) (p := 2) rfl ?_); refine wpList_store_all (n := 6) (L1 := []) (mid := cNil.toList) (vs := cNil.toList) rfl rfl (by kernel_rfl) rfl rfl rfl rfl rfl (one_all rfl) MF.out ?_; intro w18 M; (have M18 := hid M); clear M)
              | (refine bodyPost_ret (v := .tuple #[.agg cNil, .int .i64 0, .int .i64 2]) ?_ rfl (Ret.mk (.inr ⟨hnone, rfl, M18.out.below⟩)); exact results_agg_tmps2 (p := 2) (q := 3) (s := 4) rfl agg_cg _ (by rfl) (M18.out.heap (.head _)) rfl))
end Go.Proofs.Yteoicpbfjkjogaa
