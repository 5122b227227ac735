/- Layer 13: the document's glyph that bytes begin with. -/
import Derived.Test.YteoicpbfjkjogaaCompU
import Derived.Test.YteoicpbfjkjogaaCompN
import Derived.Test.YteoicpbfjkjogaaJoin
import Derived.Test.YteoicpbfjkjogaaUntil
import Derived.Deep.DeepCutAuto
namespace Go.Proofs.Yteoicpbfjkjogaa
open Go Go.RowKit
set_option linter.unusedVariables false
set_option linter.unusedSimpArgs false
set_option maxRecDepth 1000000

abbrev dNil : Array Value := dA ⟨0, 0, 0, 0, [], []⟩ (.slice none 0 0) (.slice none 0 0)
section
variable {W0 w : World} {L : List Ent} {m : Nat} {zs : List Int} {R : List Value}
theorem db_cell {T : TypeId} (M : Own W0 w (.blk m T (ints .i64 zs ++ R).toArray :: L)) {i : Nat} (h : i < zs.length) : w.cell? ⟨m, i, none⟩ = some (.int .i64 (zs.getD i 0)) ∧ w.frozen? ⟨m, i, none⟩ = false := by
  refine ⟨?_, M.free (.head _) i⟩
  rw [M.cell (.head _)]
  rw [List.getElem?_toArray, List.getElem?_append_left (by rw [ints_length]; exact h)]
  exact ints_get .i64 zs i h
theorem db_set {T : TypeId} (M : Own W0 w (.blk m T (ints .i64 zs ++ R).toArray :: L)) {i : Nat} (h : i < zs.length) (x : Int) : Own W0 (w.setCell ⟨m, i, none⟩ (.int .i64 x)) (.blk m T (ints .i64 (zs.set i x) ++ R).toArray :: L) := by
  have := M.set (L1 := []) i (.int .i64 x)
  rw [List.nil_append, List.setIfInBounds_toArray, List.set_append_left _ _ (by rw [ints_length]; exact h)] at this
  have e : (ints .i64 zs).set i (.int .i64 x) = ints .i64 (zs.set i x) := by unfold ints; rw [List.map_set]
  rwa [e] at this
end
/-- The numbers of a matrix, so far read. -/
def matK (l : List Int) (s t : Nat) : List Int := (List.range t).map (fun i => sgn (n2 l (s + 2 * i))) ++ List.replicate (4 - t) 0
theorem matK_length (l : List Int) (s : Nat) {t : Nat} (h : t ≤ 4) : (matK l s t).length = 4 := by simp [matK]; omega
theorem matK_set (l : List Int) (s : Nat) {t : Nat} (h : t < 4) : (matK l s t).set t (sgn (n2 l (s + 2 * t))) = matK l s (t + 1) := by
  unfold matK
  rw [List.set_append_right _ _ (by simp), show 4 - t = (4 - (t + 1)) + 1 by omega, List.replicate_succ]
  simp [List.range_succ]
section
variable {W0 w : World} {L : List Ent} {m : Nat} {zs : List Int}
theorem ib_cell {T : TypeId} (M : Own W0 w (.blk m T (ints .i64 zs).toArray :: L)) {i : Nat} (h : i < zs.length) : w.cell? ⟨m, i, none⟩ = some (.int .i64 (zs.getD i 0)) ∧ w.frozen? ⟨m, i, none⟩ = false := by
  refine ⟨?_, M.free (.head _) i⟩
  rw [M.cell (.head _), List.getElem?_toArray]
  exact ints_get .i64 zs i h
theorem ib_set {T : TypeId} (M : Own W0 w (.blk m T (ints .i64 zs).toArray :: L)) {i : Nat} (h : i < zs.length) (x : Int) : Own W0 (w.setCell ⟨m, i, none⟩ (.int .i64 x)) (.blk m T (ints .i64 (zs.set i x)).toArray :: L) := by
  have := M.set (L1 := []) i (.int .i64 x)
  rw [List.nil_append, List.setIfInBounds_toArray] at this
  have e : (ints .i64 zs).set i (.int .i64 x) = ints .i64 (zs.set i x) := by unfold ints; rw [List.map_set]
  rwa [e] at this
end
theorem agg_i4 : AggOf Try.prog 49 4 := .mk' Try.underlying49 rfl (by kernel_rfl)
theorem d_free {W0 w : World} {L : List Ent} {m : Nat} {g : Cg} {vp vg : Value} (M : Own W0 w L) (h : .blk m 52 (dA g vp vg) ∈ L) :
    w.frozen? ⟨m, 4, none⟩ = false ∧ w.frozen? ⟨m, 5, none⟩ = false := ⟨M.free h 4, M.free h 5⟩
/-- What is parsed by the document. -/
def RefParseP (w : World) (l : List Int) (r : Value) (w' : World) : Prop :=
  (∃ (g : Cg) (n : Nat) (vp vg : Value), cpS l = some (g, n) ∧ r = .tuple #[.agg (dA g vp vg), .int .i64 n, .bool true] ∧ Own w w' [.row 82 8 vp g.parts.length (dtC g.parts), .row 5 1 vg g.prog.length (ints .u8 g.prog)]) ∨
  (cpS l = none ∧ r = .tuple #[.agg dNil, .int .i64 0, .bool false] ∧ Below w.heap.size w w')
theorem n2_0 {l : List Int} (h : 10 ≤ l.length) : n2 l 0 = 256 * l.getD 0 0 + l.getD 1 0 := by unfold n2; rw [if_pos (by omega)]
theorem cpS_head {l : List Int} (h : n2 l 0 ≠ 65535) : cpS l = none := by unfold cpS; rw [if_neg h]
/-- A fact that no search takes. -/
structure KBoxP (p : Prop) : Prop where out : p
/-- A long walk in parts: what is left at some places, and that it is enough. -/
structure Cut2 (G : Prop) where
  P1 : Prop
  P2 : Prop
  main : KBoxP P1 → KBoxP P2 → G
structure Cut4 (G : Prop) where
  P1 : Prop
  P2 : Prop
  P3 : Prop
  P4 : Prop
  main : KBoxP P1 → KBoxP P2 → KBoxP P3 → KBoxP P4 → G
set_option maxHeartbeats 8000000 in
def refParse_cut : Cut2 (∀ (w : World) {V : Value} {l : List Int} (h1 : BytesAt w V l) (hB : Bytes l) (hn : l.length ≤ 140737488355328), Calls Try.prog 24 #[V] w (Ret fun r w' => RefParseP w l r w')) := by
  apply Cut2.mk
  intro hPart1 hPart2 w V l h1 hB hn
  have M0 := hid (Own.start w)
  have h1H := hid h1
  have hN2 := hid (fun w1 (h : Below w.heap.size w w1) (a : Nat) (ha : a ≤ 4611686018427387904) => N2_calls w1 a ha hB (h1.below h))
  obtain ⟨A, C, rfl, hc1, hm1, -⟩ := h1
  unfold maxLen at hm1
  have hBH := hid hB
  obtain ⟨n, hln⟩ : ∃ n, l.length = n := ⟨_, rfl⟩
  have hS := hid (fun w1 (h : Below w.heap.size w w1) => show SliceAt w1 w1.heap.size 1 (.slice A n C) n (ints .u8 l) by rw [← hln]; exact h1H.out.below h)
  rw [hln] at hN2 hc1 hn ⊢
  have hlnH := hid hln
  obtain ⟨p0, p1⟩ := hB.get 0
  obtain ⟨p2, p3⟩ := hB.get 1
  clear hB h1H hln
  by_cases h10 : 10 ≤ n
  · have hn20 := n2_0 (l := l) (by rw [hlnH.out]; exact h10)
    have hno := hid (show l.getD 0 0 ≠ 255 ∨ l.getD 1 0 ≠ 255 → cpS l = none from fun h => cpS_head (by omega))
    have h65 := hid (show l.getD 0 0 = 255 → l.getD 1 0 = 255 → n2 l 0 = 65535 from fun e1 e2 => by omega)
    have hT := hid (fun w1 (h : Below w.heap.size w w1) => show Calls Try.prog 49 #[.slice A n C, .int .i64 0, .int .i64 10] w1 _ from take_yes w1 (at_ := 0) (k := 10) hc1 hm1 hn (by omega))
    have hg0 := hid (show ((l.drop 0).take 10).getD 0 0 = l.getD 0 0 from getD_cut (by omega) (by rw [hlnH.out]; exact h10))
    have hg1 := hid (show ((l.drop 0).take 10).getD 1 0 = l.getD 1 0 from getD_cut (by omega) (by rw [hlnH.out]; exact h10))
    have hfl := hid (show ((l.drop 0).take 10).length = 10 by rw [List.length_take, List.length_drop, hlnH.out]; omega)
    have hfn := hid (fun i (hi : i + 2 ≤ 10) => show n2 ((l.drop 0).take 10) i = n2 l i by rw [n2_cut hi (by rw [hlnH.out]; exact h10), Nat.zero_add])
    have hfB := hid (show Bytes ((l.drop 0).take 10) from (hBH.out.drop 0).take 10)
    clear hn20
    generalize hx0 : l.getD 0 0 = x0 at *
    generalize hx1 : l.getD 1 0 = x1 at *
    clear hx0 hx1
    go_enter Try.func24, Try.ntmps24
    go_upto_region 3 with (first
      | ((with_reducible refine gate (N := 2) rfl ?_); refine wpList_box_Own rfl (cs := dNil) (t := 52) (by first | (go_simp; done) | (go_simp; rfl)) M0.out ?_; intro m0 w1 M; (have M1 := hid M); clear M)
      | ((with_reducible refine gate (N := 5) rfl ?_); refine wpList_box_Own rfl (cs := dNil) (t := 52) (by first | (go_simp; done) | (go_simp; rfl)) M1.out ?_; intro m w2 M; (have M2 := hid M); clear M)
      | (go_at_call 49; (with_reducible refine (hT.out _ M2.out.below).mono ?_); rintro _ w3 ⟨_, rfl, rfl, rfl⟩))
    clear hT M0 M1
    have hFS := hid (fun w1 (h : Below w.heap.size w w1) => show SliceAt w1 w1.heap.size 1 (.slice (cutV A C 0) 10 C) 10 (ints .u8 ((l.drop 0).take 10)) from cutS (hS.out w1 h) (at_ := 0) (k := 10) h10)
    obtain ⟨FA, hFA⟩ : ∃ x, cutV A C 0 = x := ⟨_, rfl⟩
    rw [hFA] at hFS ⊢
    have hF := hFS.out w2 M2.out.below
    clear hFA
    obtain ⟨A', C', he, -, -, -, hrd⟩ := hF
    (injection he with he1 he2 he3); subst he1 he3
    obtain ⟨fa, rfl, -, hcell⟩ := hrd.2 (by omega)
    have f0 : w2.cell? fa = some (.int .u8 x0) := by
      have := hcell 0 (.int .u8 x0) (by rw [ints_get .u8 _ 0 (by rw [hfl.out]; omega), hg0.out])
      simpa [Addr.add] using this
    have f1 : w2.cell? ⟨fa.block, fa.off + 1, none⟩ = some (.int .u8 x1) := by
      have := hcell 1 (.int .u8 x1) (by rw [ints_get .u8 _ 1 (by rw [hfl.out]; omega), hg1.out])
      simpa [Addr.add] using this
    clear hrd hcell he2 hg0 hg1
    generalize (l.drop 0).take 10 = fr at *
    by_cases e0 : x0 = 255
    · by_cases e1 : x1 = 255
      · have h65' := hid (h65.out e0 e1)
        subst e0 e1
        clear hno h65
        replace M2 := hid M2.out
        go_wp2_with fail
        clear f0 f1
        go_loopw [8] (fun i wr => ∃ (j : Nat), j ≤ 4 ∧ i = .int .i64 j ∧ Hid (Own w wr [.blk m 52 (ints .i64 (boxK l j) ++ nil2).toArray, .blk m0 52 dNil])) (fun i _ => 4 - (intOf i).toNat)
        case atStart => exact ⟨0, Nat.zero_le _, rfl, M2⟩
        case round =>
          clear M2
          obtain ⟨j, hj, rfl, MR⟩ := hrel
          by_cases hlt : j < 4
          · -- <box
            have hNj := hid (fun w1 (h : Below w.heap.size w w1) => show Calls Try.prog 50 #[.slice (some fa) 10 C, .int .i64 (2 + 2 * (j : Int))] w1 (Ret fun r w' => r = .tuple #[.int .i64 (n2 l (2 + 2 * j)), .bool (decide (2 + 2 * j + 2 ≤ 10))] ∧ Below w1.heap.size w1 w') from by
              have := N2_calls w1 (v := .slice (some fa) 10 C) (l := fr) (2 + 2 * j) (by omega) hfB.out (by unfold BytesAt; rw [hfl.out]; exact hFS.out w1 h)
              rw [hfn.out _ (by omega), hfl.out] at this
              exact this)
            obtain ⟨z0, z1⟩ := n2_bound hBH.out (2 + 2 * j)
            have hset := hid (boxK_set l hlt)
            have hw1 : IntKind.i64.wrap (2 * (j : Int)) = 2 * j := IntWalk.i64_in _ (by omega)
            have hw2 : IntKind.i64.wrap (2 + 2 * (j : Int)) = 2 + 2 * j := IntWalk.i64_in _ (by omega)
            generalize n2 l (2 + 2 * j) = z at *
            generalize decide (2 + 2 * j + 2 ≤ 10) = d at *
            go_wp2_with (first
              | (go_at_call 50; (with_reducible refine (hNj.out _ MR.out.below).mono ?_); rintro _ w5 ⟨_, rfl, rfl, hb⟩; (have M5 := hid (MR.out.keep hb)); clear hb)
              | (go_at_call 51; (with_reducible refine (Sign_calls _ z0 z1).mono ?_); rintro _ w6 ⟨_, rfl, rfl, rfl⟩; obtain ⟨cx, fx⟩ := db_cell (i := j) M5.out (by rw [boxK_length l (by omega)]; omega)))
            go_roundw
            case rel => exact ⟨j + 1, by omega, by go_num, hid (by rw [← hset.out]; exact db_set M5.out (by rw [boxK_length l (by omega)]; omega) _)⟩
            case measure => simp [intOf] <;> omega
            -- box>
          · obtain rfl : 4 = j := by omega
            have M10 : Hid (Own w wr [.blk m 52 (dA (boxS l [] []) (.slice none 0 0) (.slice none 0 0)), .blk m0 52 dNil]) := MR
            clear MR hFS hfn hfl hfB hj hlt
            obtain ⟨gx, hgx⟩ : ∃ gx : Cg, boxS l [] [] = gx := ⟨_, rfl⟩
            rw [hgx] at M10
            replace hgx := hid hgx
            rw [show ((4 : Nat) : Int) = 4 from rfl]
            go_wp2_with fail
            go_loopw [11, 12] (fun o mo wr => ∃ (j a : Nat) (q : Bool) (Ap : Option Addr) (cp : Nat), o = .int .i64 a ∧ mo = .bool q ∧ j ≤ 200 ∧ a ≤ n ∧ (q = false → 1 ≤ j) ∧ Hid (∃ done, done.length = j ∧ (∀ p ∈ done, p.Ok) ∧ SpecL l j a q done ∧ Own w wr [.row 82 8 (.slice Ap j cp) j (dtC done), .blk m 52 (dA gx (.slice Ap j cp) (.slice none 0 0)), .blk m0 52 dNil])) (fun _ _ wr => 201 - sLen ((wr.cell? ⟨m, 4, none⟩).getD undef))
            case atStart => exact ⟨0, 10, true, none, 0, rfl, rfl, by omega, h10, (by intro h; cases h), hid ⟨[], rfl, by simp, SpecL.start l, M10.out.nil_row 82 8⟩⟩
            case round =>
              clear M10
              obtain ⟨j, a, q, Ap, cp, rfl, rfl, hj, han, hq1, hR⟩ := hrel
              obtain ⟨done, hdl, hdo, hsp, MR⟩ := hR.out
              clear hR
              replace hdl := hid hdl
              replace hdo := hid hdo
              replace hsp := hid hsp
              replace MR := hid MR
              have c4 := hid (d_cells (m := m) (g := gx) (vp := .slice Ap j cp) (vg := .slice none 0 0) MR.out (by simp)).1
              cases q
              · rename_i iqP iqQ iq0 iq1 iq2 iq3 iq4 iq5; revert w l A C n m0 m gx wr j a Ap cp done iqP iqQ iq0 iq1 iq2 iq3 iq4 iq5 fa u3 u4 u9 u10 u54 u55 u56 u57 u58 u59 u60 u61 u62 u63 u64 u65 u66 u67 u68 u69 u70 u13 u14 u15 u16 u17 u18 u19 u20 u21 u22 u23 u24 u25 u26 u27 u28 u29 u71 u72 u73 u74 u75 u76 u77 u78 u79 u80 u81 u82 u83 u84 u85 u86 u87 u88 u89 u90 u91 u92 u93 u94 u95 u96 u97 u98 u99 u100 u101 u102 u103 u104 u105 u106 u107 u108 u109 u110 u111 u112 u113 u114 u115 u116 u117 u118 u119 u120 u121 u122 u123 u124 u125 u126 u127 u128 u129 u130 u131 u132 u133 u134 u135 u136 u137 u138 u139 u140 u141 u142 u143 u144 u145 u146 u147 u148 u149 u150 u151 u152 u153 u154 u155 u156 u157 u158 u159 u160 u161 u162 u163 u164 u165 u166 u167 u168 u169 u170 u171 u172 u173 u174 u175 u176 u177 u178 u179 u180 u181 u182 u183 u184 u185 u186 u187 u188 u189 u190 u191 u192 u193 u194 u195 u196 u197 u198 u199 u200 u201 u202 u203 u204 u205 u206 u207 u208 u209 u210 u211 u212 u213 u214 u215 u216 u217 u218 u219; exact hPart1.out
              · rename_i iqP iqQ iq0 iq1 iq2 iq3 iq4 iq5; revert w l A C n m0 m gx wr j a Ap cp done iqP iqQ iq0 iq1 iq2 iq3 iq4 iq5 fa u3 u4 u9 u10 u54 u55 u56 u57 u58 u59 u60 u61 u62 u63 u64 u65 u66 u67 u68 u69 u70 u13 u14 u15 u16 u17 u18 u19 u20 u21 u22 u23 u24 u25 u26 u27 u28 u29 u71 u72 u73 u74 u75 u76 u77 u78 u79 u80 u81 u82 u83 u84 u85 u86 u87 u88 u89 u90 u91 u92 u93 u94 u95 u96 u97 u98 u99 u100 u101 u102 u103 u104 u105 u106 u107 u108 u109 u110 u111 u112 u113 u114 u115 u116 u117 u118 u119 u120 u121 u122 u123 u124 u125 u126 u127 u128 u129 u130 u131 u132 u133 u134 u135 u136 u137 u138 u139 u140 u141 u142 u143 u144 u145 u146 u147 u148 u149 u150 u151 u152 u153 u154 u155 u156 u157 u158 u159 u160 u161 u162 u163 u164 u165 u166 u167 u168 u169 u170 u171 u172 u173 u174 u175 u176 u177 u178 u179 u180 u181 u182 u183 u184 u185 u186 u187 u188 u189 u190 u191 u192 u193 u194 u195 u196 u197 u198 u199 u200 u201 u202 u203 u204 u205 u206 u207 u208 u209 u210 u211 u212 u213 u214 u215 u216 u217 u218 u219; exact hPart2.out
      · clear hPart1 hPart2
        have hnone := hno.out (.inr e1)
        have e1' : (x1 == 255) = false := by rw [beq_eq_false_iff_ne]; exact e1
        subst e0
        clear hno h65
        go_wp2_with (first
          | ((with_reducible refine gate (N := 53) rfl ?_); refine wpList_run rfl (exec_load_agg agg_dg rfl rfl M2.out (g := m) (t := 52) (cs := dNil) (vs := dNil.toList) (.head _) rfl rfl) ?_)
          | ((with_reducible refine gateSt (t := 52) (p := 2) rfl ?_); refine wpList_store_all (n := 6) (L1 := [.blk m 52 dNil]) (mid := dNil.toList) (vs := dNil.toList) rfl rfl (by kernel_rfl) rfl rfl rfl rfl rfl (one_all rfl) M2.out ?_; intro w18 M; (have M18 := hid M); clear M)
          | (refine bodyPost_ret (v := .tuple #[.agg dNil, .int .i64 0, .bool false]) ?_ rfl (Ret.mk (.inr ⟨hnone, rfl, M18.out.below⟩)); exact results_agg_tmps2 (p := 2) (q := 3) (s := 4) rfl agg_dg _ (by rfl) (M18.out.heap (g := m0) (t := 52) (cs := dNil) (by simp)) rfl))
    · clear hPart1 hPart2
      have hnone := hno.out (.inl e0)
      have e0' : (x0 == 255) = false := by rw [beq_eq_false_iff_ne]; exact e0
      clear hno h65
      go_wp2_with (first
        | ((with_reducible refine gate (N := 53) rfl ?_); refine wpList_run rfl (exec_load_agg agg_dg rfl rfl M2.out (g := m) (t := 52) (cs := dNil) (vs := dNil.toList) (.head _) rfl rfl) ?_)
        | ((with_reducible refine gateSt (t := 52) (p := 2) rfl ?_); refine wpList_store_all (n := 6) (L1 := [.blk m 52 dNil]) (mid := dNil.toList) (vs := dNil.toList) rfl rfl (by kernel_rfl) rfl rfl rfl rfl rfl (one_all rfl) M2.out ?_; intro w18 M; (have M18 := hid M); clear M)
        | (refine bodyPost_ret (v := .tuple #[.agg dNil, .int .i64 0, .bool false]) ?_ rfl (Ret.mk (.inr ⟨hnone, rfl, M18.out.below⟩)); exact results_agg_tmps2 (p := 2) (q := 3) (s := 4) rfl agg_dg _ (by rfl) (M18.out.heap (g := m0) (t := 52) (cs := dNil) (by simp)) rfl))
  · clear hPart1 hPart2
    have hnone : cpS l = none := cpS_pts (ptsF_none (by rw [hlnH.out]; omega))
    have hT := hid (fun w1 => show Calls Try.prog 49 #[.slice A n C, .int .i64 0, .int .i64 10] w1 _ from take_no w1 (at_ := 0) (k := 10) hn (by omega) (by omega) (by omega))
    go_enter Try.func24, Try.ntmps24
    go_upto_region 3 with (first
      | ((with_reducible refine gate (N := 2) rfl ?_); refine wpList_box_Own rfl (cs := dNil) (t := 52) (by first | (go_simp; done) | (go_simp; rfl)) M0.out ?_; intro m0 w1 M; (have M1 := hid M); clear M)
      | ((with_reducible refine gate (N := 5) rfl ?_); refine wpList_box_Own rfl (cs := dNil) (t := 52) (by first | (go_simp; done) | (go_simp; rfl)) M1.out ?_; intro m w2 M; (have M2 := hid M); clear M)
      | (go_at_call 49; (with_reducible refine (hT.out _).mono ?_); rintro _ w3 ⟨_, rfl, rfl, rfl⟩))
    go_wp2_with (first
      | ((with_reducible refine gate (N := 53) rfl ?_); refine wpList_run rfl (exec_load_agg agg_dg rfl rfl M2.out (g := m) (t := 52) (cs := dNil) (vs := dNil.toList) (.head _) rfl rfl) ?_)
      | ((with_reducible refine gateSt (t := 52) (p := 2) rfl ?_); refine wpList_store_all (n := 6) (L1 := [.blk m 52 dNil]) (mid := dNil.toList) (vs := dNil.toList) rfl rfl (by kernel_rfl) rfl rfl rfl rfl rfl (one_all rfl) M2.out ?_; intro w18 M; (have M18 := hid M); clear M)
      | (refine bodyPost_ret (v := .tuple #[.agg dNil, .int .i64 0, .bool false]) ?_ rfl (Ret.mk (.inr ⟨hnone, rfl, M18.out.below⟩)); exact results_agg_tmps2 (p := 2) (q := 3) (s := 4) rfl agg_dg _ (by rfl) (M18.out.heap (g := m0) (t := 52) (cs := dNil) (by simp)) rfl))
end Go.Proofs.Yteoicpbfjkjogaa
