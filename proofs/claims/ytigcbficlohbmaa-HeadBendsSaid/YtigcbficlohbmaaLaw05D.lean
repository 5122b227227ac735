/- Layer 5: HeadBends. -/
import Derived.Test.YtigcbficlohbmaaLaw05B
import Derived.Test.YtigcbficlohbmaaHeadF
import Derived.Test.YtigcbficlohbmaaRowSet
import Derived.Test.YtigcbficlohbmaaHeld
import Derived.Deep.RegionWith
import Derived.Deep.DeepCutAuto
import Derived.Deep.RegionHeld3
namespace Go.Proofs.Ytigcbficlohbmaa
open Go Go.RowKit
set_option linter.unusedVariables false
set_option linter.unusedSimpArgs false
set_option maxRecDepth 100000

/-- A byte that is turned. -/
def xor8 (a b : Int) : Int := bits .xor .u8 a b
theorem xor8_bd (a b : Int) : 0 ≤ xor8 a b ∧ xor8 a b < 256 := wf_u8 (wf_bits _ _ _ _)
theorem Bytes.set {l : List Int} (h : Bytes l) (i : Nat) {x : Int} (h0 : 0 ≤ x) (h1 : x < 256) : Bytes (l.set i x) := by
  intro y hy
  rcases List.mem_or_eq_of_mem_set hy with hy | rfl
  · exact h y hy
  · exact ⟨h0, h1⟩
theorem ints_set (k : IntKind) (l : List Int) (i : Nat) (x : Int) : (ints k l).set i (.int k x) = ints k (l.set i x) := by simp [ints, List.map_set]
theorem BytesAt.pre {w : World} {A : Option Addr} {c n k : Nat} {l : List Int} (h : BytesAt w (.slice A n c) l) (hk : k ≤ l.length) : BytesAt w (.slice A k c) (l.take k) := by
  obtain ⟨A', c', he, hnc, hcm, hA, hr⟩ := h
  injection he with he1 he2 he3
  subst he1; subst he3
  have hl : (l.take k).length = k := by rw [List.length_take]; omega
  refine ⟨A, c, by rw [hl], by omega, hcm, hA, by rw [ints_length, hl, Nat.mul_one], fun hn => ?_⟩
  obtain ⟨ad, rfl, hb, hc⟩ := hr.2 (by omega)
  refine ⟨ad, rfl, hb, fun j u hu => hc j u ?_⟩
  rw [show ints IntKind.u8 (l.take k) = (ints .u8 l).take k by simp [ints, List.map_take], List.getElem?_take] at hu
  split at hu
  · exact hu
  · cases hu
/-- A zero behind bytes of the call's own. -/
theorem join_zero {W0 w : World} {L : List Ent} {v : Value} {n : Nat} {l : List Int} (M : Own W0 w L) (h : .row 5 1 v n (ints .u8 l) ∈ L) (hn : l.length = n) (hs : n ≤ 1000000) :
    Calls Try.prog 13 #[.slice (some { block := w.heap.size + 1, off := 0 }) 2 2] ((w.alloc (.cells #[.int .u8 0] 5)).alloc (.cells #[v, .slice (some { block := w.heap.size, off := 0 }) 1 1] 33))
      (Ret fun r w' => Own W0 w' (.row 5 1 r (n + 1) (ints .u8 (l ++ [0])) :: L)) := by
  have M2 := (M.alloc 5 #[.int .u8 0]).alloc 33 #[v, .slice (some ⟨w.heap.size, 0, none⟩) 1 1]
  have e : (w.alloc (.cells #[.int .u8 0] 5)).heap.size = w.heap.size + 1 := Array.size_push ..
  rw [e] at M2
  have hf : [l, [0]].flatten = l ++ [0] := by simp
  have hl : (l ++ [0]).length = n + 1 := by simp [hn]
  have J := join_calls _ (vs := [v, .slice (some ⟨w.heap.size, 0, none⟩) 1 1]) (ls := [l, [0]]) (SliceAt.built M2 (.head _) 1 2 rfl (by unfold maxLen; omega)) (.cons (M2.bytes (e := 5) (n := n) (by simp [h]) hn) (.cons (SliceAt.built M2 (g := w.heap.size) (t := 5) (cs := #[.int .u8 0]) (by simp) 1 1 rfl (by unfold maxLen; omega)) (.nil _))) (by rw [hf, hl]; omega)
  rw [hf, hl] at J
  refine J.mono ?_
  rintro _ w' ⟨_, rfl, MJ⟩
  refine .mk ((M2.lift MJ).sub ?_)
  exact List.cons_sublist_cons.2 (List.Sublist.trans (List.sublist_cons_self _ _) (List.sublist_cons_self _ _))
theorem hd_un (h : Hd) (x : Int) : (hdC h).toArray.setIfInBounds 3 (.int .u16 x) = (hdC {h with un := x}).toArray := rfl
theorem hdE_cases (l : List Int) : (hdOk l = true ∧ hdE l = 0) ∨ (hdOk l = false ∧ hdE l = 2) := by
  cases h : hdOk l
  · exact .inr ⟨rfl, hdE_no h⟩
  · exact .inl ⟨rfl, hdE_of h⟩
theorem hdOk_len {l : List Int} (h : l.length ≠ 54) : hdOk l = false := by
  have : (l.length == 54) = false := by simpa using h
  unfold hdOk; rw [this]; rfl
theorem hd_units {h : Hd} (O : h.ok) (x : Int) (h0 : 16 ≤ x) (h1 : x ≤ 16384) : ({h with un := x} : Hd).ok ∧ ({h with un := x} : Hd).right = true := by
  refine ⟨⟨O.rv, O.adj, O.fl, ⟨by show 0 ≤ x; omega, by show x < 65536; omega⟩, O.cr, O.md, O.b0, O.b1, O.b2, O.b3, O.st, O.lo, O.hi⟩, ?_⟩
  show (decide (16 ≤ x) && decide (x ≤ 16384)) = true
  rw [decide_eq_true h0, decide_eq_true h1]; rfl

set_option maxHeartbeats 16000000 in
theorem headBends_calls (w : World) (h : Hd) (O : h.ok) {at_ turn cut : Int} (a0 : 0 ≤ at_) (a1 : at_ < 256) (t0 : 0 ≤ turn) (t1 : turn < 256) (u0 : 0 ≤ cut) (u1 : cut < 256) :
    Calls Try.prog 7 #[.agg (hdC h).toArray, .int .u8 at_, .int .u8 turn, .int .u8 cut] w (Ret fun r w' => r = .bool true ∧ Below w.heap.size w w') := by
  have M0 := hid (Own.start w)
  obtain ⟨ua0, ua1⟩ := O.un
  obtain ⟨O', hr'⟩ := hd_units O (16 + h.un % 16369) (by omega) (by omega)
  obtain ⟨h', hh'⟩ : ∃ h' : Hd, ({h with un := 16 + h.un % 16369} : Hd) = h' := ⟨_, rfl⟩
  rw [hh'] at O' hr'
  replace hh' := hid hh'
  have hY := hid (fun w => headBytes_calls w h' O' hr')
  have hB := hdB_bytes h'
  have hl54 := hdB_length h'
  clear O O' hr'
  generalize hdB h' = q at *
  obtain ⟨k, hk, hk54⟩ : ∃ k : Nat, at_.tmod 54 = k ∧ k < 54 := ⟨(at_.tmod 54).toNat, by have := Int.tmod_nonneg 54 a0; omega, by have := Int.tmod_lt_of_pos at_ (show (0 : Int) < 54 by omega); have := Int.tmod_nonneg 54 a0; omega⟩
  obtain ⟨j, hj, hj54⟩ : ∃ k : Nat, cut.tmod 54 = k ∧ k < 54 := ⟨(cut.tmod 54).toNat, by have := Int.tmod_nonneg 54 u0; omega, by have := Int.tmod_lt_of_pos cut (show (0 : Int) < 54 by omega); have := Int.tmod_nonneg 54 u0; omega⟩
  rw [hl54] at hY
  have hgk := ints_get .u8 q k (by omega)
  obtain ⟨b, hb, hb0, hb1⟩ : ∃ b, q.getD k 0 = b ∧ 0 ≤ b ∧ b < 256 := ⟨_, rfl, hB.get k⟩
  rw [hb] at hgk
  obtain ⟨z0, z1⟩ := xor8_bd b turn
  obtain ⟨z, hz⟩ : ∃ z, xor8 b turn = z := ⟨_, rfl⟩
  have hz' := hz
  unfold xor8 at hz'
  rw [hz] at z0 z1
  have hB' := hid (hB.set k z0 z1)
  have hset := hid (ints_set .u8 q k z)
  have hlz := hid (show (q.set k z).length = 54 by rw [List.length_set, hl54])
  clear hB hb hz hl54
  generalize q.set k z = q' at *
  have hjl := hid (show (q'.take j).length = j by rw [List.length_take, hlz.out]; omega)
  obtain ⟨hP1, hP2⟩ := hdR_no (l := q'.take j) (hdOk_len (by rw [hjl.out]; omega))
  obtain ⟨hJ1, hJ2⟩ := hdR_no (l := (q' ++ [0])) (hdOk_len (by simp [hlz.out]))
  have hBt := hid (hB'.out.take j)
  have hBj := hid (show Bytes (q' ++ [0]) by
    exact hB'.out.append (fun x hx => by simp at hx; omega))
  have hlj := hid (show ((q' ++ [0])).length = 55 by simp [hlz.out])
  replace hP1 := hid hP1
  replace hP2 := hid hP2
  replace hJ1 := hid hJ1
  replace hJ2 := hid hJ2
  have hRg := hid (fun w V (h1 : BytesAt w V q') => hdRight_calls w hB'.out h1)
  have hPa := hid (fun w V (h1 : BytesAt w V q') => headParse_calls w h1 hB'.out (by rw [hlz.out]; omega))
  have hg54 := hid hk54
  have hgj := hid hj54
  generalize hdR q' = hh at *
  rcases hdE_cases q' with ⟨e1, e2⟩ | ⟨e1, e2⟩
  all_goals
    rw [e1] at hRg
    rw [e2] at hPa
    clear e1 e2
    go_enter Try.func7, Try.ntmps7
    go_wp2_with (first
      | ((with_reducible refine gate (N := 4) rfl ?_); refine wpList_box_Own rfl (cs := (hdC h).toArray) (t := 29) (by first | (go_simp; done) | (go_simp; rfl)) M0.out ?_; intro m w1 M; (have M1 := hid M); clear M)
      | (go_at_call 8; refine (awake_calls _).mono ?_; rintro _ w2 ⟨_, rfl, rfl, hb⟩; (have M2 := hid (M1.out.keep hb)); (obtain ⟨⟨-, -, -, c3⟩, -⟩ := hd_cells M2.out (m := m) (h := h) (by simp)); (obtain ⟨-, f3⟩ := hd_at M2.out (m := m) (h := h) (by simp) 3); clear hb M1)
      | ((with_reducible refine gate (N := 23) rfl ?_); (have M3 := M2.out.set (L1 := []) 3 (.int .u16 (16 + h.un % 16369))); rw [hd_un, hh'.out] at M3; replace M3 := hid M3; refine wpList_run rfl (exec_load_agg agg_head rfl rfl M3.out (g := m) (t := 29) (cs := (hdC h').toArray) (vs := hdC h') (by simp) rfl rfl) ?_)
      | (go_at_call 11; refine (hY.out _).mono ?_; rintro _ w3 ⟨_, rfl, M⟩; obtain ⟨A, c, rfl⟩ := M.form (.head _); obtain ⟨ad, rfl⟩ := M.row_at (.head _) (by omega); (have M4 := hid ((M3.out.lift M).head1)); (obtain ⟨A9, c9, he, hc54, hcm, -, -⟩ := M4.out.slice (e := 5) (sz := 1) (n := 54) (v := .slice (some ⟨ad, 0, none⟩) 54 c) (.head _)); (injection he with he1 he2 he3); subst he3; clear he1 he2; unfold maxLen at hcm; (obtain ⟨MS, kc, kf⟩ := Own.row_set (L1 := []) M4.out k (by omega) (.int .u8 z)); rw [hgk] at kc; rw [hset.out] at MS; replace MS := hid MS; clear M M2 M3 M4 c3 f3)
      | (go_at_call 16; refine (hPa.out _ _ (MS.out.bytes (e := 5) (n := 54) (.head _) hlz.out)).mono ?_; rintro _ w4 ⟨_, rfl, rfl, hb⟩; (have M5 := hid (MS.out.keep hb)); clear hb MS kc kf)
      | ((with_reducible refine gate (N := 10) rfl ?_); refine wpList_box_Own rfl (cs := (hdC hd0).toArray) (t := 29) (by first | (go_simp; done) | (go_simp; rfl)) M5.out ?_; intro r1 w5 M; (have M6 := hid M); clear M)
      | ((with_reducible refine gateSt (t := 29) (p := 10) rfl ?_); refine wpList_store_all (n := 14) (L1 := []) (mid := hdC hd0) (vs := hdC hh) rfl rfl (by kernel_rfl) rfl rfl rfl rfl rfl (hdC_one _) M6.out ?_; intro w6 M; (have M7 := hid M); clear M)
      | (go_at_call 16; (have hpr := BytesAt.pre (l := q') (k := j) (c := c) (n := 54) (A := some ⟨ad, 0, none⟩) (M7.out.bytes (e := 5) (n := 54) (by simp) hlz.out) (by rw [hlz.out]; omega)); refine (headParse_calls _ hpr hBt.out (by rw [hjl.out]; omega)).mono ?_; rw [hP1.out, hP2.out]; rintro _ w7 ⟨_, rfl, rfl, hb⟩; (have M8 := hid ((M7.out.keep hb).sub (L' := [.row 5 1 (.slice (some ⟨ad, 0, none⟩) 54 c) 54 (ints .u8 q')]) (by simp))); clear hb hpr M5 M6 M7)
      | ((with_reducible refine gate (N := 12) rfl ?_); refine wpList_box_Own rfl (cs := (hdC hd0).toArray) (t := 29) (by first | (go_simp; done) | (go_simp; rfl)) M8.out ?_; intro r2 w8 M; (have M9 := hid M); clear M)
      | ((with_reducible refine gateSt (t := 29) (p := 12) rfl ?_); refine wpList_store_all (n := 14) (L1 := []) (mid := hdC hd0) (vs := hdC hd0) rfl rfl (by kernel_rfl) rfl rfl rfl rfl rfl (hdC_one _) M9.out ?_; intro w9 M; (have M10 := hid M); clear M)
      | (go_at_call 13; refine (join_zero M10.out (n := 54) (v := .slice (some ⟨ad, 0, none⟩) 54 c) (l := q') (by simp) hlz.out (by omega)).mono ?_; rintro _ w10 ⟨_, rfl, M⟩; obtain ⟨AJ, cJ, rfl⟩ := M.form (.head _); (have M12 := hid M); clear M M8 M9 M10)
      | (go_at_call 16; refine (headParse_calls _ (M12.out.bytes (e := 5) (n := 55) (.head _) hlj.out) hBj.out (by rw [hlj.out]; omega)).mono ?_; rw [hJ1.out, hJ2.out]; rintro _ w11 ⟨_, rfl, rfl, hb⟩; (have M13 := hid ((M12.out.keep hb).sub (L' := [.row 5 1 (.slice (some ⟨ad, 0, none⟩) 54 c) 54 (ints .u8 q')]) (by simp))); clear hb M12)
      | ((with_reducible refine gate (N := 14) rfl ?_); refine wpList_box_Own rfl (cs := (hdC hd0).toArray) (t := 29) (by first | (go_simp; done) | (go_simp; rfl)) M13.out ?_; intro r3 w12 M; (have M14 := hid M); clear M)
      | ((with_reducible refine gateSt (t := 29) (p := 14) rfl ?_); refine wpList_store_all (n := 14) (L1 := []) (mid := hdC hd0) (vs := hdC hd0) rfl rfl (by kernel_rfl) rfl rfl rfl rfl rfl (hdC_one _) M14.out ?_; intro w13 M; (have M15 := hid M); clear M)
      | (go_at_call 20; refine (hRg.out _ _ (M15.out.bytes (e := 5) (n := 54) (v := .slice (some ⟨ad, 0, none⟩) 54 c) (by simp) hlz.out)).mono ?_; rintro _ w14 ⟨_, rfl, rfl, hb⟩; (have M16 := hid (M15.out.keep hb)); clear hb))
    go_ret
    exact .mk ⟨rfl, M16.out.below⟩
end Go.Proofs.Ytigcbficlohbmaa
