/- Package simple: an outline's bytes. -/
import Derived.Test.YtiedbfaehndooaaDoorSimpB
namespace Go.Proofs.YtiedbfaehndooaaDoor
open Go Go.RowKit
set_option linter.unusedVariables false
set_option linter.unusedSimpArgs false
set_option maxRecDepth 100000

theorem agg_glyph : AggOf Tryd.prog 52 7 := .mk' Tryd.underlying52 rfl (by kernel_rfl)
theorem agg_box : AggOf Tryd.prog 37 4 := .mk' Tryd.underlying37 rfl (by kernel_rfl)
theorem i16_info : (Tryd.prog.info? 36).map (·.size) = some 1 := by kernel_rfl

/-! ## three writers -/
def St (W0 w : World) (a : Nat) (la : List Int) (b : Nat) (lb : List Int) (c : Nat) (lc : List Int) (R : List Ent) : Prop := ∃ va vb vc, Own W0 w (wrE a va la ++ (wrE b vb lb ++ (wrE c vc lc ++ R)))
/-- What a call does to one writer. -/
def WrOp (P : Program) (f : FuncId) (args : Array Value) (W0 w : World) (b : Nat) (l l' : List Int) (Pr : Value → Prop) : Prop :=
  ∀ L1 L v, Own W0 w (L1 ++ (wrE b v l ++ L)) → Calls P f args w (Ret fun r w' => Pr r ∧ ∃ v', Own W0 w' (L1 ++ (wrE b v' l' ++ L)))
section
variable {P : Program} {f : FuncId} {args : Array Value} {W0 w w' : World} {a b c : Nat} {la lb lc l' : List Int} {R R' : List Ent} {Pr : Value → Prop}
theorem St.opA (h : WrOp P f args W0 w a la l' Pr) (M : St W0 w a la b lb c lc R) : Calls P f args w (Ret fun r w' => Pr r ∧ St W0 w' a l' b lb c lc R) := by
  obtain ⟨va, vb, vc, M⟩ := M
  exact (h [] _ va M).mono fun _ _ ⟨r, e, p, v', M'⟩ => ⟨r, e, p, v', vb, vc, M'⟩
theorem St.opB (h : WrOp P f args W0 w b lb l' Pr) (M : St W0 w a la b lb c lc R) : Calls P f args w (Ret fun r w' => Pr r ∧ St W0 w' a la b l' c lc R) := by
  obtain ⟨va, vb, vc, M⟩ := M
  exact (h (wrE a va la) _ vb M).mono fun _ _ ⟨r, e, p, v', M'⟩ => ⟨r, e, p, va, v', vc, M'⟩
theorem St.opC (h : WrOp P f args W0 w c lc l' Pr) (M : St W0 w a la b lb c lc R) : Calls P f args w (Ret fun r w' => Pr r ∧ St W0 w' a la b lb c l' R) := by
  obtain ⟨va, vb, vc, M⟩ := M
  exact (h (wrE a va la ++ wrE b vb lb) R vc (by rw [List.append_assoc]; exact M)).mono fun _ _ ⟨r, e, p, v', M'⟩ => ⟨r, e, p, va, vb, v', by rw [List.append_assoc] at M'; exact M'⟩
theorem St.keep (M : St W0 w a la b lb c lc R) (hb : Below w.heap.size w w') : St W0 w' a la b lb c lc R := by
  obtain ⟨va, vb, vc, M⟩ := M
  exact ⟨va, vb, vc, M.keep hb⟩
theorem St.drew (M : St W0 w a la b lb c lc R) : St W0 w.drew a la b lb c lc R := by
  obtain ⟨va, vb, vc, M⟩ := M
  exact ⟨va, vb, vc, M.drew⟩
theorem St.below (M : St W0 w a la b lb c lc R) : Below W0.heap.size W0 w := by
  obtain ⟨va, vb, vc, M⟩ := M
  exact M.below
theorem St.own (M : St W0 w a la b lb c lc R) : Own W0 w R := by
  obtain ⟨va, vb, vc, M⟩ := M
  exact M.sub (((List.sublist_append_right _ R).trans (List.sublist_append_right _ _)).trans (List.sublist_append_right _ _))
/-- A step on what lies behind the writers. -/
theorem St.rest (M : St W0 w a la b lb c lc R) (h : ∀ L, Own W0 w (L ++ R) → Own W0 w' (L ++ R')) : St W0 w' a la b lb c lc R' := by
  obtain ⟨va, vb, vc, M⟩ := M
  refine ⟨va, vb, vc, ?_⟩
  have := h (wrE a va la ++ wrE b vb lb ++ wrE c vc lc) (by simpa [List.append_assoc] using M)
  simpa [List.append_assoc] using this
theorem St.done_b (hl : lb.length ≤ 140737488355328) (M : St W0 w a la b lb c lc R) :
    Calls Tryd.prog 26 #[.pointer (some ⟨b, 0, none⟩)] w (Ret fun r w' => St W0 w' a la b lb c lc (.row 5 1 r lb.length (ints .u8 lb) :: R)) := by
  obtain ⟨va, vb, vc, M⟩ := M
  refine (wr_Done (L1 := wrE a va la) hl M).mono fun _ _ ⟨r, e, M'⟩ => ⟨r, e, va, vb, vc, ?_⟩
  have := Own.front (L1 := []) (X := wrE a va la ++ (wrE b vb lb ++ wrE c vc lc)) (L2 := .row 5 1 r lb.length (ints .u8 lb) :: R) (M'.perm ?_)
  · simpa [List.append_assoc] using this
  · rw [List.nil_append]
    have h : (.row 5 1 r lb.length (ints .u8 lb) :: ((wrE a va la ++ (wrE b vb lb ++ wrE c vc lc)) ++ R)).Perm ((wrE a va la ++ (wrE b vb lb ++ wrE c vc lc)) ++ (.row 5 1 r lb.length (ints .u8 lb) :: R)) := List.perm_middle.symm
    simpa [List.append_assoc] using h
theorem St.done_c (hl : lc.length ≤ 140737488355328) (M : St W0 w a la b lb c lc R) :
    Calls Tryd.prog 26 #[.pointer (some ⟨c, 0, none⟩)] w (Ret fun r w' => St W0 w' a la b lb c lc (.row 5 1 r lc.length (ints .u8 lc) :: R)) := by
  obtain ⟨va, vb, vc, M⟩ := M
  refine (wr_Done (W0 := W0) (L1 := wrE a va la ++ wrE b vb lb) (L := R) (v := vc) hl (by rw [List.append_assoc]; exact M)).mono fun _ _ ⟨r, e, M'⟩ => ⟨r, e, va, vb, vc, ?_⟩
  have := Own.front (L1 := []) (X := wrE a va la ++ (wrE b vb lb ++ wrE c vc lc)) (L2 := .row 5 1 r lc.length (ints .u8 lc) :: R) (M'.perm ?_)
  · simpa [List.append_assoc] using this
  · rw [List.nil_append]
    have h : (.row 5 1 r lc.length (ints .u8 lc) :: ((wrE a va la ++ (wrE b vb lb ++ wrE c vc lc)) ++ R)).Perm ((wrE a va la ++ (wrE b vb lb ++ wrE c vc lc)) ++ (.row 5 1 r lc.length (ints .u8 lc) :: R)) := List.perm_middle.symm
    simpa [List.append_assoc] using h
theorem St.done_a (hl : la.length ≤ 140737488355328) (M : St W0 w a la b lb c lc R) :
    Calls Tryd.prog 26 #[.pointer (some ⟨a, 0, none⟩)] w (Ret fun r w' => Own W0 w' [.row 5 1 r la.length (ints .u8 la)]) := by
  obtain ⟨va, vb, vc, M⟩ := M
  exact (wr_Done (L1 := []) hl M).mono fun _ _ ⟨r, e, M'⟩ => ⟨r, e, M'.head1⟩
end
section
variable {W0 w : World} {b : Nat} {l : List Int}
theorem op_U8 {n : Int} (h0 : 0 ≤ n) (h1 : n < 256) (hl : l.length + 1 ≤ 140737488355328) : WrOp Tryd.prog 41 #[.pointer (some ⟨b, 0, none⟩), .int .u8 n] W0 w b l (l ++ [n]) (fun r => r = .pointer (some ⟨b, 0, none⟩)) :=
  fun _ _ _ M => wr_U8 h0 h1 hl M
theorem op_U16 {n : Int} (h0 : 0 ≤ n) (h1 : n < 65536) (hl : l.length + 2 ≤ 140737488355328) : WrOp Tryd.prog 22 #[.pointer (some ⟨b, 0, none⟩), .int .u16 n] W0 w b l (l ++ b2 n) (fun r => r = .pointer (some ⟨b, 0, none⟩)) :=
  fun _ _ _ M => wr_U16 h0 h1 hl M
theorem op_I16 {n : Int} (h0 : -32768 ≤ n) (h1 : n < 32768) (hl : l.length + 2 ≤ 140737488355328) : WrOp Tryd.prog 23 #[.pointer (some ⟨b, 0, none⟩), .int .i16 n] W0 w b l (l ++ b2 (n % 65536)) (fun r => r = .pointer (some ⟨b, 0, none⟩)) :=
  fun _ _ _ M => wr_I16 h0 h1 hl M
theorem op_Put {pv : Value} {ps : List Int} (hp : SliceAt w w.heap.size 1 pv ps.length (ints .u8 ps)) (hl : l.length + ps.length ≤ 140737488355328) : WrOp Tryd.prog 25 #[.pointer (some ⟨b, 0, none⟩), pv] W0 w b l (l ++ ps) (fun r => r = .pointer (some ⟨b, 0, none⟩)) :=
  fun _ _ _ M => wr_put hp hl M
theorem op_lay {n : Int} (sh sa : Int) (h : I16 n) (hl : l.length + 2 ≤ 140737488355328) : WrOp Tryd.prog 27 #[.pointer (some ⟨b, 0, none⟩), .int .i64 n, .int .u8 sh, .int .u8 sa] W0 w b l (l ++ layB n) (fun r => r = .int .u8 (layF n sh sa)) :=
  fun _ _ _ M => lay_calls sh sa h hl M
end
theorem St.rows {W0 w : World} {a b c : Nat} {la lb lc fl : List Int} {R : List Ent} {V : Value} {n : Nat} (hn : fl.length = n) (hl : la.length + 2 * n ≤ 140737488355328) (hB : Bytes fl) (hm : .row 5 1 V n (ints .u8 fl) ∈ R) (M : St W0 w a la b lb c lc R) :
    Calls Tryd.prog 28 #[.pointer (some ⟨a, 0, none⟩), V] w (Ret fun r w' => St W0 w' a (la ++ rowsB fl) b lb c lc R) := by
  obtain ⟨va, vb, vc, M⟩ := M
  exact (rows_calls (L1 := []) (l := fl) (n := n) (fun w' v' l' M => M.slice (e := 5) (by simp [hm])) hn hl hB M).mono fun _ _ ⟨r, e, v', M'⟩ => ⟨r, e, v', vb, vc, M'⟩

theorem three {W0 w : World} {a b c : Nat} {va vb vc : Value} {la lb lc : List Int} {R : List Ent} (M : Own W0 w ([] ++ (wrE c vc lc ++ ([] ++ (wrE b vb lb ++ ([] ++ (wrE a va la ++ R))))))) : St W0 w a la b lb c lc R := by
  refine ⟨va, vb, vc, ?_⟩
  simp only [List.nil_append] at M
  refine M.perm ?_
  have h1 : (wrE c vc lc ++ (wrE b vb lb ++ (wrE a va la ++ R))).Perm (wrE b vb lb ++ (wrE c vc lc ++ (wrE a va la ++ R))) := List.perm_append_comm_assoc _ _ _
  have h2 : (wrE b vb lb ++ (wrE c vc lc ++ (wrE a va la ++ R))).Perm (wrE b vb lb ++ (wrE a va la ++ (wrE c vc lc ++ R))) := (List.perm_append_comm_assoc _ _ _).append_left _
  have h3 : (wrE b vb lb ++ (wrE a va la ++ (wrE c vc lc ++ R))).Perm (wrE a va la ++ (wrE b vb lb ++ (wrE c vc lc ++ R))) := List.perm_append_comm_assoc _ _ _
  exact h1.trans (h2.trans h3)

theorem St.ofFront {W0 w : World} {a b c : Nat} {va vb vc : Value} {la lb lc : List Int} {R : List Ent} {x : Ent} (M : Own W0 w (x :: (wrE a va la ++ (wrE b vb lb ++ (wrE c vc lc ++ R))))) : St W0 w a la b lb c lc (x :: R) := by
  refine ⟨va, vb, vc, M.perm ?_⟩
  have h : (x :: ((wrE a va la ++ (wrE b vb lb ++ wrE c vc lc)) ++ R)).Perm ((wrE a va la ++ (wrE b vb lb ++ wrE c vc lc)) ++ (x :: R)) := List.perm_middle.symm
  simpa [List.append_assoc] using h
/-- The writers, behind the rest. -/
def wr3 (a : Nat) (va : Value) (la : List Int) (b : Nat) (vb : Value) (lb : List Int) (c : Nat) (vc : Value) (lc : List Int) : List Ent := wrE a va la ++ (wrE b vb lb ++ wrE c vc lc)
theorem St.open {W0 w : World} {a b c : Nat} {la lb lc : List Int} {R : List Ent} (M : St W0 w a la b lb c lc R) : ∃ va vb vc, Own W0 w (R ++ wr3 a va la b vb lb c vc lc) := by
  obtain ⟨va, vb, vc, M⟩ := M
  refine ⟨va, vb, vc, M.perm ?_⟩
  have h : (wr3 a va la b vb lb c vc lc ++ R).Perm (R ++ wr3 a va la b vb lb c vc lc) := List.perm_append_comm
  simpa [wr3, List.append_assoc] using h
theorem St.shut {W0 w : World} {a b c : Nat} {va vb vc : Value} {la lb lc : List Int} {R : List Ent} (M : Own W0 w (R ++ wr3 a va la b vb lb c vc lc)) : St W0 w a la b lb c lc R := by
  refine ⟨va, vb, vc, M.perm ?_⟩
  have h : (R ++ wr3 a va la b vb lb c vc lc).Perm (wr3 a va la b vb lb c vc lc ++ R) := List.perm_append_comm
  simpa [wr3, List.append_assoc] using h

/-! ## the bytes -/
def Sg.box (g : Sg) : List Int := [g.b0, g.b1, g.b2, g.b3]
def s2 (x : Int) : List Int := b2 (x % 65536)
def flagOf (ps : List (Int × Int × Bool)) (k : Nat) : Int := if pO ps k then or8 (or8 (layF (dX ps k) 2 16) (layF (dY ps k) 4 32)) 1 else or8 (layF (dX ps k) 2 16) (layF (dY ps k) 4 32)
def flsK (ps : List (Int × Int × Bool)) (k : Nat) : List Int := (List.range k).map (flagOf ps)
def xsK (ps : List (Int × Int × Bool)) (k : Nat) : List Int := (List.range k).flatMap fun i => layB (dX ps i)
def ysK (ps : List (Int × Int × Bool)) (k : Nat) : List Int := (List.range k).flatMap fun i => layB (dY ps i)
theorem flsK_succ (ps : List (Int × Int × Bool)) (k : Nat) : flsK ps (k + 1) = flsK ps k ++ [flagOf ps k] := by simp [flsK, List.range_succ]
theorem xsK_succ (ps : List (Int × Int × Bool)) (k : Nat) : xsK ps (k + 1) = xsK ps k ++ layB (dX ps k) := by simp [xsK, List.range_succ]
theorem ysK_succ (ps : List (Int × Int × Bool)) (k : Nat) : ysK ps (k + 1) = ysK ps k ++ layB (dY ps k) := by simp [ysK, List.range_succ]
theorem flsK_length (ps : List (Int × Int × Bool)) (k : Nat) : (flsK ps k).length = k := by simp [flsK]
theorem xsK_length (ps : List (Int × Int × Bool)) : ∀ k, (xsK ps k).length ≤ 2 * k
  | 0 => by simp [xsK]
  | k + 1 => by have := xsK_length ps k; have := layB_length (dX ps k); rw [xsK_succ, List.length_append]; omega
theorem ysK_length (ps : List (Int × Int × Bool)) : ∀ k, (ysK ps k).length ≤ 2 * k
  | 0 => by simp [ysK]
  | k + 1 => by have := ysK_length ps k; have := layB_length (dY ps k); rw [ysK_succ, List.length_append]; omega
theorem rowsF_length : ∀ (k : Nat) (l : List Int), (rowsF k l).length ≤ 2 * k
  | 0, _ => by simp [rowsF]
  | _ + 1, [] => by simp [rowsF]
  | k + 1, f :: t => by
    have := rowsF_length k ((f :: t).drop (rn (f :: t)))
    have := rowE_length (f :: t)
    show (rowE (f :: t) ++ rowsF k ((f :: t).drop (rn (f :: t)))).length ≤ _
    rw [List.length_append]; omega
def hdB (g : Sg) : List Int := b2 g.ends.length ++ (g.box.flatMap s2 ++ (g.ends.flatMap b2 ++ (b2 g.prog.length ++ g.prog)))
def sgB (g : Sg) : List Int := hdB g ++ (rowsB (flsK g.pts g.pts.length) ++ (xsK g.pts g.pts.length ++ ysK g.pts g.pts.length))
theorem flatN_length (f : Int → List Int) (hf : ∀ x, (f x).length = 2) (l : List Int) : (l.flatMap f).length = 2 * l.length := by
  induction l with
  | nil => rfl
  | cons x l ih => rw [List.flatMap_cons, List.length_append, ih, hf, List.length_cons]; omega
theorem flatN_snoc (f : Int → List Int) (l : List Int) (k : Nat) (hk : k < l.length) : (l.take (k + 1)).flatMap f = (l.take k).flatMap f ++ f (l.getD k 0) := by
  rw [take_succ_getD hk, List.flatMap_append]; simp

theorem flsK_bytes (ps : List (Int × Int × Bool)) (k : Nat) : Bytes (flsK ps k) := by
  intro x hx
  obtain ⟨i, -, rfl⟩ := List.mem_map.1 hx
  unfold flagOf
  split <;> exact or8_bd _ _
theorem bytes_no (w : World) {g : Sg} {ve vp vs : Value} (hO : g.Ok) (hG : GAt w g ve vp vs) (hR : sgR g = false) :
    Calls Tryd.prog 14 #[.agg (gA g ve vp vs)] w (Ret fun r w' => Own w w' [.row 5 1 r 0 []]) := by
  have M0 := hid (Own.start w)
  have hRt := hid (fun w1 (h : Below w.heap.size w w1) => right_calls w1 hO (hG.below h))
  rw [hR] at hRt
  clear hR
  go_enter Tryd.func14, Tryd.ntmps14
  go_wp2_with (first
    | ((with_reducible refine gate (N := 1) rfl ?_); refine wpList_box_Own rfl (cs := gA g ve vp vs) (t := 52) (by first | (go_simp; done) | (go_simp; rfl)) M0.out ?_; intro m w1 M; (have M1 := hid M); clear M)
    | ((with_reducible refine gate (N := 15) rfl ?_); refine wpList_run rfl (exec_load_agg agg_glyph rfl rfl M1.out (g := m) (t := 52) (cs := gA g ve vp vs) (vs := (gA g ve vp vs).toList) (.head _) rfl rfl) ?_)
    | (go_at_call 16; refine (hRt.out _ M1.out.below).mono ?_; rintro _ w2 ⟨_, rfl, rfl, hb⟩; (have M2 := hid (M1.out.keep hb)); clear hb))
  go_ret
  exact .mk (M2.out.tail.nil_row _ _)

theorem sgR_parts {g : Sg} (h : sgR g = true) : riseB g.ends g.ends.length = true ∧ stepB g.pts g.pts.length = true ∧ g.ends.length ≤ 32767 ∧ (g.pts.length : Int) = nP g.ends g.ends.length ∧ g.prog.length ≤ 65535 := by
  unfold sgR at h
  simp only [Bool.and_eq_true, decide_eq_true_eq] at h
  exact h
theorem nP_bound {g : Sg} (h : g.Ok) : ∀ k, 0 ≤ nP g.ends k ∧ nP g.ends k ≤ 65536
  | 0 => by simp [nP]
  | k + 1 => by have := h.end k; simp only [nP]; omega
theorem step_fit {ps : List (Int × Int × Bool)} {n k : Nat} (h : stepB ps n = true) (hk : k < n) : I16 (dX ps k) ∧ I16 (dY ps k) := by
  have := of_decide_eq_true h k hk
  unfold fitB at this
  simp only [decide_eq_true_eq] at this
  exact ⟨⟨by omega, by omega⟩, ⟨by omega, by omega⟩⟩

set_option maxHeartbeats 8000000 in
theorem bytes_yes (w : World) {g : Sg} {ve vp vs : Value} (hO : g.Ok) (hG : GAt w g ve vp vs) (hR : sgR g = true) :
    Calls Tryd.prog 14 #[.agg (gA g ve vp vs)] w (Ret fun r w' => Own w w' [.row 5 1 r (sgB g).length (ints .u8 (sgB g))]) := by
  have M0 := hid (Own.start w)
  have hRt := hid (fun w1 (h : Below w.heap.size w w1) => right_calls w1 hO (hG.below h))
  rw [hR] at hRt
  obtain ⟨-, hst, bne, bns, bnp⟩ := sgR_parts hR
  have bns2 : g.pts.length ≤ 65536 := by have := nP_bound hO g.ends.length; omega
  have hPA := hid (fun w1 (h : Below w.heap.size w w1) => hG.p.below h)
  obtain ⟨he, hp, hs⟩ := hG
  obtain ⟨Ae, ce, rfl, hce, hme, -, hre⟩ := he
  obtain ⟨Ap, cp, rfl, hcp, hmp, -, -⟩ := hp
  obtain ⟨As, cs, rfl, hcs, hms, -, hrs⟩ := hs
  unfold maxLen at hme hmp hms
  have hOH := hid hO
  have hfit := hid (fun k (hk : k < g.pts.length) => step_fit hst hk)
  obtain ⟨ne, hne⟩ : ∃ n, g.ends.length = n := ⟨_, rfl⟩
  obtain ⟨np, hnp⟩ : ∃ n, g.prog.length = n := ⟨_, rfl⟩
  obtain ⟨ns, hns⟩ : ∃ n, g.pts.length = n := ⟨_, rfl⟩
  rw [hne] at hre hce bne
  rw [hnp] at hcp bnp
  rw [hns] at hrs hcs bns2 hfit
  have hfin := hid (show sgB g = b2 ne ++ (g.box.flatMap s2 ++ (g.ends.flatMap b2 ++ (b2 np ++ g.prog))) ++ (rowsB (flsK g.pts ns) ++ (xsK g.pts ns ++ ysK g.pts ns)) by unfold sgB hdB; rw [hne, hnp, hns])
  have hEA := hid (fun ad (e : Ae = some ad) w' hb i hi => int_at (w' := w') (i := i) hne (e ▸ hre) hb hi)
  have hSA := hid (fun ad (e : As = some ad) w' hb i hi => spot_at (w' := w') (i := i) hns (e ▸ hrs) hb hi)
  have heS := hid (fun (h : 0 < ne) => show ∃ ad, Ae = some ad by obtain ⟨ad, e, -⟩ := hre.2 h; exact ⟨ad, e⟩)
  have hsS := hid (fun (h : 0 < ns) => show ∃ ad, As = some ad by obtain ⟨ad, e, -⟩ := hrs.2 h; exact ⟨ad, e⟩)
  have hneH := hid hne
  have hnpH := hid hnp
  simp only [gA, hne, hnp, hns]
  simp only [gA, hne, hnp, hns] at hRt
  rw [hnp] at hPA
  clear hre hrs hne hnp hns hO hR hst bns
  go_enter Tryd.func14, Tryd.ntmps14
  go_wp2_with (first
    | ((with_reducible refine gate (N := 1) rfl ?_); refine wpList_box_Own rfl (cs := gA g (.slice Ae ne ce) (.slice Ap np cp) (.slice As ns cs)) (t := 52) (by first | (go_simp; done) | (go_simp; rfl)) M0.out ?_; intro m w1 M; (have M1 := hid M); clear M)
    | ((with_reducible refine gate (N := 15) rfl ?_); refine wpList_run rfl (exec_load_agg agg_glyph rfl rfl M1.out (g := m) (t := 52) (cs := gA g (.slice Ae ne ce) (.slice Ap np cp) (.slice As ns cs)) (vs := (gA g (.slice Ae ne ce) (.slice Ap np cp) (.slice As ns cs)).toList) (.head _) rfl rfl) ?_)
    | (go_at_call 16; refine (hRt.out _ M1.out.below).mono ?_; rintro _ w2 ⟨_, rfl, rfl, hb⟩; (have M2 := hid (M1.out.keep hb)); clear hb)
    | ((with_reducible refine gate (N := 3) rfl ?_); refine wpList_box_Own rfl (cs := #[.slice none 0 0]) (t := 68) (by first | (go_simp; done) | (go_simp; rfl)) M2.out ?_; intro a w3 M; (have M3 := hid M.mk_writer); (have M3' := hid M); clear M)
    | ((with_reducible refine gate (N := 4) rfl ?_); refine wpList_box_Own rfl (cs := #[.slice none 0 0]) (t := 68) (by first | (go_simp; done) | (go_simp; rfl)) M3.out ?_; intro b w4 M; (have M4 := hid M.mk_writer); (have M4' := hid M); clear M)
    | ((with_reducible refine gate (N := 5) rfl ?_); refine wpList_box_Own rfl (cs := #[.slice none 0 0]) (t := 68) (by first | (go_simp; done) | (go_simp; rfl)) M4.out ?_; intro c w5 M; ((have M5 := hid (show St w w5 a [] b [] c [] [.blk m 52 (gA g (.slice Ae ne ce) (.slice Ap np cp) (.slice As ns cs))] from three M.mk_writer))); obtain ⟨c4, c5, c6⟩ := g_cells (m := m) (g := g) (ve := .slice Ae ne ce) (vp := .slice Ap np cp) (vs := .slice As ns cs) M5.out.own (by simp); (have M5' := hid M); clear M))
  go_wp2_with (first
    | (go_at_call 22; refine (St.opA (op_U16 (n := ne) (by omega) (by omega) (by simp)) M5.out).mono ?_; rintro _ w6 ⟨_, rfl, rfl, M⟩; obtain ⟨c4, c5, c6⟩ := g_cells (m := m) (g := g) (ve := .slice Ae ne ce) (vp := .slice Ap np cp) (vs := .slice As ns cs) M.own (by simp); (have M6 := hid M); clear M)
    | ((with_reducible refine gate (N := 24) rfl ?_); refine wpList_run rfl (exec_load_agg agg_box rfl rfl M6.out.own (g := m) (t := 52) (cs := gA g (.slice Ae ne ce) (.slice Ap np cp) (.slice As ns cs)) (vs := ints .i16 g.box) (.head _) rfl rfl) ?_))
  clear c4 c5 c6
  go_loopw [25] (fun i wr => ∃ k : Nat, k ≤ 4 ∧ i = .int .i64 k ∧ Hid (St w wr a (b2 ne ++ (g.box.take k).flatMap s2) b [] c [] [.blk m 52 (gA g (.slice Ae ne ce) (.slice Ap np cp) (.slice As ns cs))])) (fun i _ => 4 - (intOf i).toNat)
  case atStart => exact ⟨0, by omega, rfl, hid (by simpa using M6.out)⟩
  case round =>
    clear M6 M5
    obtain ⟨k, hk, rfl, MR⟩ := hrel
    have hbl : g.box.length = 4 := rfl
    by_cases hlt : k < 4
    · have hix := run_index_ints (P := Tryd.prog) Tryd.underlying37 Tryd.underlying36 i16_info g.box k rfl hlt
      have hx : I16 (g.box.getD k 0) := by
        rcases (by omega : k = 0 ∨ k = 1 ∨ k = 2 ∨ k = 3) with rfl | rfl | rfl | rfl
        · exact hOH.out.x0
        · exact hOH.out.x1
        · exact hOH.out.x2
        · exact hOH.out.x3
      have hfs := hid (flatN_snoc s2 g.box k (by omega))
      have hl := hid (show (b2 ne ++ (g.box.take k).flatMap s2).length + 2 ≤ 140737488355328 by rw [List.length_append, b2_length, flatN_length s2 (fun _ => rfl), List.length_take]; omega)
      generalize g.box.getD k 0 = x at *
      obtain ⟨x0, x1⟩ := hx
      go_wp2_with (go_at_call 23; (with_reducible refine (St.opA (op_I16 x0 x1 hl.out) MR.out).mono ?_); rintro _ w7 ⟨_, rfl, rfl, M⟩; (have M7 := hid M); clear M)
      go_roundw
      case rel => exact ⟨k + 1, by omega, by go_num, hid (by rw [hfs.out, ← List.append_assoc]; exact M7.out)⟩
      case measure => simp [intOf] <;> omega
    · obtain rfl : k = 4 := by omega
      simp only [show ((4 : Nat) : Int) = 4 from rfl]
      rw [show g.box.take 4 = g.box from List.take_of_length_le (by rw [hbl]; omega)] at MR
      obtain ⟨p1, hp1⟩ : ∃ p, b2 ne ++ g.box.flatMap s2 = p := ⟨_, rfl⟩
      rw [hp1] at MR
      have hl1 : p1.length = 10 := by rw [← hp1, List.length_append, b2_length, flatN_length s2 (fun _ => rfl), hbl]
      replace hp1 := hid hp1
      replace hl1 := hid hl1
      obtain ⟨c4, c5, c6⟩ := g_cells (m := m) (g := g) (ve := .slice Ae ne ce) (vp := .slice Ap np cp) (vs := .slice As ns cs) MR.out.own (by simp)
      go_wp2_with fail
      clear c4 c5 c6
      go_loopw [34] (fun i wr => ∃ k : Nat, k ≤ ne ∧ i = .int .i64 k ∧ Hid (St w wr a (p1 ++ (g.ends.take k).flatMap b2) b [] c [] [.blk m 52 (gA g (.slice Ae ne ce) (.slice Ap np cp) (.slice As ns cs))])) (fun i _ => ne - (intOf i).toNat)
      case atStart => exact ⟨0, by omega, rfl, hid (by simpa using MR.out)⟩
      case round =>
        clear MR
        obtain ⟨k, hk, rfl, MR⟩ := hrel
        by_cases hlt : k < ne
        · obtain ⟨ad, rfl⟩ := heS.out (by omega)
          have hcell := hEA.out ad rfl wr MR.out.below k hlt
          obtain ⟨x0, x1⟩ := hOH.out.end k
          have hfs := hid (flatN_snoc b2 g.ends k (by rw [hneH.out]; exact hlt))
          have hl := hid (show (p1 ++ (g.ends.take k).flatMap b2).length + 2 ≤ 140737488355328 by rw [List.length_append, hl1.out, flatN_length b2 (fun _ => rfl), List.length_take, hneH.out]; omega)
          generalize g.ends.getD k 0 = x at *
          go_wp2_with (go_at_call 22; (with_reducible refine (St.opA (op_U16 x0 x1 hl.out) MR.out).mono ?_); rintro _ w7 ⟨_, rfl, rfl, M⟩; (have M7 := hid M); clear M)
          go_roundw
          case rel => exact ⟨k + 1, by omega, by go_num, hid (by rw [hfs.out, ← List.append_assoc]; exact M7.out)⟩
          case measure => simp [intOf] <;> omega
        · obtain rfl : k = ne := by omega
          rw [show g.ends.take k = g.ends from List.take_of_length_le (by rw [hneH.out]; omega)] at MR
          obtain ⟨p2, hp2⟩ : ∃ p, p1 ++ g.ends.flatMap b2 = p := ⟨_, rfl⟩
          rw [hp2] at MR
          have hl2 : p2.length = 10 + 2 * k := by rw [← hp2, List.length_append, hl1.out, flatN_length b2 (fun _ => rfl), hneH.out]
          replace hp2 := hid hp2
          have hl2' := hid (show p2.length + 2 + np ≤ 140737488355328 by omega)
          replace hl2 := hid hl2
          obtain ⟨c4, c5, c6⟩ := g_cells (m := m) (g := g) (ve := .slice Ae k ce) (vp := .slice Ap np cp) (vs := .slice As ns cs) MR.out.own (by simp)
          have wu : IntKind.u16.wrap (np : Int) = (np : Int) := IntWalk.u16_in _ (by omega)
          go_upto_region 15 with fail
          go_region_held3 (fun w' => w'.cell? ⟨m, 5, none⟩ = some (.slice Ap np cp)) (go_keep)
            (first
              | (go_at_call 22; (with_reducible refine (St.opA (op_U16 (n := np) (by omega) (by omega) (by have := hl2'.out; omega)) MR.out.drew).mono ?_); rintro _ w7 ⟨_, rfl, rfl, M⟩; obtain ⟨c4, c5, c6⟩ := g_cells (m := m) (g := g) (ve := .slice Ae k ce) (vp := .slice Ap np cp) (vs := .slice As ns cs) M.own (by simp); (have M7 := hid M); clear M)
              | (go_at_call 25; (with_reducible refine (St.opA (op_Put (ps := g.prog) (by rw [hnpH.out]; exact hPA.out _ M7.out.below) (by have := hl2'.out; rw [List.length_append, b2_length, hnpH.out]; omega)) M7.out).mono ?_); rintro _ w8 ⟨_, rfl, rfl, M⟩; obtain ⟨c4, c5, c6⟩ := g_cells (m := m) (g := g) (ve := .slice Ae k ce) (vp := .slice Ap np cp) (vs := .slice As ns cs) M.own (by simp); (have M8 := hid M); clear M))
          obtain ⟨p3, hp3⟩ : ∃ p, p2 ++ b2 np ++ g.prog = p := ⟨_, rfl⟩
          rw [hp3] at M8
          have hl3 : p3.length ≤ 140000 := by
            have := hl2.out
            rw [← hp3, List.length_append, List.length_append, b2_length, hnpH.out]; omega
          have hp3' := hid (show p3 = b2 k ++ (g.box.flatMap s2 ++ (g.ends.flatMap b2 ++ (b2 np ++ g.prog))) by rw [← hp3, ← hp2.out, ← hp1.out]; simp only [List.append_assoc])
          clear hp3
          replace hl3 := hid hl3
          obtain ⟨va, vb, vc, MO⟩ := M8.out.open
          replace MO := hid MO
          clear M7 MR
          go_wp2_with ((with_reducible refine gate (N := 11) rfl ?_); refine wpList_box_Own rfl (cs := #[.int .i16 0, .int .i16 0, .bool false]) (t := 55) (by first | (go_simp; done) | (go_simp; rfl)) MO.out ?_; intro l w9 M; ((have M9 := hid (show Own w w9 (.row 5 1 (.slice none 0 0) 0 [] :: ([.blk l 55 #[.int .i16 0, .int .i16 0, .bool false], .blk m 52 (gA g (.slice Ae k ce) (.slice Ap np cp) (.slice As ns cs))] ++ wr3 a va p3 b vb [] c vc [])) from M.nil_row _ _))); obtain ⟨c4, c5, c6⟩ := g_cells (m := m) (g := g) (ve := .slice Ae k ce) (vp := .slice Ap np cp) (vs := .slice As ns cs) M (by simp); (have M9' := hid M); clear M)
          clear c4 c5 c6
          go_loopw [10, 52] (fun fv i wr => ∃ (j : Nat) (Af : Option Addr) (cf : Nat), j ≤ ns ∧ i = .int .i64 j ∧ fv = .slice Af j cf ∧ Hid (St w wr a p3 b (xsK g.pts j) c (ysK g.pts j) [.row 5 1 (.slice Af j cf) j (ints .u8 (flsK g.pts j)), .blk l 55 #[.int .i16 (pvX g.pts j), .int .i16 (pvY g.pts j), .bool (pvO g.pts j)], .blk m 52 (gA g (.slice Ae k ce) (.slice Ap np cp) (.slice As ns cs))])) (fun _ i _ => ns - (intOf i).toNat)
          case atStart => exact ⟨0, none, 0, Nat.zero_le _, rfl, rfl, hid (St.shut M9.out)⟩
          case round =>
            clear M9 MO M8
            obtain ⟨j, Af, cf, hj, rfl, rfl, MS⟩ := hrel
            by_cases hjt : j < ns
            · obtain ⟨ad, rfl⟩ := hsS.out (by omega)
              obtain ⟨k1, k2, k3⟩ := hSA.out ad rfl wr MS.out.below j hjt
              obtain ⟨fx, fy⟩ := hfit.out j hjt
              have hxs := hid (xsK_succ g.pts j)
              have hys := hid (ysK_succ g.pts j)
              have hfs := hid (flsK_succ g.pts j)
              have hfl := hid (show flagOf g.pts j = if pO g.pts j then or8 (or8 (layF (dX g.pts j) 2 16) (layF (dY g.pts j) 4 32)) 1 else or8 (layF (dX g.pts j) 2 16) (layF (dY g.pts j) 4 32) from rfl)
              have hxl := hid (show (xsK g.pts j).length + 2 ≤ 140737488355328 by have := xsK_length g.pts j; omega)
              have hyl := hid (show (ysK g.pts j).length + 2 ≤ 140737488355328 by have := ysK_length g.pts j; omega)
              have hnx := hid (show pvX g.pts (j + 1) = pX g.pts j ∧ pvY g.pts (j + 1) = pY g.pts j ∧ pvO g.pts (j + 1) = pO g.pts j from ⟨rfl, rfl, rfl⟩)
              rw [show dX g.pts j = pX g.pts j - pvX g.pts j from rfl] at hxs hfl fx
              rw [show dY g.pts j = pY g.pts j - pvY g.pts j from rfl] at hys hfl fy
              obtain ⟨⟨x0, x1⟩, ⟨y0, y1⟩⟩ := hOH.out.at j
              obtain ⟨⟨u0, u1⟩, ⟨v0, v1⟩⟩ := hOH.out.prev j
              generalize xsK g.pts j = xs at *
              generalize ysK g.pts j = ys at *
              generalize flsK g.pts j = fls at *
              generalize pX g.pts j = x at *
              generalize pY g.pts j = y at *
              generalize pO g.pts j = on at *
              generalize pvX g.pts j = u at *
              generalize pvY g.pts j = v at *
              generalize pvO g.pts j = po at *
              have wx := IntWalk.i64_in (x - u) (by omega); have wy := IntWalk.i64_in (y - v) (by omega)
              have wx1 := IntWalk.i64_in x (by omega); have wy1 := IntWalk.i64_in y (by omega); have wu1 := IntWalk.i64_in u (by omega); have wv1 := IntWalk.i64_in v (by omega)
              obtain ⟨va, vb, vc, MO⟩ := MS.out.open
              replace MO := hid MO
              obtain ⟨c4, c5, c6⟩ := g_cells (m := m) (g := g) (ve := .slice Ae k ce) (vp := .slice Ap np cp) (vs := .slice (some ad) ns cs) MO.out (by simp)
              go_upto_region 21 with (first
                | ((with_reducible refine gate (N := 13) rfl ?_); refine wpList_box_Own rfl (cs := #[.int .i16 0, .int .i16 0, .bool false]) (t := 55) (by first | (go_simp; done) | (go_simp; rfl)) MO.out ?_; intro p w3 M; (clear k1 k2 k3 c4 c5 c6); (have M3 := hid M); clear M)
                | ((with_reducible refine gateSt (t := 55) (p := 13) rfl ?_); refine wpList_store_all (n := 3) (L1 := []) (mid := [.int .i16 0, .int .i16 0, .bool false]) (vs := [.int .i16 x, .int .i16 y, .bool on]) rfl rfl (by kernel_rfl) rfl rfl rfl rfl rfl (one_all rfl) M3.out ?_; intro w4 M; ((have M4 := hid (St.shut (R := [.blk p 55 #[.int .i16 x, .int .i16 y, .bool on], .row 5 1 (.slice Af j cf) j (ints .u8 fls), .blk l 55 #[.int .i16 u, .int .i16 v, .bool po], .blk m 52 (gA g (.slice Ae k ce) (.slice Ap np cp) (.slice (some ad) ns cs))]) M))); obtain ⟨p0, p1', p2'⟩ := sp_cells (p := p) (x := x) (y := y) (on := on) M (by simp); obtain ⟨l0, l1, l2⟩ := sp_cells (p := l) (x := u) (y := v) (on := po) M (by simp); (have M4' := hid M); clear M))
              try simp only [Act.put, List.setIfInBounds_toArray, List.set_cons_zero, List.set_cons_succ]
              go_region_held3 (fun w' => w'.cell? ⟨p, 0, none⟩ = some (.int .i16 x) ∧ w'.cell? ⟨p, 1, none⟩ = some (.int .i16 y) ∧ w'.cell? ⟨l, 0, none⟩ = some (.int .i16 u) ∧ w'.cell? ⟨l, 1, none⟩ = some (.int .i16 v)) (go_keep)
                (first
                  | (go_at_call 27; (with_reducible refine (St.opB (op_lay (n := x - u) 2 16 fx hxl.out) M4.out.drew).mono ?_); rintro _ w5 ⟨_, rfl, rfl, M⟩; obtain ⟨p0, p1', p2'⟩ := sp_cells (p := p) (x := x) (y := y) (on := on) M.own (by simp); obtain ⟨l0, l1, l2⟩ := sp_cells (p := l) (x := u) (y := v) (on := po) M.own (by simp); (have M5 := hid M); clear M)
                  | (go_at_call 27; (with_reducible refine (St.opC (op_lay (n := y - v) 4 32 fy hyl.out) M5.out).mono ?_); rintro _ w6 ⟨_, rfl, rfl, M⟩; obtain ⟨p0, p1', p2'⟩ := sp_cells (p := p) (x := x) (y := y) (on := on) M.own (by simp); obtain ⟨l0, l1, l2⟩ := sp_cells (p := l) (x := u) (y := v) (on := po) M.own (by simp); (have M6 := hid M); clear M))
              clear wx wy wx1 wy1 wu1 wv1
              generalize layF (x - u) 2 16 = fa at *
              generalize layF (y - v) 4 32 = fb at *
              obtain ⟨va, vb, vc, MO⟩ := M6.out.open
              replace MO := hid MO
              clear M4 M5 M6 MS
              have npl : p ≠ l := MO.out.ne (t' := 55) (cs' := #[.int .i16 u, .int .i16 v, .bool po]) (by simp)
              have nlp := npl.symm
              cases on
              · rw [if_neg (by simp)] at hfl
                go_upto_region 24 with fail
                go_region_held3 (fun w' => w'.cell? ⟨p, 0, none⟩ = some (.int .i16 x) ∧ w'.cell? ⟨p, 1, none⟩ = some (.int .i16 y) ∧ w'.cell? ⟨p, 2, none⟩ = some (.bool false)) (go_keep)
                  (first
                    | (refine step_append_Own (by rfl) (.tmp 77) (.tmp 79) _ rfl sized_u8 rfl rfl (L1 := [.blk w6.heap.size 5 #[.int .u8 (bits .or .u8 fa fb)], .blk p 55 #[.int .i16 x, .int .i16 y, .bool false]]) (L2 := .blk l 55 #[.int .i16 u, .int .i16 v, .bool po] :: .blk m 52 (gA g (.slice Ae k ce) (.slice Ap np cp) (.slice (some ad) ns cs)) :: wr3 a va p3 b vb (xs ++ layB (x - u)) c vc (ys ++ layB (y - v))) (MO.out.drew.alloc _ _) (SliceAt.built (MO.out.drew.alloc _ _) (.head _) 1 1 rfl (by unfold maxLen; omega)) (ints_one .u8 [bits .or .u8 fa fb]) (by unfold maxLen; omega) (by omega) ?_; intro v' w' M'; obtain ⟨A7, c7, rfl⟩ := M'.tail.tail.form (.head _); obtain ⟨p0, p1', p2'⟩ := sp_cells (p := p) (x := x) (y := y) (on := false) M' (by simp); obtain ⟨l0, l1, l2⟩ := sp_cells (p := l) (x := u) (y := v) (on := po) M' (by simp); obtain ⟨lf0, lf1, lf2⟩ := sp_free (p := l) (x := u) (y := v) (on := po) M' (by simp); (have M7 := hid M'.tail.tail); clear M'))
                go_wp2_with fail
                go_roundw
                case rel =>
                  have MX := (((M7.out.set (L1 := [_]) 0 (.int .i16 x)).set (L1 := [_]) 1 (.int .i16 y)).set (L1 := [_]) 2 (.bool false))
                  exact ⟨j + 1, A7, c7, by omega, by go_num, rfl, hid (by rw [hfs.out, hxs.out, hys.out, hnx.out.1, hnx.out.2.1, hnx.out.2.2, hfl.out, ints_append]; exact St.shut MX)⟩
                case measure => simp [intOf] <;> omega
              · rw [if_pos rfl] at hfl
                go_upto_region 24 with fail
                go_region_held3 (fun w' => w'.cell? ⟨p, 0, none⟩ = some (.int .i16 x) ∧ w'.cell? ⟨p, 1, none⟩ = some (.int .i16 y) ∧ w'.cell? ⟨p, 2, none⟩ = some (.bool true)) (go_keep)
                  (first
                    | (refine step_append_Own (by rfl) (.tmp 77) (.tmp 79) _ rfl sized_u8 rfl rfl (L1 := [.blk w6.heap.size 5 #[.int .u8 (bits .or .u8 (bits .or .u8 fa fb) 1)], .blk p 55 #[.int .i16 x, .int .i16 y, .bool true]]) (L2 := .blk l 55 #[.int .i16 u, .int .i16 v, .bool po] :: .blk m 52 (gA g (.slice Ae k ce) (.slice Ap np cp) (.slice (some ad) ns cs)) :: wr3 a va p3 b vb (xs ++ layB (x - u)) c vc (ys ++ layB (y - v))) (MO.out.drew.alloc _ _) (SliceAt.built (MO.out.drew.alloc _ _) (.head _) 1 1 rfl (by unfold maxLen; omega)) (ints_one .u8 [bits .or .u8 (bits .or .u8 fa fb) 1]) (by unfold maxLen; omega) (by omega) ?_; intro v' w' M'; obtain ⟨A7, c7, rfl⟩ := M'.tail.tail.form (.head _); obtain ⟨p0, p1', p2'⟩ := sp_cells (p := p) (x := x) (y := y) (on := true) M' (by simp); obtain ⟨l0, l1, l2⟩ := sp_cells (p := l) (x := u) (y := v) (on := po) M' (by simp); obtain ⟨lf0, lf1, lf2⟩ := sp_free (p := l) (x := u) (y := v) (on := po) M' (by simp); (have M7 := hid M'.tail.tail); clear M'))
                go_wp2_with fail
                go_roundw
                case rel =>
                  have MX := (((M7.out.set (L1 := [_]) 0 (.int .i16 x)).set (L1 := [_]) 1 (.int .i16 y)).set (L1 := [_]) 2 (.bool true))
                  exact ⟨j + 1, A7, c7, by omega, by go_num, rfl, hid (by rw [hfs.out, hxs.out, hys.out, hnx.out.1, hnx.out.2.1, hnx.out.2.2, hfl.out, ints_append]; exact St.shut MX)⟩
                case measure => simp [intOf] <;> omega
            · obtain rfl : j = ns := by omega
              have hfB := hid (flsK_bytes g.pts j)
              have hfL := hid (flsK_length g.pts j)
              have hxl := hid (xsK_length g.pts j)
              have hyl := hid (ysK_length g.pts j)
              have hrl := hid (show (rowsB (flsK g.pts j)).length ≤ 2 * j by have := rowsF_length (flsK g.pts j).length (flsK g.pts j); rw [flsK_length] at this; simpa [rowsB, flsK_length] using this)
              rw [← hp3'.out] at hfin
              generalize flsK g.pts j = fl at *
              generalize xsK g.pts j = xs at *
              generalize ysK g.pts j = ys at *
              generalize hrB : rowsB fl = rb at *
              replace hrB := hid hrB
              go_wp2_with (first
                | (go_at_call 28; (with_reducible refine (St.rows (n := j) hfL.out (by have := hl3.out; omega) hfB.out List.mem_cons_self MS.out).mono ?_); rintro _ w3 ⟨_, rfl, M⟩; (rw [hrB.out] at M); (have M3 := hid M); clear M)
                | (go_at_call 26; (with_reducible refine (St.done_b (by have := hxl.out; omega) M3.out).mono ?_); rintro _ w4 ⟨_, rfl, M⟩; obtain ⟨A4, c4, rfl⟩ := M.own.form (.head _); (have M4 := hid M); clear M)
                | (go_at_call 25; (with_reducible refine (St.opA (op_Put (ps := xs) (M4.out.own.slice (e := 5) List.mem_cons_self) (by have := hl3.out; have := hrl.out; have := hxl.out; rw [List.length_append]; omega)) M4.out).mono ?_); rintro _ w5 ⟨_, rfl, rfl, M⟩; (have M5 := hid M); clear M)
                | (go_at_call 26; (with_reducible refine (St.done_c (by have := hyl.out; omega) M5.out).mono ?_); rintro _ w6 ⟨_, rfl, M⟩; obtain ⟨A6, c6, rfl⟩ := M.own.form (.head _); (have M6 := hid M); clear M)
                | (go_at_call 25; (with_reducible refine (St.opA (op_Put (ps := ys) (M6.out.own.slice (e := 5) List.mem_cons_self) (by have := hl3.out; have := hrl.out; have := hxl.out; have := hyl.out; rw [List.length_append, List.length_append]; omega)) M6.out).mono ?_); rintro _ w8 ⟨_, rfl, rfl, M⟩; (have M8 := hid M); clear M)
                | (go_at_call 26; (with_reducible refine (St.done_a (by have := hl3.out; have := hrl.out; have := hxl.out; have := hyl.out; rw [List.length_append, List.length_append, List.length_append]; omega) M8.out).mono ?_); rintro _ w9 ⟨_, rfl, M⟩; (have M9 := hid M); clear M))
              go_ret
              exact .mk (by rw [hfin.out, show p3 ++ (rb ++ (xs ++ ys)) = p3 ++ rb ++ xs ++ ys by simp only [List.append_assoc]]; exact M9.out)
end Go.Proofs.YtiedbfaehndooaaDoor
