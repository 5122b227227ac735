/- Package simple: the glyph that bytes begin with. -/
import Derived.Test.YtiedbfaehndooaaDoorSimpV
import Derived.Test.YtiedbfaehndooaaDoorBaseM
import Derived.Test.YtiedbfaehndooaaDoorSimpM1
namespace Go.Proofs.YtiedbfaehndooaaDoor
open Go Go.RowKit
set_option linter.unusedVariables false
set_option linter.unusedSimpArgs false
set_option maxRecDepth 100000

section
variable {P : Program} {w : World}
theorem results_agg_tmps2 {fn : Func} {p q s : Tmp} {ty n : Nat} (h : fn.results = #[.cell p ty, .tmp q, .tmp s]) (hT : AggOf P ty n) (tmps : Array Value) {g : Nat} (hp : tmps.getD p undef = .pointer (some ⟨g, 0, none⟩)) {t : TypeId} {vs : List Value} (hg : w.heap[g]? = some (.cells vs.toArray t (0, 0))) (hn : vs.length = n) :
    (results fn tmps).run P w = .ok (.tuple #[.agg vs.toArray, tmps.getD q undef, tmps.getD s undef]) w := by
  have hp' : tmps[p]?.getD undef = .pointer (some ⟨g, 0, none⟩) := by simpa using hp
  simp [results, h, hp', asAddr, run_load_agg hT hg (off := 0) (vs := vs) (by rw [← hn]; simp) hn]
end
section
variable {P : Program} {ops : Array Oper} {o : Oper} {a : Act} {Q : Exit → Act → World → Prop} {K : Act → World → Prop} {E : Prop} {W0 w : World} {L1 L2 : List Ent}
theorem step_store_all {ty n : Nat} (hgd : o.guard = none) (hd : o.dst = none) (h : (P.info? ty).map (·.size) = some n) {x y : Operand} (ho : o.op = .store ty x y) {g : Nat} (hx : a.eval x = .pointer (some ⟨g, 0, none⟩)) {t : TypeId} {mid vs : List Value} (hy : a.eval y = .agg vs.toArray)
    (hn : vs.length = n) (hmid : mid.length = n) (h1 : ∀ v ∈ vs, v.oneCell' = true) (M : Own W0 w (L1 ++ (.blk g t mid.toArray :: L2)))
    (hK : ∀ w', Own W0 w' (L1 ++ (.blk g t vs.toArray :: L2)) → K a w') : if Region.wanted o (yielded ops a.tmps) = true then Oper.wp P o a w K Q else E := by
  have hw : Region.wanted o (yielded ops a.tmps) = true := by simp [Region.wanted, hgd]
  rw [if_pos hw]
  obtain ⟨w', hr, M'⟩ := exec_store_agg (pre := []) (post := []) (mid := mid) h ho hx hy hn hmid rfl h1 (by simpa using M)
  unfold Oper.wp
  rw [hr]
  have := hK w' (by simpa using M')
  simpa [Oper.upon, hd, Act.put] using this
end
/-- The box, so far read. -/
def boxK (l : List Int) (j : Nat) : List Int := (List.range j).map (fun i => sgn (n2 l (2 + 2 * i))) ++ List.replicate (4 - j) 0
theorem boxK_length (l : List Int) {j : Nat} (h : j ≤ 4) : (boxK l j).length = 4 := by simp [boxK]; omega
theorem boxK_set (l : List Int) {j : Nat} (h : j < 4) : (boxK l j).set j (sgn (n2 l (2 + 2 * j))) = boxK l (j + 1) := by
  unfold boxK
  rw [List.set_append_right _ _ (by simp), show 4 - j = (4 - (j + 1)) + 1 by omega, List.replicate_succ]
  simp [List.range_succ]
abbrev nil3 : List Value := [.slice none 0 0, .slice none 0 0, .slice none 0 0]
abbrev gNil : Array Value := gA ⟨0, 0, 0, 0, [], [], []⟩ (.slice none 0 0) (.slice none 0 0) (.slice none 0 0)
section
variable {W0 w : World} {L : List Ent} {m : Nat} {zs : List Int} {R : List Value}
theorem gb_cell (M : Own W0 w (.blk m 52 (ints .i16 zs ++ R).toArray :: L)) {i : Nat} (h : i < zs.length) : w.cell? ⟨m, i, none⟩ = some (.int .i16 (zs.getD i 0)) ∧ w.frozen? ⟨m, i, none⟩ = false := by
  refine ⟨?_, M.free (.head _) i⟩
  rw [M.cell (.head _)]
  rw [List.getElem?_toArray, List.getElem?_append_left (by rw [ints_length]; exact h)]
  exact ints_get .i16 zs i h
theorem gb_set (M : Own W0 w (.blk m 52 (ints .i16 zs ++ R).toArray :: L)) {i : Nat} (h : i < zs.length) (x : Int) : Own W0 (w.setCell ⟨m, i, none⟩ (.int .i16 x)) (.blk m 52 (ints .i16 (zs.set i x) ++ R).toArray :: L) := by
  have := M.set (L1 := []) i (.int .i16 x)
  rw [List.nil_append, List.setIfInBounds_toArray, List.set_append_left _ _ (by rw [ints_length]; exact h)] at this
  have e : (ints .i16 zs).set i (.int .i16 x) = ints .i16 (zs.set i x) := by unfold ints; rw [List.map_set]
  rwa [e] at this
end
section
variable {W0 w : World} {L L1 L2 : List Ent} {b k : Nat} {l : List Int} {g : Nat} {t : TypeId} {cs : Array Value}
theorem RS.set (h : RS W0 w b l k (L1 ++ (.blk g t cs :: L2))) (i : Nat) (u : Value) : RS W0 (w.setCell ⟨g, i, none⟩ u) b l k (L1 ++ (.blk g t (cs.setIfInBounds i u) :: L2)) := by
  obtain ⟨v, a, bad, M, h1, h2, h3⟩ := h.opened
  rw [List.append_assoc] at M
  have := M.set i u
  exact RS.shut (by rw [List.append_assoc]; exact this) h1 h2 h3
theorem cell_set_ne {w : World} {a c : Addr} {v : Value} (h : c.block ≠ a.block) : (w.setCell a v).cell? c = w.cell? c := World.cell?_of_block (Below.heap_setCell _ _ _ _ h)
theorem Own.row_ne {g' : Nat} {t' : TypeId} {cs' : Array Value} {e : TypeId} {sz n c j : Nat} {ad : Addr} {vs : List Value} (M : Own W0 w (.blk g' t' cs' :: L)) (h : .row e sz (.slice (some ad) n c) n vs ∈ L) : (ad.add j).block ≠ g' := fun e => by
  refine M.apart_of h (.inl trivial) (k := g') rfl ?_
  rw [block_of_add] at e
  exact congrArg some e
theorem RS.cellf (h : RS W0 w b l k L) (hm : .blk g t cs ∈ L) (i : Nat) : w.cell? ⟨g, i, none⟩ = cs[i]? ∧ w.frozen? ⟨g, i, none⟩ = false := ⟨h.beside.cell hm i, h.beside.free hm i⟩
theorem FlagsP.any {n : Nat} {r : Value} (hn : n ≤ 65536) (h : FlagsP W0 b l k n L r w) : ∃ fl v q ok k', r = .tuple #[v, .bool ok] ∧ fl.length = q ∧ q ≤ 65536 ∧ Bytes fl ∧ RS W0 w b l k' (.row 5 1 v q (ints .u8 fl) :: L) ∧
    ok = (flS l k n).isSome ∧ (∀ t, flS l k n = some t → fl = t.1 ∧ k' = t.2) := by
  rcases h with ⟨fl, e, v, h1, h2, h3, h4, h5⟩ | ⟨h1, h2, k', h3⟩
  · exact ⟨fl, v, n, true, e, h4, h3, hn, h2, h5, by rw [h1]; rfl, fun t ht => by rw [h1] at ht; injection ht with ht; subst ht; exact ⟨rfl, rfl⟩⟩
  · exact ⟨[], _, 0, false, k', h2, rfl, by omega, bytes_nil, h3.nil_row _ _, by rw [h1]; rfl, fun t ht => by rw [h1] at ht; cases ht⟩
theorem flS_beyond {n : Nat} {t : List Int × Nat} (hk : l.length < k) (h : flS l k n = some t) : t.2 = k := by
  rcases Nat.eq_zero_or_pos n with rfl | h0
  · rw [flS_zero] at h; injection h with h; subst h; rfl
  · rw [flS_pos _ _ h0] at h
    have : flOk l k n = false := decide_eq_false fun hc => by
      have : 1 ≤ fWid l k := by unfold fWid; split <;> omega
      omega
    rw [this] at h; cases h
/-- Flags, then all X, then all Y: all are there, or something is told. -/
theorem body_cases {Q k1 k2 k3 : Nat} {fl xs ys : List Int} {ok okX okY : Bool} (hF1 : ok = (flS l k Q).isSome) (hF2 : ∀ t, flS l k Q = some t → fl = t.1 ∧ k1 = t.2)
    (hX0 : l.length < k1 → l.length < k2) (hX : k1 ≤ l.length → okX = (numK l 2 16 fl k1 fl.length).isSome ∧ ∀ t, numK l 2 16 fl k1 fl.length = some t → xs = t.1 ∧ k2 = t.2.1)
    (hY0 : l.length < k2 → l.length < k3) (hY : k2 ≤ l.length → okY = (numK l 4 32 fl k2 fl.length).isSome ∧ ∀ t, numK l 4 32 fl k2 fl.length = some t → ys = t.1 ∧ k3 = t.2.1) :
    (∃ r, k ≤ l.length ∧ bodyS l k Q = some r ∧ ok = true ∧ okX = true ∧ okY = true ∧ ¬ l.length < k3 ∧ fl = r.1.1 ∧ xs = r.1.2.1 ∧ ys = r.1.2.2 ∧ k3 = r.2) ∨
    ((k ≤ l.length → bodyS l k Q = none) ∧ (l.length < k3 ∨ ok = false ∨ okX = false ∨ okY = false)) := by
  by_cases hk : k ≤ l.length
  · cases hf : flS l k Q with
    | none => exact .inr ⟨fun _ => by unfold bodyS; rw [hf]; rfl, .inr (.inl (by rw [hF1, hf]; rfl))⟩
    | some f =>
      obtain ⟨rfl, rfl⟩ := hF2 f hf
      obtain ⟨f0, f1, f2, -⟩ := flS_more l [] _ Q k f (Nat.le_refl _) hk hf
      obtain ⟨x1, x2⟩ := hX f1
      cases hx : numK l 2 16 f.1 f.2 f.1.length with
      | none => exact .inr ⟨fun _ => by unfold bodyS; rw [hf, Option.bind_some, hx]; rfl, .inr (.inr (.inl (by rw [x1, hx]; rfl)))⟩
      | some x =>
        obtain ⟨rfl, rfl⟩ := x2 x hx
        obtain ⟨g0, g1, -⟩ := numK_more l [] f1 _ x hx
        obtain ⟨y1, y2⟩ := hY g1
        cases hy : numK l 4 32 f.1 x.2.1 f.1.length with
        | none => exact .inr ⟨fun _ => by unfold bodyS; rw [hf, Option.bind_some, hx, Option.bind_some, hy]; rfl, .inr (.inr (.inr (by rw [y1, hy]; rfl)))⟩
        | some y =>
          obtain ⟨rfl, rfl⟩ := y2 y hy
          obtain ⟨d0, d1, -⟩ := numK_more l [] g1 _ y hy
          exact .inl ⟨_, hk, by unfold bodyS; rw [hf, Option.bind_some, hx, Option.bind_some, hy]; rfl, by rw [hF1, hf]; rfl, by rw [x1, hx]; rfl, by rw [y1, hy]; rfl, by omega, rfl, rfl, rfl, rfl⟩
  · refine .inr ⟨fun h => absurd h hk, ?_⟩
    cases hf : flS l k Q with
    | none => exact .inr (.inl (by rw [hF1, hf]; rfl))
    | some f =>
      obtain ⟨rfl, rfl⟩ := hF2 f hf
      have := flS_beyond (by omega) hf
      exact .inl (hY0 (hX0 (by omega)))
end
/-- The glyph that is told, or none. -/
theorem parseS_of {l : List Int} {N z Q : Nat} {n : Int} (hn : sgn (n2 l 0) = n) (hN : n.toNat = N) (h0 : ¬ n < 0) (hz : n2 l (10 + 2 * N) = z) (hQ : nP (u16s l 10 N) N = Q) (hr : riseB (u16s l 10 N) N = true) (hB : Bytes l) :
    parseS l = if 12 + 2 * N + z ≤ l.length then (bodyS l (12 + 2 * N + z) Q).map fun r => (⟨sgn (n2 l 2), sgn (n2 l 4), sgn (n2 l 6), sgn (n2 l 8), u16s l 10 N, (l.drop (12 + 2 * N)).take z, ptsOf r.1.1 r.1.2.1 r.1.2.2⟩, r.2) else none := by
  have hb := n2_bound hB 0
  have h1 : n2 l 0 ≤ 32767 ∧ n = n2 l 0 := by unfold sgn at hn; split at hn <;> omega
  have eN : pN l = N := by unfold pN; rw [← h1.2]; exact hN
  have eE : pE l = u16s l 10 N := by unfold pE; rw [eN]
  have eZ : pZ l = z := by unfold pZ; rw [eN, hz]; rfl
  have eA : pA l = 12 + 2 * N + z := by unfold pA; rw [eN, eZ]
  have eQ : pQ l = Q := by unfold pQ; rw [eN, eE, hQ]; rfl
  unfold parseS
  by_cases hc : 12 + 2 * N + z ≤ l.length
  · have hH : headB l = true := by
      unfold headB
      rw [eN, eE, eA, hr]
      simp only [Bool.and_eq_true, decide_eq_true_eq]
      exact ⟨by omega, by omega, trivial, hc⟩
    rw [hH, if_pos rfl, if_pos hc, eA, eQ]
    unfold pG
    rw [eN, eE, eZ]
  · have hH : headB l = false := by
      unfold headB
      rw [eA, decide_eq_false hc, Bool.and_false, Bool.and_false, Bool.and_false]
    rw [hH, if_neg hc]; rfl
theorem parseS_neg {l : List Int} (hB : Bytes l) (h : sgn (n2 l 0) < 0) : parseS l = none := by
  have hb := n2_bound hB 0
  have hH : headB l = false := by
    unfold headB
    have : ¬ pN l ≤ 32767 := by unfold pN; unfold sgn at h; split at h <;> omega
    rw [decide_eq_false this]; rfl
  unfold parseS; rw [hH]; rfl
theorem parseS_ends {l : List Int} (hB : Bytes l) {N : Nat} {n : Int} (hn : sgn (n2 l 0) = n) (hN : n.toNat = N) (h0 : ¬ n < 0) (h : ¬ (riseB (u16s l 10 N) N = true ∧ 10 + 2 * N ≤ l.length)) : parseS l = none := by
  have hb := n2_bound hB 0
  have eN : pN l = N := by unfold pN; unfold sgn at hn; split at hn <;> omega
  have eE : pE l = u16s l 10 N := by unfold pE; rw [eN]
  have hH : headB l = false := by
    rw [Bool.eq_false_iff]
    intro hc
    unfold headB at hc
    rw [eN, eE] at hc
    simp only [Bool.and_eq_true, decide_eq_true_eq] at hc
    exact h ⟨hc.2.2.1, by omega⟩
  unfold parseS; rw [hH]; rfl
/-- What is parsed. -/
def ParseP (w : World) (l : List Int) (r : Value) (w' : World) : Prop :=
  (∃ (g : Sg) (n : Nat) (ve vp vs : Value), parseS l = some (g, n) ∧ g.Ok ∧ r = .tuple #[.agg (gA g ve vp vs), .int .i64 n, .int .i64 0] ∧ Own w w' [.row 34 1 ve g.ends.length (ints .u16 g.ends), .row 5 1 vp g.prog.length (ints .u8 g.prog), .row 55 3 vs g.pts.length (spC g.pts)]) ∨
  (parseS l = none ∧ r = .tuple #[.agg gNil, .int .i64 0, .int .i64 2] ∧ Below w.heap.size w w')
set_option maxHeartbeats 8000000 in
theorem parse_calls12 (w : World) {V : Value} {l : List Int} (h1 : BytesAt w V l) (hB : Bytes l) (hn : l.length ≤ 140737488355328) :
    Calls Tryd.prog 47 #[V] w (Ret fun r w' => ParseP w l r w') := by
  have M0 := hid (Own.start w)
  have h1H := hid h1
  obtain ⟨A, C, rfl, hc1, hm1, -⟩ := h1
  unfold maxLen at hm1
  have hBH := hid hB
  clear hB
  go_enter Tryd.func47, Tryd.ntmps47
  go_wp2_with (first
    | ((with_reducible refine gate (N := 2) rfl ?_); refine wpList_box_Own rfl (cs := gNil) (t := 52) (by first | (go_simp; done) | (go_simp; rfl)) M0.out ?_; intro m0 w1 M; (have M1 := hid M); clear M)
    | (go_at_call 51; (with_reducible refine (new_calls _ (h1H.out.below M1.out.below) hn).mono ?_); rintro _ w2 ⟨_, rfl, b, v, rfl, M⟩; ((have M2 := hid (M1.out.lift M (by simp [rdE, Ent.mine])))); (clear M))
    | ((with_reducible refine gate (N := 6) rfl ?_); refine wpList_box_Own rfl (cs := gNil) (t := 52) (by first | (go_simp; done) | (go_simp; rfl)) M2.out ?_; intro m w3 M; ((have R3 := hid (RS.start (L := [.blk m 52 gNil, .blk m0 52 gNil]) hBH.out (M.perm (List.perm_middle (l₁ := rdE _ _ _ _ _)).symm)))); (have M3 := hid M); clear M)
    | (go_at_call 52; (with_reducible refine (RS.I16 R3.out).mono ?_); rintro _ w4 ⟨_, rfl, rfl, M⟩; (have R4 := hid M); clear M))
  have hb0 := n2_bound hBH.out 0
  have hnb : -32768 ≤ sgn (n2 l 0) ∧ sgn (n2 l 0) < 32768 := by unfold sgn; split <;> omega
  obtain ⟨n, hn0⟩ : ∃ n, sgn (n2 l 0) = n := ⟨_, rfl⟩
  rw [hn0] at hnb ⊢
  obtain ⟨nb0, nb1⟩ := hnb
  replace hn0 := hid hn0
  clear hb0 M1 M2 M3 R3
  go_loopw [22] (fun i wr => ∃ (j : Nat), j ≤ 4 ∧ i = .int .i64 j ∧ Hid (RS w wr b l (2 + 2 * j) [.blk m 52 (ints .i16 (boxK l j) ++ nil3).toArray, .blk m0 52 gNil])) (fun i _ => 4 - (intOf i).toNat)
  case atStart => exact ⟨0, Nat.zero_le _, rfl, R4⟩
  case round =>
    clear R4
    obtain ⟨j, hj, rfl, MR⟩ := hrel
    by_cases hlt : j < 4
    · go_wp2_with (go_at_call 52; (with_reducible refine (RS.I16 MR.out).mono ?_); rintro _ w5 ⟨_, rfl, rfl, M⟩; obtain ⟨v5, a5, b5, M5, e1, e2, e3⟩ := M.opened; obtain ⟨cx, fx⟩ := gb_cell (i := j) M5 (by rw [boxK_length l (by omega)]; omega); ((replace M5 := hid M5)); ((replace e1 := hid e1)); ((replace e2 := hid e2)); ((replace e3 := hid e3)); (clear M))
      go_roundw
      case rel => exact ⟨j + 1, by omega, by go_num, hid (RS.shut (L := [_, _]) (by rw [← boxK_set l hlt]; exact gb_set M5.out (by rw [boxK_length l (by omega)]; omega) _) e1.out e2.out e3.out)⟩
      case measure => simp [intOf] <;> omega
    · obtain rfl : j = 4 := by omega
      have R10 : Hid (RS w wr b l 10 [.blk m 52 (gA ⟨sgn (n2 l 2), sgn (n2 l 4), sgn (n2 l 6), sgn (n2 l 8), [], [], []⟩ (.slice none 0 0) (.slice none 0 0) (.slice none 0 0)), .blk m0 52 gNil]) := MR
      clear MR
      obtain ⟨gx, hgx⟩ : ∃ gx : Sg, (⟨sgn (n2 l 2), sgn (n2 l 4), sgn (n2 l 6), sgn (n2 l 8), [], [], []⟩ : Sg) = gx := ⟨_, rfl⟩
      rw [hgx] at R10
      replace hgx := hid hgx
      obtain ⟨N, hN⟩ : ∃ N, n.toNat = N := ⟨_, rfl⟩
      have hwn : IntKind.i64.wrap n = n := IntWalk.i64_in _ (by omega)
      have hNH := hid hN
      have hEnds := hid (ends_calls nb0 nb1 hN R10.out)
      clear hN
      go_wp2_with fail
      refine hEnds.out.mono ?_
      rintro _ w6 ⟨_, rfl, ⟨hrise, hle, ve, rfl, M⟩ | ⟨hno, rfl, k', M⟩⟩
      · obtain ⟨c4, f4⟩ := M.cellf (g := m) (t := 52) (cs := gA gx (.slice none 0 0) (.slice none 0 0) (.slice none 0 0)) (by simp) 4
        obtain ⟨Ae, ce, rfl⟩ := M.beside.form (.head _)
        have R7 : Hid (RS w (w6.setCell ⟨m, 4, none⟩ (.slice Ae N ce)) b l (10 + 2 * N) [.row 34 1 (.slice Ae N ce) N (ints .u16 (u16s l 10 N)), .blk m 52 (gA gx (.slice Ae N ce) (.slice none 0 0) (.slice none 0 0)), .blk m0 52 gNil]) := hid (RS.set (L1 := [.row 34 1 (.slice Ae N ce) N (ints .u16 (u16s l 10 N))]) M 4 (.slice Ae N ce))
        have hriseH := hid hrise
        have hleH := hid hle
        clear M hEnds hrise hle
        by_cases hneg : n < 0
        · have hnone : parseS l = none := parseS_neg hBH.out (by rw [hn0.out]; exact hneg)
          have MF := hid (R7.out.beside.sub (L' := [.blk m0 52 gNil]) (by simp))
          go_wp2_with (first
            | ((with_reducible refine gateSt (t := 52) (p := 2) rfl ?_); refine wpList_store_all (n := 7) (L1 := []) (mid := gNil.toList) (vs := gNil.toList) rfl rfl (by kernel_rfl) rfl rfl rfl rfl rfl (one_all rfl) MF.out ?_; intro w18 M; (have M18 := hid M); clear M)
            | (refine bodyPost_ret (v := .tuple #[.agg gNil, .int .i64 0, .int .i64 2]) ?_ rfl (Ret.mk (.inr ⟨hnone, rfl, M18.out.below⟩)); exact results_agg_tmps2 (p := 2) (q := 3) (s := 4) rfl agg_glyph _ (by rfl) (M18.out.heap (.head _)) rfl))
        · obtain ⟨z, hz⟩ : ∃ z : Nat, n2 l (10 + 2 * N) = z := ⟨(n2 l (10 + 2 * N)).toNat, by have := n2_bound hBH.out (10 + 2 * N); omega⟩
          have hz1 : z < 65536 := by have := n2_bound hBH.out (10 + 2 * N); omega
          have hQb := hid (show 0 ≤ nP (u16s l 10 N) N ∧ nP (u16s l 10 N) N ≤ 65536 from by
            cases N with
            | zero => exact ⟨Int.le_refl _, by show (0 : Int) ≤ _; omega⟩
            | succ N =>
              have := n2_bound hBH.out (10 + 2 * N)
              show 0 ≤ (u16s l 10 (N + 1)).getD N 0 + 1 ∧ (u16s l 10 (N + 1)).getD N 0 + 1 ≤ 65536
              rw [u16s_get _ _ _ _ (by omega)]; omega)
          obtain ⟨Q, hQ⟩ : ∃ Q : Nat, nP (u16s l 10 N) N = Q := ⟨(nP (u16s l 10 N) N).toNat, by have := hQb.out; omega⟩
          have hQle : Q ≤ 65536 := by have := hQb.out; omega
          have hps := hid (parseS_of hn0.out hNH.out hneg hz hQ hriseH.out hBH.out)
          rw [hQ]
          have hU := hid (RS.U16 R7.out)
          rw [hz] at hU
          have hwz : IntKind.i64.wrap (z : Int) = z := IntWalk.i64_in _ (by omega)
          clear hz hQ hQb
          go_upto_region 18 with (first
            | (go_at_call 53; refine hU.out.mono ?_; rintro _ w8 ⟨_, rfl, rfl, M⟩; (have R8 := hid M); clear M)
            | (go_at_call 56; refine (RS.Take R8.out z hn).mono ?_; rintro _ w9 ⟨vp, rfl, M⟩; obtain ⟨pb, hpb⟩ : ∃ pb, tkB l (10 + 2 * N + 2) z = pb := ⟨_, rfl⟩; (rw [hpb, show 10 + 2 * N + 2 + z = 12 + 2 * N + z by omega] at M); (replace hpb := hid hpb); obtain ⟨np, hnp⟩ : ∃ np, pb.length = np := ⟨_, rfl⟩; (rw [hnp] at M); (replace hnp := hid hnp); obtain ⟨Ap, cp, rfl⟩ := M.beside.form (.head _); obtain ⟨c5, f5⟩ := M.cellf (g := m) (t := 52) (cs := gA gx (.slice Ae N ce) (.slice none 0 0) (.slice none 0 0)) (by simp) 5; (have R9 : Hid (RS w (w9.setCell ⟨m, 5, none⟩ (.slice Ap np cp)) b l (12 + 2 * N + z) [.row 5 1 (.slice Ap np cp) np (ints .u8 pb), .row 34 1 (.slice Ae N ce) N (ints .u16 (u16s l 10 N)), .blk m 52 (gA gx (.slice Ae N ce) (.slice Ap np cp) (.slice none 0 0)), .blk m0 52 gNil]) := hid (RS.set (L1 := [_, _]) M 5 (.slice Ap np cp))); clear M)
            | (go_at_call 60; refine (flags_calls hQle R9.out).mono ?_; rintro _ w10 ⟨_, rfl, hF⟩; obtain ⟨fl, vf, q, ok, k1, rfl, hfl, hq, hfB, M, hF1, hF2⟩ := hF.any hQle; obtain ⟨Af, cf, rfl⟩ := M.beside.form (.head _); (replace hfl := hid hfl); (replace hfB := hid hfB); (replace hF1 := hid hF1); (replace hF2 := hid hF2); (have R10 := hid M); clear M hF)
            | (go_at_call 61; (have hC := places_calls (sh := 2) (sa := 16) hfl.out hfB.out (.head _) hq (.inl ⟨rfl, rfl⟩) R10.out); ((with_reducible refine hC.mono ?_); clear hC); rintro _ w11 ⟨_, rfl, vx, nx, xs, okX, k2, rfl, hxl, M, hX0, hX⟩; obtain ⟨Ax, cx, rfl⟩ := M.beside.form (.head _); (replace hxl := hid hxl); (replace hX0 := hid hX0); (replace hX := hid hX); (have R11 := hid M); clear M)
            | (go_at_call 61; (have hC := places_calls (sh := 4) (sa := 32) hfl.out hfB.out (.tail _ (.head _)) hq (.inr ⟨rfl, rfl⟩) R11.out); ((with_reducible refine hC.mono ?_); clear hC); rintro _ w12 ⟨_, rfl, vy, ny, ys, okY, k3, rfl, hyl, M, hY0, hY⟩; obtain ⟨Ay, cy, rfl⟩ := M.beside.form (.head _); (replace hyl := hid hyl); (replace hY0 := hid hY0); (replace hY := hid hY); (have R12 := hid M); clear M))
          have hcases := body_cases hF1.out hF2.out hX0.out hX.out hY0.out hY.out
          clear hF1 hF2 hX0 hX hY0 hY hU R7 R8 R9 R10 R11 c4 f4 c5 f5
          rcases hcases with ⟨r, hk, hbody, rfl, rfl, rfl, hk3, e1, e2, e3, e4⟩ | ⟨hnb, hbad⟩
          · obtain ⟨hr2, l1, l2, l3, hix, hiy, -⟩ := bodyS_more l [] hk r hbody
            rw [← e1] at l1
            rw [← e2] at l2 hix
            rw [← e3] at l3 hiy
            obtain rfl : q = Q := by rw [← hfl.out, l1]
            obtain rfl : nx = q := by rw [← hxl.out, l2]
            obtain rfl : ny = nx := by rw [← hyl.out, l3]
            have hfin := hid (show parseS l = some (⟨sgn (n2 l 2), sgn (n2 l 4), sgn (n2 l 6), sgn (n2 l 8), u16s l 10 N, (l.drop (12 + 2 * N)).take z, ptsOf fl xs ys⟩, k3) from by
              rw [hps.out, if_pos hk, hbody, Option.map_some, ← e1, ← e2, ← e3, ← e4])
            have hpB := hid (show pb = (l.drop (12 + 2 * N)).take z from by
              rw [← hpb.out]; unfold tkB; rw [if_pos (by omega), show 10 + 2 * N + 2 = 12 + 2 * N by omega])
            have hixH := hid hix
            have hiyH := hid hiy
            have hkH := hid hk
            clear e1 e2 e3 e4 l1 l2 l3 hix hiy hps hbody hr2 hk
            go_wp2_with (go_at_call 54; refine (RS.Bad R12.out).mono ?_; rintro _ _ ⟨_, rfl, rfl, rfl⟩)
            go_loopw [88] (fun i wr => ∃ (j : Nat), j ≤ ny ∧ i = .int .i64 j ∧ Hid (∃ (A : Option Addr) (c : Nat), RS w wr b l k3 [.row 55 3 (.slice A j c) j (spC ((ptsOf fl xs ys).take j)), .blk m 52 (gA gx (.slice Ae N ce) (.slice Ap np cp) (.slice A j c)), .row 36 1 (.slice Ay ny cy) ny (ints .i16 ys), .row 36 1 (.slice Ax ny cx) ny (ints .i16 xs), .row 5 1 (.slice Af ny cf) ny (ints .u8 fl), .row 5 1 (.slice Ap np cp) np (ints .u8 pb), .row 34 1 (.slice Ae N ce) N (ints .u16 (u16s l 10 N)), .blk m0 52 gNil])) (fun i _ => ny - (intOf i).toNat)
            case atStart => exact ⟨0, Nat.zero_le _, rfl, hid ⟨none, 0, (R12.out.nil_row 55 3).perm (List.Perm.cons _ (List.perm_middle (l₁ := [_, _, _, _, _])))⟩⟩
            case round =>
              clear R12
              obtain ⟨j, hj, rfl, hR⟩ := hrel
              obtain ⟨A, c, MR⟩ := hR.out
              clear hR
              replace MR := hid MR
              by_cases hlt : j < ny
              · have hsn := hid (show (ptsOf fl xs ys).take (j + 1) = (ptsOf fl xs ys).take j ++ [(xs.getD j 0, ys.getD j 0, bitB (fl.getD j 0) 1)] from by
                  have hl := hfl.out
                  rw [List.take_succ_eq_append_getElem (by simp [ptsOf, hl]; exact hlt)]
                  simp [ptsOf])
                obtain ⟨f0, f1⟩ := hfB.out.get j
                obtain ⟨-, -, a1⟩ := and_flag f0 f1
                obtain ⟨adf, rfl⟩ := MR.out.beside.row_ad (e := 5) (A := Af) (n := ny) (c := cf) (vs := ints .u8 fl) (by simp) (by omega)
                obtain ⟨adx, rfl⟩ := MR.out.beside.row_ad (e := 36) (A := Ax) (n := ny) (c := cx) (vs := ints .i16 xs) (by simp) (by omega)
                obtain ⟨ady, rfl⟩ := MR.out.beside.row_ad (e := 36) (A := Ay) (n := ny) (c := cy) (vs := ints .i16 ys) (by simp) (by omega)
                obtain ⟨f, hf⟩ : ∃ f, fl.getD j 0 = f := ⟨_, rfl⟩
                obtain ⟨x, hx⟩ : ∃ x, xs.getD j 0 = x := ⟨_, rfl⟩
                obtain ⟨y, hy⟩ : ∃ y, ys.getD j 0 = y := ⟨_, rfl⟩
                have hcf := MR.out.beside.at (e := 5) (k := .u8) (xs := fl) (n := ny) (c := cf) (ad := adf) (by simp) hfl.out hlt hf
                have hcx := MR.out.beside.at (e := 36) (k := .i16) (xs := xs) (n := ny) (c := cx) (ad := adx) (by simp) hxl.out hlt hx
                have hcy := MR.out.beside.at (e := 36) (k := .i16) (xs := ys) (n := ny) (c := cy) (ad := ady) (by simp) hyl.out hlt hy
                rw [hf] at f0 f1 a1
                rw [hf, hx, hy] at hsn
                replace hf := hid hf
                replace hx := hid hx
                replace hy := hid hy
                obtain ⟨c6, -⟩ := MR.out.cellf (g := m) (t := 52) (cs := gA gx (.slice Ae N ce) (.slice Ap np cp) (.slice A j c)) (by simp) 6
                have c6 : wr.cell? ⟨m, 6, none⟩ = some (.slice A j c) := c6
                obtain ⟨v6, a6, b6, MO, e1, e2, e3⟩ := MR.out.opened
                have hnx : (adx.add j).block ≠ (⟨m, 6, none⟩ : Addr).block := MO.tail.row_ne (e := 36) (sz := 1) (n := ny) (c := cx) (vs := ints .i16 xs) (by simp)
                have hny : (ady.add j).block ≠ (⟨m, 6, none⟩ : Addr).block := MO.tail.row_ne (e := 36) (sz := 1) (n := ny) (c := cy) (vs := ints .i16 ys) (by simp)
                replace MO := hid MO
                replace e1 := hid e1
                replace e2 := hid e2
                replace e3 := hid e3
                cases ho : bitB f 1
                · rw [ho] at a1 hsn
                  simp only [Bool.false_eq_true, if_false] at a1
                  go_upto_region 23 with fail
                  have MW := hid MO.out.drew
                  clear MO MR
                  refine wp_region_until (S := fun w' => w'.cell? ⟨m, 6, none⟩ = some (.slice A j c) ∧ w'.cell? (adx.add j) = some (.int .i16 x) ∧ w'.cell? (ady.add j) = some (.int .i16 y)) 17 (by kernel_rfl) ⟨c6, hcx, hcy⟩ (fun hHeld => ?_)
                  clear c6 hcx hcy
                  repeat (first | (refine wpAnyV_take (i := 0) (v := ?_) rfl (by kernel_rfl) (by decide +kernel) (by decide +kernel) [] (by decide +kernel) (by decide +kernel) (by decide) (fun _ _ _ h => h) ?_ (by assumption) ?_; rotate_left; (first | (refine yields_load (by rfl) rfl rfl ?_; intro w hSw; (try dsimp only at hSw); go_split_ands; assumption) | (refine Or.inl ⟨by rfl, ?_⟩; intro w hSw; (try dsimp only at hSw); go_simp; done) | (refine Or.inl ⟨by rfl, ?_⟩; intro w hSw; (try dsimp only at hSw); go_simp; with_reducible rfl) | exact Or.inr ⟨by rfl, rfl⟩ | exact Or.inr ⟨by rfl, by rfl⟩); (try simp only [Act.put, List.setIfInBounds_toArray, List.set_cons_zero, List.set_cons_succ, List.getElem_toArray, List.getElem_cons_zero, List.getElem_cons_succ])) | (refine wpAnyV_take (i := 1) (v := ?_) rfl (by kernel_rfl) (by decide +kernel) (by decide +kernel) [] (by decide +kernel) (by decide +kernel) (by decide) (fun _ _ _ h => h) ?_ (by assumption) ?_; rotate_left; (first | (refine yields_load (by rfl) rfl rfl ?_; intro w hSw; (try dsimp only at hSw); go_split_ands; assumption) | (refine Or.inl ⟨by rfl, ?_⟩; intro w hSw; (try dsimp only at hSw); go_simp; done) | (refine Or.inl ⟨by rfl, ?_⟩; intro w hSw; (try dsimp only at hSw); go_simp; with_reducible rfl) | exact Or.inr ⟨by rfl, rfl⟩ | exact Or.inr ⟨by rfl, by rfl⟩); (try simp only [Act.put, List.setIfInBounds_toArray, List.set_cons_zero, List.set_cons_succ, List.getElem_toArray, List.getElem_cons_zero, List.getElem_cons_succ])) | (refine wpAnyV_take (i := 2) (v := ?_) rfl (by kernel_rfl) (by decide +kernel) (by decide +kernel) [] (by decide +kernel) (by decide +kernel) (by decide) (fun _ _ _ h => h) ?_ (by assumption) ?_; rotate_left; (first | (refine yields_load (by rfl) rfl rfl ?_; intro w hSw; (try dsimp only at hSw); go_split_ands; assumption) | (refine Or.inl ⟨by rfl, ?_⟩; intro w hSw; (try dsimp only at hSw); go_simp; done) | (refine Or.inl ⟨by rfl, ?_⟩; intro w hSw; (try dsimp only at hSw); go_simp; with_reducible rfl) | exact Or.inr ⟨by rfl, rfl⟩ | exact Or.inr ⟨by rfl, by rfl⟩); (try simp only [Act.put, List.setIfInBounds_toArray, List.set_cons_zero, List.set_cons_succ, List.getElem_toArray, List.getElem_cons_zero, List.getElem_cons_succ])) | (refine wpAnyV_take (i := 3) (v := ?_) rfl (by kernel_rfl) (by decide +kernel) (by decide +kernel) [] (by decide +kernel) (by decide +kernel) (by decide) (fun _ _ _ h => h) ?_ (by assumption) ?_; rotate_left; (first | (refine yields_load (by rfl) rfl rfl ?_; intro w hSw; (try dsimp only at hSw); go_split_ands; assumption) | (refine Or.inl ⟨by rfl, ?_⟩; intro w hSw; (try dsimp only at hSw); go_simp; done) | (refine Or.inl ⟨by rfl, ?_⟩; intro w hSw; (try dsimp only at hSw); go_simp; with_reducible rfl) | exact Or.inr ⟨by rfl, rfl⟩ | exact Or.inr ⟨by rfl, by rfl⟩); (try simp only [Act.put, List.setIfInBounds_toArray, List.set_cons_zero, List.set_cons_succ, List.getElem_toArray, List.getElem_cons_zero, List.getElem_cons_succ])) | (refine wpAnyV_take (i := 4) (v := ?_) rfl (by kernel_rfl) (by decide +kernel) (by decide +kernel) [] (by decide +kernel) (by decide +kernel) (by decide) (fun _ _ _ h => h) ?_ (by assumption) ?_; rotate_left; (first | (refine yields_load (by rfl) rfl rfl ?_; intro w hSw; (try dsimp only at hSw); go_split_ands; assumption) | (refine Or.inl ⟨by rfl, ?_⟩; intro w hSw; (try dsimp only at hSw); go_simp; done) | (refine Or.inl ⟨by rfl, ?_⟩; intro w hSw; (try dsimp only at hSw); go_simp; with_reducible rfl) | exact Or.inr ⟨by rfl, rfl⟩ | exact Or.inr ⟨by rfl, by rfl⟩); (try simp only [Act.put, List.setIfInBounds_toArray, List.set_cons_zero, List.set_cons_succ, List.getElem_toArray, List.getElem_cons_zero, List.getElem_cons_succ])) | (refine wpAnyV_take (i := 5) (v := ?_) rfl (by kernel_rfl) (by decide +kernel) (by decide +kernel) [] (by decide +kernel) (by decide +kernel) (by decide) (fun _ _ _ h => h) ?_ (by assumption) ?_; rotate_left; (first | (refine yields_load (by rfl) rfl rfl ?_; intro w hSw; (try dsimp only at hSw); go_split_ands; assumption) | (refine Or.inl ⟨by rfl, ?_⟩; intro w hSw; (try dsimp only at hSw); go_simp; done) | (refine Or.inl ⟨by rfl, ?_⟩; intro w hSw; (try dsimp only at hSw); go_simp; with_reducible rfl) | exact Or.inr ⟨by rfl, rfl⟩ | exact Or.inr ⟨by rfl, by rfl⟩); (try simp only [Act.put, List.setIfInBounds_toArray, List.set_cons_zero, List.set_cons_succ, List.getElem_toArray, List.getElem_cons_zero, List.getElem_cons_succ])) | (refine wpAnyV_take (i := 6) (v := ?_) rfl (by kernel_rfl) (by decide +kernel) (by decide +kernel) [] (by decide +kernel) (by decide +kernel) (by decide) (fun _ _ _ h => h) ?_ (by assumption) ?_; rotate_left; (first | (refine yields_load (by rfl) rfl rfl ?_; intro w hSw; (try dsimp only at hSw); go_split_ands; assumption) | (refine Or.inl ⟨by rfl, ?_⟩; intro w hSw; (try dsimp only at hSw); go_simp; done) | (refine Or.inl ⟨by rfl, ?_⟩; intro w hSw; (try dsimp only at hSw); go_simp; with_reducible rfl) | exact Or.inr ⟨by rfl, rfl⟩ | exact Or.inr ⟨by rfl, by rfl⟩); (try simp only [Act.put, List.setIfInBounds_toArray, List.set_cons_zero, List.set_cons_succ, List.getElem_toArray, List.getElem_cons_zero, List.getElem_cons_succ])) | (refine wpAnyV_take (i := 7) (v := ?_) rfl (by kernel_rfl) (by decide +kernel) (by decide +kernel) [] (by decide +kernel) (by decide +kernel) (by decide) (fun _ _ _ h => h) ?_ (by assumption) ?_; rotate_left; (first | (refine yields_load (by rfl) rfl rfl ?_; intro w hSw; (try dsimp only at hSw); go_split_ands; assumption) | (refine Or.inl ⟨by rfl, ?_⟩; intro w hSw; (try dsimp only at hSw); go_simp; done) | (refine Or.inl ⟨by rfl, ?_⟩; intro w hSw; (try dsimp only at hSw); go_simp; with_reducible rfl) | exact Or.inr ⟨by rfl, rfl⟩ | exact Or.inr ⟨by rfl, by rfl⟩); (try simp only [Act.put, List.setIfInBounds_toArray, List.set_cons_zero, List.set_cons_succ, List.getElem_toArray, List.getElem_cons_zero, List.getElem_cons_succ])) | (refine wpAnyV_take (i := 8) (v := ?_) rfl (by kernel_rfl) (by decide +kernel) (by decide +kernel) [] (by decide +kernel) (by decide +kernel) (by decide) (fun _ _ _ h => h) ?_ (by assumption) ?_; rotate_left; (first | (refine yields_load (by rfl) rfl rfl ?_; intro w hSw; (try dsimp only at hSw); go_split_ands; assumption) | (refine Or.inl ⟨by rfl, ?_⟩; intro w hSw; (try dsimp only at hSw); go_simp; done) | (refine Or.inl ⟨by rfl, ?_⟩; intro w hSw; (try dsimp only at hSw); go_simp; with_reducible rfl) | exact Or.inr ⟨by rfl, rfl⟩ | exact Or.inr ⟨by rfl, by rfl⟩); (try simp only [Act.put, List.setIfInBounds_toArray, List.set_cons_zero, List.set_cons_succ, List.getElem_toArray, List.getElem_cons_zero, List.getElem_cons_succ])) | (refine wpAnyV_take (i := 9) (v := ?_) rfl (by kernel_rfl) (by decide +kernel) (by decide +kernel) [] (by decide +kernel) (by decide +kernel) (by decide) (fun _ _ _ h => h) ?_ (by assumption) ?_; rotate_left; (first | (refine yields_load (by rfl) rfl rfl ?_; intro w hSw; (try dsimp only at hSw); go_split_ands; assumption) | (refine Or.inl ⟨by rfl, ?_⟩; intro w hSw; (try dsimp only at hSw); go_simp; done) | (refine Or.inl ⟨by rfl, ?_⟩; intro w hSw; (try dsimp only at hSw); go_simp; with_reducible rfl) | exact Or.inr ⟨by rfl, rfl⟩ | exact Or.inr ⟨by rfl, by rfl⟩); (try simp only [Act.put, List.setIfInBounds_toArray, List.set_cons_zero, List.set_cons_succ, List.getElem_toArray, List.getElem_cons_zero, List.getElem_cons_succ])) | (refine wpAnyV_take (i := 10) (v := ?_) rfl (by kernel_rfl) (by decide +kernel) (by decide +kernel) [] (by decide +kernel) (by decide +kernel) (by decide) (fun _ _ _ h => h) ?_ (by assumption) ?_; rotate_left; (first | (refine yields_load (by rfl) rfl rfl ?_; intro w hSw; (try dsimp only at hSw); go_split_ands; assumption) | (refine Or.inl ⟨by rfl, ?_⟩; intro w hSw; (try dsimp only at hSw); go_simp; done) | (refine Or.inl ⟨by rfl, ?_⟩; intro w hSw; (try dsimp only at hSw); go_simp; with_reducible rfl) | exact Or.inr ⟨by rfl, rfl⟩ | exact Or.inr ⟨by rfl, by rfl⟩); (try simp only [Act.put, List.setIfInBounds_toArray, List.set_cons_zero, List.set_cons_succ, List.getElem_toArray, List.getElem_cons_zero, List.getElem_cons_succ])) | (refine wpAnyV_take (i := 11) (v := ?_) rfl (by kernel_rfl) (by decide +kernel) (by decide +kernel) [] (by decide +kernel) (by decide +kernel) (by decide) (fun _ _ _ h => h) ?_ (by assumption) ?_; rotate_left; (first | (refine yields_load (by rfl) rfl rfl ?_; intro w hSw; (try dsimp only at hSw); go_split_ands; assumption) | (refine Or.inl ⟨by rfl, ?_⟩; intro w hSw; (try dsimp only at hSw); go_simp; done) | (refine Or.inl ⟨by rfl, ?_⟩; intro w hSw; (try dsimp only at hSw); go_simp; with_reducible rfl) | exact Or.inr ⟨by rfl, rfl⟩ | exact Or.inr ⟨by rfl, by rfl⟩); (try simp only [Act.put, List.setIfInBounds_toArray, List.set_cons_zero, List.set_cons_succ, List.getElem_toArray, List.getElem_cons_zero, List.getElem_cons_succ])) | (refine wpAnyV_take (i := 12) (v := ?_) rfl (by kernel_rfl) (by decide +kernel) (by decide +kernel) [] (by decide +kernel) (by decide +kernel) (by decide) (fun _ _ _ h => h) ?_ (by assumption) ?_; rotate_left; (first | (refine yields_load (by rfl) rfl rfl ?_; intro w hSw; (try dsimp only at hSw); go_split_ands; assumption) | (refine Or.inl ⟨by rfl, ?_⟩; intro w hSw; (try dsimp only at hSw); go_simp; done) | (refine Or.inl ⟨by rfl, ?_⟩; intro w hSw; (try dsimp only at hSw); go_simp; with_reducible rfl) | exact Or.inr ⟨by rfl, rfl⟩ | exact Or.inr ⟨by rfl, by rfl⟩); (try simp only [Act.put, List.setIfInBounds_toArray, List.set_cons_zero, List.set_cons_succ, List.getElem_toArray, List.getElem_cons_zero, List.getElem_cons_succ])) | (refine wpAnyV_take (i := 13) (v := ?_) rfl (by kernel_rfl) (by decide +kernel) (by decide +kernel) [] (by decide +kernel) (by decide +kernel) (by decide) (fun _ _ _ h => h) ?_ (by assumption) ?_; rotate_left; (first | (refine yields_load (by rfl) rfl rfl ?_; intro w hSw; (try dsimp only at hSw); go_split_ands; assumption) | (refine Or.inl ⟨by rfl, ?_⟩; intro w hSw; (try dsimp only at hSw); go_simp; done) | (refine Or.inl ⟨by rfl, ?_⟩; intro w hSw; (try dsimp only at hSw); go_simp; with_reducible rfl) | exact Or.inr ⟨by rfl, rfl⟩ | exact Or.inr ⟨by rfl, by rfl⟩); (try simp only [Act.put, List.setIfInBounds_toArray, List.set_cons_zero, List.set_cons_succ, List.getElem_toArray, List.getElem_cons_zero, List.getElem_cons_succ])))
                  refine wpAnyV_ready (rs := [14]) (by decide +kernel) (by simp) ?_; refine (AllReadyV.cons rfl (by decide) (fun K hK => ?_) AllReadyV.nil)
                  go_simp
                  have M3 := hid (MW.out.alloc 55 #[.int .i16 x, .int .i16 y, .bool false])
                  have hc := And.intro (M3.out.cell (g := m) (t := 52) (cs := gA gx (.slice Ae N ce) (.slice Ap np cp) (.slice A j c)) (by simp) 6) (And.intro (M3.out.at (e := 36) (k := .i16) (xs := xs) (n := ny) (c := cx) (ad := adx) (by simp) hxl.out hlt hx.out) (M3.out.at (e := 36) (k := .i16) (xs := ys) (n := ny) (c := cy) (ad := ady) (by simp) hyl.out hlt hy.out))
                  refine hK.out _ _ hc (fun hHeld => ?_); clear hK K; (try simp only [Act.put, List.setIfInBounds_toArray, List.set_cons_zero, List.set_cons_succ, List.getElem_toArray, List.getElem_cons_zero, List.getElem_cons_succ])
                  clear hc
                  refine wpAnyV_ready (rs := [15]) (by decide +kernel) (by simp) ?_; refine (AllReadyV.cons rfl (by decide) (fun K hK => ?_) AllReadyV.nil)
                  refine step_append_Own (by rfl) (.tmp 94) (.tmp 107) _ rfl sized_spot rfl rfl (L1 := [.blk wr.heap.size 55 #[.int .i16 x, .int .i16 y, .bool false]]) (L2 := .blk m 52 (gA gx (.slice Ae N ce) (.slice Ap np cp) (.slice A j c)) :: ([.row 36 1 (.slice (some ady) ny cy) ny (ints .i16 ys), .row 36 1 (.slice (some adx) ny cx) ny (ints .i16 xs), .row 5 1 (.slice (some adf) ny cf) ny (ints .u8 fl), .row 5 1 (.slice Ap np cp) np (ints .u8 pb), .row 34 1 (.slice Ae N ce) N (ints .u16 (u16s l 10 N)), .blk m0 52 gNil] ++ rdE b v6 l a6 b6)) M3.out (SliceAt.built M3.out (.head _) 3 1 rfl (by unfold maxLen; omega)) (one_all rfl) (by unfold maxLen; omega) (by omega) ?_
                  intro v' w' M'
                  obtain ⟨A7, c7, rfl⟩ := M'.tail.form (.head _)
                  have M7 := hid M'.tail
                  clear M'
                  have hc := And.intro (M7.out.cell (g := m) (t := 52) (cs := gA gx (.slice Ae N ce) (.slice Ap np cp) (.slice A j c)) (by simp) 6) (And.intro (M7.out.at (e := 36) (k := .i16) (xs := xs) (n := ny) (c := cx) (ad := adx) (by simp) hxl.out hlt hx.out) (M7.out.at (e := 36) (k := .i16) (xs := ys) (n := ny) (c := cy) (ad := ady) (by simp) hyl.out hlt hy.out))
                  refine hK.out _ _ hc (fun hHeld => ?_); clear hK K; (try simp only [Act.put, List.setIfInBounds_toArray, List.set_cons_zero, List.set_cons_succ, List.getElem_toArray, List.getElem_cons_zero, List.getElem_cons_succ])
                  clear hc
                  have c6 : w'.cell? ⟨m, 6, none⟩ = some (.slice A j c) := M7.out.cell (g := m) (t := 52) (cs := gA gx (.slice Ae N ce) (.slice Ap np cp) (.slice A j c)) (by simp) 6
                  have f6 := M7.out.free (g := m) (t := 52) (cs := gA gx (.slice Ae N ce) (.slice Ap np cp) (.slice A j c)) (by simp) 6
                  repeat (first | (refine wpAnyV_take (i := 16) (v := ?_) rfl (by kernel_rfl) (by decide +kernel) (by decide +kernel) [] (by decide +kernel) (by decide +kernel) (by decide) (fun _ _ _ h => h) ?_ (by assumption) ?_; rotate_left; (first | (refine yields_load (by rfl) rfl rfl ?_; intro w hSw; (try dsimp only at hSw); go_split_ands; assumption) | (refine Or.inl ⟨by rfl, ?_⟩; intro w hSw; (try dsimp only at hSw); go_simp; done) | (refine Or.inl ⟨by rfl, ?_⟩; intro w hSw; (try dsimp only at hSw); go_simp; with_reducible rfl) | exact Or.inr ⟨by rfl, rfl⟩ | exact Or.inr ⟨by rfl, by rfl⟩); (try simp only [Act.put, List.setIfInBounds_toArray, List.set_cons_zero, List.set_cons_succ, List.getElem_toArray, List.getElem_cons_zero, List.getElem_cons_succ])))
                  refine wpAnyV_ready (rs := [17]) (by decide +kernel) (by simp) ?_; refine AllReadyV.last rfl (fun K hK => ?_); go_simp
                  refine hK.out _ _ (fun hHeld => ?_); clear hK K; (try simp only [Act.put, List.setIfInBounds_toArray, List.set_cons_zero, List.set_cons_succ, List.getElem_toArray, List.getElem_cons_zero, List.getElem_cons_succ])
                  refine wpAnyH_done (by kernel_rfl) ?_ _
                  go_wp2_with fail
                  go_roundw
                  case rel => exact ⟨j + 1, by omega, by go_num, hid ⟨A7, c7, by rw [hsn.out, spC_append]; exact RS.shut (L := [_, _, _, _, _, _, _, _]) (M7.out.set (L1 := [_]) 6 (.slice A7 (j + 1) c7)) e1.out e2.out e3.out⟩⟩
                  case measure => simp [intOf] <;> omega
                · rw [ho] at a1 hsn
                  simp only [if_true] at a1
                  go_upto_region 23 with fail
                  have MW := hid MO.out.drew
                  clear MO MR
                  refine wp_region_until (S := fun w' => w'.cell? ⟨m, 6, none⟩ = some (.slice A j c) ∧ w'.cell? (adx.add j) = some (.int .i16 x) ∧ w'.cell? (ady.add j) = some (.int .i16 y)) 17 (by kernel_rfl) ⟨c6, hcx, hcy⟩ (fun hHeld => ?_)
                  clear c6 hcx hcy
                  repeat (first | (refine wpAnyV_take (i := 0) (v := ?_) rfl (by kernel_rfl) (by decide +kernel) (by decide +kernel) [] (by decide +kernel) (by decide +kernel) (by decide) (fun _ _ _ h => h) ?_ (by assumption) ?_; rotate_left; (first | (refine yields_load (by rfl) rfl rfl ?_; intro w hSw; (try dsimp only at hSw); go_split_ands; assumption) | (refine Or.inl ⟨by rfl, ?_⟩; intro w hSw; (try dsimp only at hSw); go_simp; done) | (refine Or.inl ⟨by rfl, ?_⟩; intro w hSw; (try dsimp only at hSw); go_simp; with_reducible rfl) | exact Or.inr ⟨by rfl, rfl⟩ | exact Or.inr ⟨by rfl, by rfl⟩); (try simp only [Act.put, List.setIfInBounds_toArray, List.set_cons_zero, List.set_cons_succ, List.getElem_toArray, List.getElem_cons_zero, List.getElem_cons_succ])) | (refine wpAnyV_take (i := 1) (v := ?_) rfl (by kernel_rfl) (by decide +kernel) (by decide +kernel) [] (by decide +kernel) (by decide +kernel) (by decide) (fun _ _ _ h => h) ?_ (by assumption) ?_; rotate_left; (first | (refine yields_load (by rfl) rfl rfl ?_; intro w hSw; (try dsimp only at hSw); go_split_ands; assumption) | (refine Or.inl ⟨by rfl, ?_⟩; intro w hSw; (try dsimp only at hSw); go_simp; done) | (refine Or.inl ⟨by rfl, ?_⟩; intro w hSw; (try dsimp only at hSw); go_simp; with_reducible rfl) | exact Or.inr ⟨by rfl, rfl⟩ | exact Or.inr ⟨by rfl, by rfl⟩); (try simp only [Act.put, List.setIfInBounds_toArray, List.set_cons_zero, List.set_cons_succ, List.getElem_toArray, List.getElem_cons_zero, List.getElem_cons_succ])) | (refine wpAnyV_take (i := 2) (v := ?_) rfl (by kernel_rfl) (by decide +kernel) (by decide +kernel) [] (by decide +kernel) (by decide +kernel) (by decide) (fun _ _ _ h => h) ?_ (by assumption) ?_; rotate_left; (first | (refine yields_load (by rfl) rfl rfl ?_; intro w hSw; (try dsimp only at hSw); go_split_ands; assumption) | (refine Or.inl ⟨by rfl, ?_⟩; intro w hSw; (try dsimp only at hSw); go_simp; done) | (refine Or.inl ⟨by rfl, ?_⟩; intro w hSw; (try dsimp only at hSw); go_simp; with_reducible rfl) | exact Or.inr ⟨by rfl, rfl⟩ | exact Or.inr ⟨by rfl, by rfl⟩); (try simp only [Act.put, List.setIfInBounds_toArray, List.set_cons_zero, List.set_cons_succ, List.getElem_toArray, List.getElem_cons_zero, List.getElem_cons_succ])) | (refine wpAnyV_take (i := 3) (v := ?_) rfl (by kernel_rfl) (by decide +kernel) (by decide +kernel) [] (by decide +kernel) (by decide +kernel) (by decide) (fun _ _ _ h => h) ?_ (by assumption) ?_; rotate_left; (first | (refine yields_load (by rfl) rfl rfl ?_; intro w hSw; (try dsimp only at hSw); go_split_ands; assumption) | (refine Or.inl ⟨by rfl, ?_⟩; intro w hSw; (try dsimp only at hSw); go_simp; done) | (refine Or.inl ⟨by rfl, ?_⟩; intro w hSw; (try dsimp only at hSw); go_simp; with_reducible rfl) | exact Or.inr ⟨by rfl, rfl⟩ | exact Or.inr ⟨by rfl, by rfl⟩); (try simp only [Act.put, List.setIfInBounds_toArray, List.set_cons_zero, List.set_cons_succ, List.getElem_toArray, List.getElem_cons_zero, List.getElem_cons_succ])) | (refine wpAnyV_take (i := 4) (v := ?_) rfl (by kernel_rfl) (by decide +kernel) (by decide +kernel) [] (by decide +kernel) (by decide +kernel) (by decide) (fun _ _ _ h => h) ?_ (by assumption) ?_; rotate_left; (first | (refine yields_load (by rfl) rfl rfl ?_; intro w hSw; (try dsimp only at hSw); go_split_ands; assumption) | (refine Or.inl ⟨by rfl, ?_⟩; intro w hSw; (try dsimp only at hSw); go_simp; done) | (refine Or.inl ⟨by rfl, ?_⟩; intro w hSw; (try dsimp only at hSw); go_simp; with_reducible rfl) | exact Or.inr ⟨by rfl, rfl⟩ | exact Or.inr ⟨by rfl, by rfl⟩); (try simp only [Act.put, List.setIfInBounds_toArray, List.set_cons_zero, List.set_cons_succ, List.getElem_toArray, List.getElem_cons_zero, List.getElem_cons_succ])) | (refine wpAnyV_take (i := 5) (v := ?_) rfl (by kernel_rfl) (by decide +kernel) (by decide +kernel) [] (by decide +kernel) (by decide +kernel) (by decide) (fun _ _ _ h => h) ?_ (by assumption) ?_; rotate_left; (first | (refine yields_load (by rfl) rfl rfl ?_; intro w hSw; (try dsimp only at hSw); go_split_ands; assumption) | (refine Or.inl ⟨by rfl, ?_⟩; intro w hSw; (try dsimp only at hSw); go_simp; done) | (refine Or.inl ⟨by rfl, ?_⟩; intro w hSw; (try dsimp only at hSw); go_simp; with_reducible rfl) | exact Or.inr ⟨by rfl, rfl⟩ | exact Or.inr ⟨by rfl, by rfl⟩); (try simp only [Act.put, List.setIfInBounds_toArray, List.set_cons_zero, List.set_cons_succ, List.getElem_toArray, List.getElem_cons_zero, List.getElem_cons_succ])) | (refine wpAnyV_take (i := 6) (v := ?_) rfl (by kernel_rfl) (by decide +kernel) (by decide +kernel) [] (by decide +kernel) (by decide +kernel) (by decide) (fun _ _ _ h => h) ?_ (by assumption) ?_; rotate_left; (first | (refine yields_load (by rfl) rfl rfl ?_; intro w hSw; (try dsimp only at hSw); go_split_ands; assumption) | (refine Or.inl ⟨by rfl, ?_⟩; intro w hSw; (try dsimp only at hSw); go_simp; done) | (refine Or.inl ⟨by rfl, ?_⟩; intro w hSw; (try dsimp only at hSw); go_simp; with_reducible rfl) | exact Or.inr ⟨by rfl, rfl⟩ | exact Or.inr ⟨by rfl, by rfl⟩); (try simp only [Act.put, List.setIfInBounds_toArray, List.set_cons_zero, List.set_cons_succ, List.getElem_toArray, List.getElem_cons_zero, List.getElem_cons_succ])) | (refine wpAnyV_take (i := 7) (v := ?_) rfl (by kernel_rfl) (by decide +kernel) (by decide +kernel) [] (by decide +kernel) (by decide +kernel) (by decide) (fun _ _ _ h => h) ?_ (by assumption) ?_; rotate_left; (first | (refine yields_load (by rfl) rfl rfl ?_; intro w hSw; (try dsimp only at hSw); go_split_ands; assumption) | (refine Or.inl ⟨by rfl, ?_⟩; intro w hSw; (try dsimp only at hSw); go_simp; done) | (refine Or.inl ⟨by rfl, ?_⟩; intro w hSw; (try dsimp only at hSw); go_simp; with_reducible rfl) | exact Or.inr ⟨by rfl, rfl⟩ | exact Or.inr ⟨by rfl, by rfl⟩); (try simp only [Act.put, List.setIfInBounds_toArray, List.set_cons_zero, List.set_cons_succ, List.getElem_toArray, List.getElem_cons_zero, List.getElem_cons_succ])) | (refine wpAnyV_take (i := 8) (v := ?_) rfl (by kernel_rfl) (by decide +kernel) (by decide +kernel) [] (by decide +kernel) (by decide +kernel) (by decide) (fun _ _ _ h => h) ?_ (by assumption) ?_; rotate_left; (first | (refine yields_load (by rfl) rfl rfl ?_; intro w hSw; (try dsimp only at hSw); go_split_ands; assumption) | (refine Or.inl ⟨by rfl, ?_⟩; intro w hSw; (try dsimp only at hSw); go_simp; done) | (refine Or.inl ⟨by rfl, ?_⟩; intro w hSw; (try dsimp only at hSw); go_simp; with_reducible rfl) | exact Or.inr ⟨by rfl, rfl⟩ | exact Or.inr ⟨by rfl, by rfl⟩); (try simp only [Act.put, List.setIfInBounds_toArray, List.set_cons_zero, List.set_cons_succ, List.getElem_toArray, List.getElem_cons_zero, List.getElem_cons_succ])) | (refine wpAnyV_take (i := 9) (v := ?_) rfl (by kernel_rfl) (by decide +kernel) (by decide +kernel) [] (by decide +kernel) (by decide +kernel) (by decide) (fun _ _ _ h => h) ?_ (by assumption) ?_; rotate_left; (first | (refine yields_load (by rfl) rfl rfl ?_; intro w hSw; (try dsimp only at hSw); go_split_ands; assumption) | (refine Or.inl ⟨by rfl, ?_⟩; intro w hSw; (try dsimp only at hSw); go_simp; done) | (refine Or.inl ⟨by rfl, ?_⟩; intro w hSw; (try dsimp only at hSw); go_simp; with_reducible rfl) | exact Or.inr ⟨by rfl, rfl⟩ | exact Or.inr ⟨by rfl, by rfl⟩); (try simp only [Act.put, List.setIfInBounds_toArray, List.set_cons_zero, List.set_cons_succ, List.getElem_toArray, List.getElem_cons_zero, List.getElem_cons_succ])) | (refine wpAnyV_take (i := 10) (v := ?_) rfl (by kernel_rfl) (by decide +kernel) (by decide +kernel) [] (by decide +kernel) (by decide +kernel) (by decide) (fun _ _ _ h => h) ?_ (by assumption) ?_; rotate_left; (first | (refine yields_load (by rfl) rfl rfl ?_; intro w hSw; (try dsimp only at hSw); go_split_ands; assumption) | (refine Or.inl ⟨by rfl, ?_⟩; intro w hSw; (try dsimp only at hSw); go_simp; done) | (refine Or.inl ⟨by rfl, ?_⟩; intro w hSw; (try dsimp only at hSw); go_simp; with_reducible rfl) | exact Or.inr ⟨by rfl, rfl⟩ | exact Or.inr ⟨by rfl, by rfl⟩); (try simp only [Act.put, List.setIfInBounds_toArray, List.set_cons_zero, List.set_cons_succ, List.getElem_toArray, List.getElem_cons_zero, List.getElem_cons_succ])) | (refine wpAnyV_take (i := 11) (v := ?_) rfl (by kernel_rfl) (by decide +kernel) (by decide +kernel) [] (by decide +kernel) (by decide +kernel) (by decide) (fun _ _ _ h => h) ?_ (by assumption) ?_; rotate_left; (first | (refine yields_load (by rfl) rfl rfl ?_; intro w hSw; (try dsimp only at hSw); go_split_ands; assumption) | (refine Or.inl ⟨by rfl, ?_⟩; intro w hSw; (try dsimp only at hSw); go_simp; done) | (refine Or.inl ⟨by rfl, ?_⟩; intro w hSw; (try dsimp only at hSw); go_simp; with_reducible rfl) | exact Or.inr ⟨by rfl, rfl⟩ | exact Or.inr ⟨by rfl, by rfl⟩); (try simp only [Act.put, List.setIfInBounds_toArray, List.set_cons_zero, List.set_cons_succ, List.getElem_toArray, List.getElem_cons_zero, List.getElem_cons_succ])) | (refine wpAnyV_take (i := 12) (v := ?_) rfl (by kernel_rfl) (by decide +kernel) (by decide +kernel) [] (by decide +kernel) (by decide +kernel) (by decide) (fun _ _ _ h => h) ?_ (by assumption) ?_; rotate_left; (first | (refine yields_load (by rfl) rfl rfl ?_; intro w hSw; (try dsimp only at hSw); go_split_ands; assumption) | (refine Or.inl ⟨by rfl, ?_⟩; intro w hSw; (try dsimp only at hSw); go_simp; done) | (refine Or.inl ⟨by rfl, ?_⟩; intro w hSw; (try dsimp only at hSw); go_simp; with_reducible rfl) | exact Or.inr ⟨by rfl, rfl⟩ | exact Or.inr ⟨by rfl, by rfl⟩); (try simp only [Act.put, List.setIfInBounds_toArray, List.set_cons_zero, List.set_cons_succ, List.getElem_toArray, List.getElem_cons_zero, List.getElem_cons_succ])) | (refine wpAnyV_take (i := 13) (v := ?_) rfl (by kernel_rfl) (by decide +kernel) (by decide +kernel) [] (by decide +kernel) (by decide +kernel) (by decide) (fun _ _ _ h => h) ?_ (by assumption) ?_; rotate_left; (first | (refine yields_load (by rfl) rfl rfl ?_; intro w hSw; (try dsimp only at hSw); go_split_ands; assumption) | (refine Or.inl ⟨by rfl, ?_⟩; intro w hSw; (try dsimp only at hSw); go_simp; done) | (refine Or.inl ⟨by rfl, ?_⟩; intro w hSw; (try dsimp only at hSw); go_simp; with_reducible rfl) | exact Or.inr ⟨by rfl, rfl⟩ | exact Or.inr ⟨by rfl, by rfl⟩); (try simp only [Act.put, List.setIfInBounds_toArray, List.set_cons_zero, List.set_cons_succ, List.getElem_toArray, List.getElem_cons_zero, List.getElem_cons_succ])))
                  refine wpAnyV_ready (rs := [14]) (by decide +kernel) (by simp) ?_; refine (AllReadyV.cons rfl (by decide) (fun K hK => ?_) AllReadyV.nil)
                  go_simp
                  have M3 := hid (MW.out.alloc 55 #[.int .i16 x, .int .i16 y, .bool true])
                  have hc := And.intro (M3.out.cell (g := m) (t := 52) (cs := gA gx (.slice Ae N ce) (.slice Ap np cp) (.slice A j c)) (by simp) 6) (And.intro (M3.out.at (e := 36) (k := .i16) (xs := xs) (n := ny) (c := cx) (ad := adx) (by simp) hxl.out hlt hx.out) (M3.out.at (e := 36) (k := .i16) (xs := ys) (n := ny) (c := cy) (ad := ady) (by simp) hyl.out hlt hy.out))
                  refine hK.out _ _ hc (fun hHeld => ?_); clear hK K; (try simp only [Act.put, List.setIfInBounds_toArray, List.set_cons_zero, List.set_cons_succ, List.getElem_toArray, List.getElem_cons_zero, List.getElem_cons_succ])
                  clear hc
                  refine wpAnyV_ready (rs := [15]) (by decide +kernel) (by simp) ?_; refine (AllReadyV.cons rfl (by decide) (fun K hK => ?_) AllReadyV.nil)
                  refine step_append_Own (by rfl) (.tmp 94) (.tmp 107) _ rfl sized_spot rfl rfl (L1 := [.blk wr.heap.size 55 #[.int .i16 x, .int .i16 y, .bool true]]) (L2 := .blk m 52 (gA gx (.slice Ae N ce) (.slice Ap np cp) (.slice A j c)) :: ([.row 36 1 (.slice (some ady) ny cy) ny (ints .i16 ys), .row 36 1 (.slice (some adx) ny cx) ny (ints .i16 xs), .row 5 1 (.slice (some adf) ny cf) ny (ints .u8 fl), .row 5 1 (.slice Ap np cp) np (ints .u8 pb), .row 34 1 (.slice Ae N ce) N (ints .u16 (u16s l 10 N)), .blk m0 52 gNil] ++ rdE b v6 l a6 b6)) M3.out (SliceAt.built M3.out (.head _) 3 1 rfl (by unfold maxLen; omega)) (one_all rfl) (by unfold maxLen; omega) (by omega) ?_
                  intro v' w' M'
                  obtain ⟨A7, c7, rfl⟩ := M'.tail.form (.head _)
                  have M7 := hid M'.tail
                  clear M'
                  have hc := And.intro (M7.out.cell (g := m) (t := 52) (cs := gA gx (.slice Ae N ce) (.slice Ap np cp) (.slice A j c)) (by simp) 6) (And.intro (M7.out.at (e := 36) (k := .i16) (xs := xs) (n := ny) (c := cx) (ad := adx) (by simp) hxl.out hlt hx.out) (M7.out.at (e := 36) (k := .i16) (xs := ys) (n := ny) (c := cy) (ad := ady) (by simp) hyl.out hlt hy.out))
                  refine hK.out _ _ hc (fun hHeld => ?_); clear hK K; (try simp only [Act.put, List.setIfInBounds_toArray, List.set_cons_zero, List.set_cons_succ, List.getElem_toArray, List.getElem_cons_zero, List.getElem_cons_succ])
                  clear hc
                  have c6 : w'.cell? ⟨m, 6, none⟩ = some (.slice A j c) := M7.out.cell (g := m) (t := 52) (cs := gA gx (.slice Ae N ce) (.slice Ap np cp) (.slice A j c)) (by simp) 6
                  have f6 := M7.out.free (g := m) (t := 52) (cs := gA gx (.slice Ae N ce) (.slice Ap np cp) (.slice A j c)) (by simp) 6
                  repeat (first | (refine wpAnyV_take (i := 16) (v := ?_) rfl (by kernel_rfl) (by decide +kernel) (by decide +kernel) [] (by decide +kernel) (by decide +kernel) (by decide) (fun _ _ _ h => h) ?_ (by assumption) ?_; rotate_left; (first | (refine yields_load (by rfl) rfl rfl ?_; intro w hSw; (try dsimp only at hSw); go_split_ands; assumption) | (refine Or.inl ⟨by rfl, ?_⟩; intro w hSw; (try dsimp only at hSw); go_simp; done) | (refine Or.inl ⟨by rfl, ?_⟩; intro w hSw; (try dsimp only at hSw); go_simp; with_reducible rfl) | exact Or.inr ⟨by rfl, rfl⟩ | exact Or.inr ⟨by rfl, by rfl⟩); (try simp only [Act.put, List.setIfInBounds_toArray, List.set_cons_zero, List.set_cons_succ, List.getElem_toArray, List.getElem_cons_zero, List.getElem_cons_succ])))
                  refine wpAnyV_ready (rs := [17]) (by decide +kernel) (by simp) ?_; refine AllReadyV.last rfl (fun K hK => ?_); go_simp
                  refine hK.out _ _ (fun hHeld => ?_); clear hK K; (try simp only [Act.put, List.setIfInBounds_toArray, List.set_cons_zero, List.set_cons_succ, List.getElem_toArray, List.getElem_cons_zero, List.getElem_cons_succ])
                  refine wpAnyH_done (by kernel_rfl) ?_ _
                  go_wp2_with fail
                  go_roundw
                  case rel => exact ⟨j + 1, by omega, by go_num, hid ⟨A7, c7, by rw [hsn.out, spC_append]; exact RS.shut (L := [_, _, _, _, _, _, _, _]) (M7.out.set (L1 := [_]) 6 (.slice A7 (j + 1) c7)) e1.out e2.out e3.out⟩⟩
                  case measure => simp [intOf] <;> omega
              · obtain rfl : j = ny := by omega
                go_upto_region 25 with fail
                have MW := hid (MR.out.keep (w' := wr.drew) (Below.refl _ _).drew)
                clear MR
                obtain ⟨v6, a6, b6, MO, -, -, -⟩ := MW.out.opened
                replace MO := hid MO
                have hload := hid (fun w' (h : Below wr.drew.heap.size wr.drew w') => run_load_agg (P := Tryd.prog) agg_glyph (g := m) (off := 0) (vs := (gA gx (.slice Ae N ce) (.slice Ap np cp) (.slice A j c)).toList) ((MO.out.keep h).heap (t := 52) (cs := gA gx (.slice Ae N ce) (.slice Ap np cp) (.slice A j c)) (by simp)) rfl rfl)
                refine wp_region_until (S := fun w' => (loadVar 52 ⟨m, 0, none⟩).run Tryd.prog w' = .ok (.agg (gA gx (.slice Ae N ce) (.slice Ap np cp) (.slice A j c))) w') 3 (by kernel_rfl) (hload.out _ (Below.refl _ _)) (fun hHeld => ?_)
                repeat (first | (refine wpAnyV_take (i := 0) (v := ?_) rfl (by kernel_rfl) (by decide +kernel) (by decide +kernel) [] (by decide +kernel) (by decide +kernel) (by decide) (fun _ _ _ h => h) ?_ (by assumption) ?_; rotate_left; (first | (refine yields_load (by rfl) rfl rfl ?_; intro w hSw; (try dsimp only at hSw); go_split_ands; assumption) | (refine Or.inl ⟨by rfl, ?_⟩; intro w hSw; (try dsimp only at hSw); go_simp; done) | (refine Or.inl ⟨by rfl, ?_⟩; intro w hSw; (try dsimp only at hSw); go_simp; with_reducible rfl) | exact Or.inr ⟨by rfl, rfl⟩ | exact Or.inr ⟨by rfl, by rfl⟩); (try simp only [Act.put, List.setIfInBounds_toArray, List.set_cons_zero, List.set_cons_succ, List.getElem_toArray, List.getElem_cons_zero, List.getElem_cons_succ])))
                repeat (first | (refine wpAnyV_take (i := 1) (v := ?_) rfl (by kernel_rfl) (by decide +kernel) (by decide +kernel) [2] (by decide +kernel) (by decide +kernel) (by decide) (fun _ _ _ h => h) ?_ (by assumption) ?_; rotate_left; (first | (refine yields_load (by rfl) rfl rfl ?_; intro w hSw; (try dsimp only at hSw); go_split_ands; assumption) | (refine Or.inl ⟨by rfl, ?_⟩; intro w hSw; (try dsimp only at hSw); go_simp; done) | (refine Or.inl ⟨by rfl, ?_⟩; intro w hSw; (try dsimp only at hSw); go_simp; with_reducible rfl) | exact Or.inr ⟨by rfl, rfl⟩ | exact Or.inr ⟨by rfl, by rfl⟩); (try simp only [Act.put, List.setIfInBounds_toArray, List.set_cons_zero, List.set_cons_succ, List.getElem_toArray, List.getElem_cons_zero, List.getElem_cons_succ])))
                refine wpAnyV_ready (rs := [2]) (by decide +kernel) (by simp) ?_; refine (AllReadyV.cons rfl (by decide) (fun K hK => ?_) AllReadyV.nil)
                go_simp
                refine (RS.At MW.out).mono ?_
                rintro _ _ ⟨_, rfl, at9, ha9, rfl, rfl⟩
                go_wp2_with fail
                refine hK.out _ _ hHeld (fun hHeld => ?_); clear hK K; (try simp only [Act.put, List.setIfInBounds_toArray, List.set_cons_zero, List.set_cons_succ, List.getElem_toArray, List.getElem_cons_zero, List.getElem_cons_succ])
                refine wpAnyV_ready (rs := [3]) (by decide +kernel) (by simp) ?_
                refine AllReadyV.last rfl (fun K hK => ?_)
                refine step_store_all (n := 7) (L1 := [.row 55 3 (.slice A j c) j (spC ((ptsOf fl xs ys).take j)), .blk m 52 (gA gx (.slice Ae N ce) (.slice Ap np cp) (.slice A j c)), .row 36 1 (.slice Ay j cy) j (ints .i16 ys), .row 36 1 (.slice Ax j cx) j (ints .i16 xs), .row 5 1 (.slice Af j cf) j (ints .u8 fl), .row 5 1 (.slice Ap np cp) np (ints .u8 pb), .row 34 1 (.slice Ae N ce) N (ints .u16 (u16s l 10 N))]) (mid := gNil.toList) (vs := (gA gx (.slice Ae N ce) (.slice Ap np cp) (.slice A j c)).toList) rfl rfl (by kernel_rfl) rfl rfl rfl rfl rfl (one_all rfl) MO.out ?_
                intro w9 M
                have M9 := hid M
                clear M
                refine hK.out _ _ (fun hHeld => ?_); clear hK K; (try simp only [Act.put, List.setIfInBounds_toArray, List.set_cons_zero, List.set_cons_succ, List.getElem_toArray, List.getElem_cons_zero, List.getElem_cons_succ])
                repeat (first | (refine wpAnyH_take (i := 4) (v := ?_) rfl (by kernel_rfl) (by decide +kernel) (by decide +kernel) (fun _ _ _ h => h) ?_ (by assumption) ?_; rotate_left; (first | (refine yields_load (by rfl) rfl rfl ?_; intro w hSw; (try dsimp only at hSw); go_split_ands; assumption) | (refine Or.inl ⟨by rfl, ?_⟩; intro w hSw; (try dsimp only at hSw); go_simp; done) | (refine Or.inl ⟨by rfl, ?_⟩; intro w hSw; (try dsimp only at hSw); go_simp; with_reducible rfl) | exact Or.inr ⟨by rfl, rfl⟩ | exact Or.inr ⟨by rfl, by rfl⟩); (try simp only [Act.put, List.setIfInBounds_toArray, List.set_cons_zero, List.set_cons_succ, List.getElem_toArray, List.getElem_cons_zero, List.getElem_cons_succ])) | (refine wpAnyH_take (i := 5) (v := ?_) rfl (by kernel_rfl) (by decide +kernel) (by decide +kernel) (fun _ _ _ h => h) ?_ (by assumption) ?_; rotate_left; (first | (refine yields_load (by rfl) rfl rfl ?_; intro w hSw; (try dsimp only at hSw); go_split_ands; assumption) | (refine Or.inl ⟨by rfl, ?_⟩; intro w hSw; (try dsimp only at hSw); go_simp; done) | (refine Or.inl ⟨by rfl, ?_⟩; intro w hSw; (try dsimp only at hSw); go_simp; with_reducible rfl) | exact Or.inr ⟨by rfl, rfl⟩ | exact Or.inr ⟨by rfl, by rfl⟩); (try simp only [Act.put, List.setIfInBounds_toArray, List.set_cons_zero, List.set_cons_succ, List.getElem_toArray, List.getElem_cons_zero, List.getElem_cons_succ])))
                refine wpAnyH_done (by kernel_rfl) ?_ _
                go_wp2_with fail
                have hpl : (ptsOf fl xs ys).length = j := by simp [ptsOf, hfl.out]
                have hel := u16s_length l 10 N
                have hat : at9 = k3 := ha9 (by omega)
                have hsg := fun a => (show I16 (sgn (n2 l a)) from by have := n2_bound hBH.out a; unfold sgn; split <;> (constructor <;> omega))
                have hEt : (ptsOf fl xs ys).take j = ptsOf fl xs ys := List.take_of_length_le (by omega)
                obtain rfl := hgx.out
                have hpB2 := hpB.out
                have hnp2 := hnp.out
                refine bodyPost_ret (v := .tuple #[.agg (gA ⟨sgn (n2 l 2), sgn (n2 l 4), sgn (n2 l 6), sgn (n2 l 8), [], [], []⟩ (.slice Ae N ce) (.slice Ap np cp) (.slice A j c)), .int .i64 at9, .int .i64 0]) ?_ rfl (Ret.mk (.inl ⟨_, k3, .slice Ae N ce, .slice Ap np cp, .slice A j c, hfin.out, ?_, by rw [hat], ?_⟩))
                · exact results_agg_tmps2 (p := 2) (q := 3) (s := 4) rfl agg_glyph _ (by rfl) (M9.out.heap (g := m0) (t := 52) (cs := gA ⟨sgn (n2 l 2), sgn (n2 l 4), sgn (n2 l 6), sgn (n2 l 8), [], [], []⟩ (.slice Ae N ce) (.slice Ap np cp) (.slice A j c)) (by simp)) rfl
                · refine ⟨hsg 2, hsg 4, hsg 6, hsg 8, ?_, (hBH.out.drop _).take _, ?_⟩
                  · intro x hx
                    obtain ⟨i, -, rfl⟩ := List.mem_map.1 hx
                    exact n2_bound hBH.out _
                  · intro p hp
                    obtain ⟨i, hi, rfl⟩ := List.mem_map.1 hp
                    have hi := List.mem_range.1 hi
                    rw [hfl.out] at hi
                    refine ⟨hixH.out _ ?_, hiyH.out _ ?_⟩
                    · have := hxl.out; simp [List.getD, show i < xs.length by omega]
                    · have := hyl.out; simp [List.getD, show i < ys.length by omega]
                · dsimp only
                  rw [hel, hpl, ← hpB2, hnp2]
                  have h9 := M9.out.sub (L' := [.row 55 3 (.slice A j c) j (spC ((ptsOf fl xs ys).take j)), .row 5 1 (.slice Ap np cp) np (ints .u8 pb), .row 34 1 (.slice Ae N ce) N (ints .u16 (u16s l 10 N))]) (.cons_cons _ (.cons _ (.cons _ (.cons _ (.cons _ (.cons_cons _ (.cons_cons _ (List.nil_sublist _))))))))
                  rw [hEt] at h9
                  exact h9.perm (List.reverse_perm [_, _, _]).symm
          · have hnone : parseS l = none := by
              rw [hps.out]
              by_cases hk : 12 + 2 * N + z ≤ l.length
              · rw [if_pos hk, hnb hk]; rfl
              · rw [if_neg hk]
            have MF := hid (R12.out.beside.sub (L' := [.blk m0 52 gNil]) (by simp))
            clear hnb
            by_cases hb : l.length < k3
            · clear hbad
              go_wp2_with (first
                | (go_at_call 54; refine (RS.Bad R12.out).mono ?_; rintro _ _ ⟨_, rfl, rfl, rfl⟩)
                | ((with_reducible refine gateSt (t := 52) (p := 2) rfl ?_); refine wpList_store_all (n := 7) (L1 := []) (mid := gNil.toList) (vs := gNil.toList) rfl rfl (by kernel_rfl) rfl rfl rfl rfl rfl (one_all rfl) MF.out ?_; intro w18 M; (have M18 := hid M); clear M)
                | (refine bodyPost_ret (v := .tuple #[.agg gNil, .int .i64 0, .int .i64 2]) ?_ rfl (Ret.mk (.inr ⟨hnone, rfl, M18.out.below⟩)); exact results_agg_tmps2 (p := 2) (q := 3) (s := 4) rfl agg_glyph _ (by rfl) (M18.out.heap (.head _)) rfl))
            · cases ok
              · clear hbad
                go_wp2_with (first
                  | (go_at_call 54; refine (RS.Bad R12.out).mono ?_; rintro _ _ ⟨_, rfl, rfl, rfl⟩)
                  | ((with_reducible refine gateSt (t := 52) (p := 2) rfl ?_); refine wpList_store_all (n := 7) (L1 := []) (mid := gNil.toList) (vs := gNil.toList) rfl rfl (by kernel_rfl) rfl rfl rfl rfl rfl (one_all rfl) MF.out ?_; intro w18 M; (have M18 := hid M); clear M)
                  | (refine bodyPost_ret (v := .tuple #[.agg gNil, .int .i64 0, .int .i64 2]) ?_ rfl (Ret.mk (.inr ⟨hnone, rfl, M18.out.below⟩)); exact results_agg_tmps2 (p := 2) (q := 3) (s := 4) rfl agg_glyph _ (by rfl) (M18.out.heap (.head _)) rfl))
              · cases okX
                · clear hbad
                  go_wp2_with (first
                    | (go_at_call 54; refine (RS.Bad R12.out).mono ?_; rintro _ _ ⟨_, rfl, rfl, rfl⟩)
                    | ((with_reducible refine gateSt (t := 52) (p := 2) rfl ?_); refine wpList_store_all (n := 7) (L1 := []) (mid := gNil.toList) (vs := gNil.toList) rfl rfl (by kernel_rfl) rfl rfl rfl rfl rfl (one_all rfl) MF.out ?_; intro w18 M; (have M18 := hid M); clear M)
                    | (refine bodyPost_ret (v := .tuple #[.agg gNil, .int .i64 0, .int .i64 2]) ?_ rfl (Ret.mk (.inr ⟨hnone, rfl, M18.out.below⟩)); exact results_agg_tmps2 (p := 2) (q := 3) (s := 4) rfl agg_glyph _ (by rfl) (M18.out.heap (.head _)) rfl))
                · cases okY
                  · clear hbad
                    go_wp2_with (first
                      | (go_at_call 54; refine (RS.Bad R12.out).mono ?_; rintro _ _ ⟨_, rfl, rfl, rfl⟩)
                      | ((with_reducible refine gateSt (t := 52) (p := 2) rfl ?_); refine wpList_store_all (n := 7) (L1 := []) (mid := gNil.toList) (vs := gNil.toList) rfl rfl (by kernel_rfl) rfl rfl rfl rfl rfl (one_all rfl) MF.out ?_; intro w18 M; (have M18 := hid M); clear M)
                      | (refine bodyPost_ret (v := .tuple #[.agg gNil, .int .i64 0, .int .i64 2]) ?_ rfl (Ret.mk (.inr ⟨hnone, rfl, M18.out.below⟩)); exact results_agg_tmps2 (p := 2) (q := 3) (s := 4) rfl agg_glyph _ (by rfl) (M18.out.heap (.head _)) rfl))
                  · rcases hbad with h | h | h | h
                    · exact absurd h hb
                    · cases h
                    · cases h
                    · cases h
      · have hnone : parseS l = none := by
          by_cases hneg : n < 0
          · exact parseS_neg hBH.out (by rw [hn0.out]; exact hneg)
          · exact parseS_ends hBH.out hn0.out hNH.out hneg hno
        obtain ⟨c4, f4⟩ := M.cellf (g := m) (.head _) 4
        have MF := hid ((RS.set (L1 := []) M 4 (.slice none 0 0)).beside.sub (L' := [.blk m0 52 gNil]) (by simp))
        clear M hEnds
        go_wp2_with (first
          | ((with_reducible refine gateSt (t := 52) (p := 2) rfl ?_); refine wpList_store_all (n := 7) (L1 := []) (mid := gNil.toList) (vs := gNil.toList) rfl rfl (by kernel_rfl) rfl rfl rfl rfl rfl (one_all rfl) MF.out ?_; intro w18 M; (have M18 := hid M); clear M)
          | (refine bodyPost_ret (v := .tuple #[.agg gNil, .int .i64 0, .int .i64 2]) ?_ rfl (Ret.mk (.inr ⟨hnone, rfl, M18.out.below⟩)); exact results_agg_tmps2 (p := 2) (q := 3) (s := 4) rfl agg_glyph _ (by rfl) (M18.out.heap (.head _)) rfl))
end Go.Proofs.YtiedbfaehndooaaDoor
