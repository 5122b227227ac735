/- Package simple: outlines, and which may be. -/
import Derived.Test.YtiedbfaehndooaaDoorBaseM
import Derived.Deep.RegionWith
import Derived.Deep.DeepCutAuto
import Derived.Deep.RegionHeld3
namespace Go.Proofs.YtiedbfaehndooaaDoor
open Go Go.RowKit
set_option linter.unusedVariables false
set_option linter.unusedSimpArgs false
set_option maxRecDepth 100000

/-- An outline: its box, the ends, the program, the points. -/
structure Sg where
  b0 : Int
  b1 : Int
  b2 : Int
  b3 : Int
  ends : List Int
  prog : List Int
  pts : List (Int × Int × Bool)
abbrev I16 (x : Int) : Prop := -32768 ≤ x ∧ x < 32768
structure Sg.Ok (g : Sg) : Prop where
  x0 : I16 g.b0
  x1 : I16 g.b1
  x2 : I16 g.b2
  x3 : I16 g.b3
  en : ∀ x ∈ g.ends, 0 ≤ x ∧ x < 65536
  pr : Bytes g.prog
  pt : ∀ p ∈ g.pts, I16 p.1 ∧ I16 p.2.1
def spC (ps : List (Int × Int × Bool)) : List Value := ps.flatMap fun p => [.int .i16 p.1, .int .i16 p.2.1, .bool p.2.2]
def pX (ps : List (Int × Int × Bool)) (i : Nat) : Int := (ps.getD i (0, 0, false)).1
def pY (ps : List (Int × Int × Bool)) (i : Nat) : Int := (ps.getD i (0, 0, false)).2.1
def pO (ps : List (Int × Int × Bool)) (i : Nat) : Bool := (ps.getD i (0, 0, false)).2.2
theorem spC_length (ps : List (Int × Int × Bool)) : (spC ps).length = ps.length * 3 := by
  induction ps with
  | nil => rfl
  | cons p ps ih => unfold spC at *; rw [List.flatMap_cons, List.length_append, ih]; simp; omega
theorem spC_get (ps : List (Int × Int × Bool)) : ∀ i, i < ps.length → (spC ps)[i * 3]? = some (.int .i16 (pX ps i)) ∧ (spC ps)[i * 3 + 1]? = some (.int .i16 (pY ps i)) ∧ (spC ps)[i * 3 + 2]? = some (.bool (pO ps i)) := by
  induction ps with
  | nil => intro i h; simp at h
  | cons p ps ih =>
    intro i h
    cases i with
    | zero => exact ⟨rfl, rfl, rfl⟩
    | succ i =>
      have := ih i (by simpa using h)
      rw [Nat.succ_mul]
      exact this
theorem spC_append (a b : List (Int × Int × Bool)) : spC (a ++ b) = spC a ++ spC b := List.flatMap_append
theorem spC_one (ps : List (Int × Int × Bool)) : ∀ u ∈ spC ps, u.oneCell' = true := by
  intro u hu
  obtain ⟨p, -, hu⟩ := List.mem_flatMap.1 hu
  simp only [List.mem_cons, List.not_mem_nil, or_false] at hu
  rcases hu with rfl | rfl | rfl <;> rfl
theorem spC_take (ps : List (Int × Int × Bool)) (k : Nat) : spC (ps.take k) = (spC ps).take (k * 3) := by
  induction ps generalizing k with
  | nil => simp [spC]
  | cons m ms ih =>
    cases k with
    | zero => simp [spC]
    | succ k =>
      rw [List.take_succ_cons, Nat.succ_mul]
      show [_, _, _] ++ spC (ms.take k) = ([_, _, _] ++ spC ms).take (k * 3 + 3)
      rw [ih]; rfl
theorem pt_eta (ps : List (Int × Int × Bool)) {i : Nat} (h : i < ps.length) : ps[i] = (pX ps i, pY ps i, pO ps i) := by simp [pX, pY, pO, List.getD, h]
theorem Sg.Ok.at {g : Sg} (h : g.Ok) (i : Nat) : I16 (pX g.pts i) ∧ I16 (pY g.pts i) := by
  by_cases hi : i < g.pts.length
  · have := h.pt g.pts[i] (List.getElem_mem _)
    rwa [pt_eta g.pts hi] at this
  · simp [pX, pY, List.getD, List.getElem?_eq_none (Nat.le_of_not_lt hi), I16]
theorem Sg.Ok.end {g : Sg} (h : g.Ok) (i : Nat) : 0 ≤ g.ends.getD i 0 ∧ g.ends.getD i 0 < 65536 := by
  by_cases hi : i < g.ends.length
  · exact h.en _ (by simp [List.getD, hi])
  · simp [List.getD, List.getElem?_eq_none (Nat.le_of_not_lt hi)]

/-- The cells of an outline's value. -/
abbrev gA (g : Sg) (ve vp vs : Value) : Array Value := #[.int .i16 g.b0, .int .i16 g.b1, .int .i16 g.b2, .int .i16 g.b3, ve, vp, vs]
structure GAt (w : World) (g : Sg) (ve vp vs : Value) : Prop where
  e : SliceAt w w.heap.size 1 ve g.ends.length (ints .u16 g.ends)
  p : BytesAt w vp g.prog
  s : SliceAt w w.heap.size 3 vs g.pts.length (spC g.pts)
theorem GAt.below {w w' : World} {g : Sg} {ve vp vs : Value} (h : GAt w g ve vp vs) (hb : Below w.heap.size w w') : GAt w' g ve vp vs := ⟨h.e.below hb, h.p.below hb, h.s.below hb⟩

/-! ## which may be -/
/-- How many points the first k ends tell. -/
def nP (e : List Int) : Nat → Int
  | 0 => 0
  | k + 1 => e.getD k 0 + 1
def riseB (e : List Int) (k : Nat) : Bool := decide (∀ i, i < k → nP e i ≤ e.getD i 0)
theorem riseB_succ (e : List Int) (k : Nat) : riseB e (k + 1) = (riseB e k && decide (nP e k ≤ e.getD k 0)) := by
  unfold riseB
  rw [Bool.eq_iff_iff]
  simp only [decide_eq_true_eq, Bool.and_eq_true]
  refine ⟨fun h => ⟨fun j hj => h j (by omega), h k (by omega)⟩, fun ⟨h, e⟩ j hj => ?_⟩
  by_cases hjk : j = k
  · rw [hjk]; exact e
  · exact h j (by omega)
theorem riseB_no {e : List Int} {k n : Nat} (h : ¬ nP e k ≤ e.getD k 0) (hk : k < n) : riseB e n = false := decide_eq_false fun f => h (f k hk)
/-- Is a change two bytes? -/
def fitB (n : Int) : Bool := decide (-32768 ≤ n ∧ n ≤ 32767)
def pvX (ps : List (Int × Int × Bool)) : Nat → Int
  | 0 => 0
  | k + 1 => pX ps k
def pvY (ps : List (Int × Int × Bool)) : Nat → Int
  | 0 => 0
  | k + 1 => pY ps k
def pvO (ps : List (Int × Int × Bool)) : Nat → Bool
  | 0 => false
  | k + 1 => pO ps k
def dX (ps : List (Int × Int × Bool)) (k : Nat) : Int := pX ps k - pvX ps k
def dY (ps : List (Int × Int × Bool)) (k : Nat) : Int := pY ps k - pvY ps k
def stepB (ps : List (Int × Int × Bool)) (k : Nat) : Bool := decide (∀ i, i < k → fitB (dX ps i) = true ∧ fitB (dY ps i) = true)
theorem stepB_succ (ps : List (Int × Int × Bool)) (k : Nat) : stepB ps (k + 1) = (stepB ps k && (fitB (dX ps k) && fitB (dY ps k))) := by
  unfold stepB
  rw [Bool.eq_iff_iff]
  simp only [decide_eq_true_eq, Bool.and_eq_true]
  refine ⟨fun h => ⟨fun j hj => h j (by omega), h k (by omega)⟩, fun ⟨h, e⟩ j hj => ?_⟩
  by_cases hjk : j = k
  · rw [hjk]; exact e
  · exact h j (by omega)
theorem stepB_no {ps : List (Int × Int × Bool)} {k n : Nat} (h : fitB (dX ps k) = false ∨ fitB (dY ps k) = false) (hk : k < n) : stepB ps n = false := decide_eq_false fun f => by
  have := f k hk
  rcases h with h | h
  · rw [h] at this; cases this.1
  · rw [h] at this; cases this.2
theorem Sg.Ok.prev {g : Sg} (h : g.Ok) : ∀ i, I16 (pvX g.pts i) ∧ I16 (pvY g.pts i)
  | 0 => by simp [pvX, pvY, I16]
  | k + 1 => h.at k
/-- May it be? -/
def sgR (g : Sg) : Bool := riseB g.ends g.ends.length && (stepB g.pts g.pts.length && (decide (g.ends.length ≤ 32767) && (decide ((g.pts.length : Int) = nP g.ends g.ends.length) && decide (g.prog.length ≤ 65535))))

theorem fits_calls (w : World) (n : Int) : Calls Tryd.prog 30 #[.int .i64 n] w (Ret fun r w' => r = .bool (fitB n) ∧ w = w') := by
  have hq : (decide (n ≥ -32768) = false ∧ fitB n = false) ∨ (decide (n ≥ -32768) = true ∧ (decide (n ≤ 32767) = false ∧ fitB n = false ∨ decide (n ≤ 32767) = true ∧ fitB n = true)) := by
    unfold fitB
    by_cases h1 : n ≥ -32768 <;> by_cases h2 : n ≤ 32767 <;> simp [h1, h2] <;> omega
  generalize fitB n = ok at *
  rcases hq with ⟨q1, q⟩ | ⟨q1, ⟨q2, q⟩ | ⟨q2, q⟩⟩
  all_goals
    subst q
    go_enter Tryd.func30, Tryd.ntmps30
    go_wp2
    go_ret
    exact .mk ⟨rfl, rfl⟩

theorem sp_cells {W0 w : World} {L : List Ent} {p : Nat} {x y : Int} {on : Bool} (M : Own W0 w L) (h : .blk p 55 #[.int .i16 x, .int .i16 y, .bool on] ∈ L) :
    w.cell? ⟨p, 0, none⟩ = some (.int .i16 x) ∧ w.cell? ⟨p, 1, none⟩ = some (.int .i16 y) ∧ w.cell? ⟨p, 2, none⟩ = some (.bool on) := ⟨M.cell h 0, M.cell h 1, M.cell h 2⟩
theorem sp_free {W0 w : World} {L : List Ent} {p : Nat} {x y : Int} {on : Bool} (M : Own W0 w L) (h : .blk p 55 #[.int .i16 x, .int .i16 y, .bool on] ∈ L) :
    w.frozen? ⟨p, 0, none⟩ = false ∧ w.frozen? ⟨p, 1, none⟩ = false ∧ w.frozen? ⟨p, 2, none⟩ = false := ⟨M.free h 0, M.free h 1, M.free h 2⟩
/-- The three cells of a point in a slice, wherever the world stands. -/
theorem spot_at {W0 : World} {ad : Addr} {ps : List (Int × Int × Bool)} {n : Nat} (hn : ps.length = n) (hr : Reads W0 W0.heap.size 3 (some ad) n (spC ps)) {w' : World} (hb : Below W0.heap.size W0 w') {i : Nat} (hi : i < n) :
    w'.cell? (ad.add (i * 3)) = some (.int .i16 (pX ps i)) ∧ w'.cell? ⟨(ad.add (i * 3)).block, (ad.add (i * 3)).off + 1, none⟩ = some (.int .i16 (pY ps i)) ∧ w'.cell? ⟨(ad.add (i * 3)).block, (ad.add (i * 3)).off + 2, none⟩ = some (.bool (pO ps i)) := by
  have hr := hr.keep (w' := w') fun k hk _ => hb.block k hk
  have hg := spC_get ps i (by omega)
  obtain ⟨a0, he, q0⟩ := hr.cell hg.1
  injection he with he; subst he
  obtain ⟨a1, he, q1⟩ := hr.cell_at (m := i * 3) (j := 1) (by omega) hg.2.1
  injection he with he; subst he
  obtain ⟨a2, he, q2⟩ := hr.cell_at (m := i * 3) (j := 2) (by omega) hg.2.2
  injection he with he; subst he
  exact ⟨q0, q1, q2⟩
theorem int_at {W0 : World} {ad : Addr} {k : IntKind} {l : List Int} {n : Nat} (hn : l.length = n) (hr : Reads W0 W0.heap.size 1 (some ad) n (ints k l)) {w' : World} (hb : Below W0.heap.size W0 w') {i : Nat} (hi : i < n) :
    w'.cell? (ad.add i) = some (.int k (l.getD i 0)) := by
  have hr := hr.keep (w' := w') fun k hk _ => hb.block k hk
  obtain ⟨a0, he, q0⟩ := hr.cell (ints_get k l i (by omega))
  injection he with he; subst he
  exact q0
theorem add_0 (a : Addr) : a.add 0 = a := by simp [Addr.add]
theorem add_s (a : Addr) (j : Nat) : a.add (j + 1) = ⟨a.block, a.off + (j + 1), none⟩ := by rw [Addr.add, if_neg (by omega)]
theorem g_cells {W0 w : World} {L : List Ent} {m : Nat} {g : Sg} {ve vp vs : Value} (M : Own W0 w L) (h : .blk m 52 (gA g ve vp vs) ∈ L) :
    w.cell? ⟨m, 4, none⟩ = some ve ∧ w.cell? ⟨m, 5, none⟩ = some vp ∧ w.cell? ⟨m, 6, none⟩ = some vs := ⟨M.cell h 4, M.cell h 5, M.cell h 6⟩

set_option maxHeartbeats 4000000 in
theorem right_calls (w : World) {g : Sg} {ve vp vs : Value} (hO : g.Ok) (hG : GAt w g ve vp vs) :
    Calls Tryd.prog 16 #[.agg (gA g ve vp vs)] w (Ret fun r w' => r = .bool (sgR g) ∧ Below w.heap.size w w') := by
  obtain ⟨he, hp, hs⟩ := hG
  obtain ⟨Ae, ce, rfl, hce, hme, -, hre⟩ := he
  obtain ⟨Ap, cp, rfl, hcp, hmp, -, -⟩ := hp
  obtain ⟨As, cs, rfl, hcs, hms, -, hrs⟩ := hs
  unfold maxLen at hme hmp hms
  have hOH := hid hO
  have hsg := hid (show sgR g = (riseB g.ends g.ends.length && (stepB g.pts g.pts.length && (decide (g.ends.length ≤ 32767) && (decide ((g.pts.length : Int) = nP g.ends g.ends.length) && decide (g.prog.length ≤ 65535))))) from rfl)
  obtain ⟨ne, hne⟩ : ∃ n, g.ends.length = n := ⟨_, rfl⟩
  obtain ⟨np, hnp⟩ : ∃ n, g.prog.length = n := ⟨_, rfl⟩
  obtain ⟨ns, hns⟩ : ∃ n, g.pts.length = n := ⟨_, rfl⟩
  rw [hne] at hre hce
  rw [hnp] at hcp
  rw [hns] at hrs hcs
  rw [hne, hns, hnp] at hsg
  simp only [gA, hne, hnp, hns]
  have hEA := hid (fun ad (e : Ae = some ad) w' hb i hi => int_at (w' := w') (i := i) hne (e ▸ hre) hb hi)
  have hSA := hid (fun ad (e : As = some ad) w' hb i hi => spot_at (w' := w') (i := i) hns (e ▸ hrs) hb hi)
  have heS := hid (fun (h : 0 < ne) => show ∃ ad, Ae = some ad by obtain ⟨ad, e, -⟩ := hre.2 h; exact ⟨ad, e⟩)
  have hsS := hid (fun (h : 0 < ns) => show ∃ ad, As = some ad by obtain ⟨ad, e, -⟩ := hrs.2 h; exact ⟨ad, e⟩)
  have M0 := hid (Own.start w)
  clear hre hrs hne hnp hns hO
  go_enter Tryd.func16, Tryd.ntmps16
  go_wp2_with ((with_reducible refine gate (N := 1) rfl ?_); refine wpList_box_Own rfl (cs := gA g (.slice Ae ne ce) (.slice Ap np cp) (.slice As ns cs)) (t := 52) (by first | (go_simp; done) | (go_simp; rfl)) M0.out ?_; intro m w1 M; obtain ⟨c4, c5, c6⟩ := g_cells (m := m) (g := g) (ve := .slice Ae ne ce) (vp := .slice Ap np cp) (vs := .slice As ns cs) M (by simp); (have M1 := hid M); clear M)
  clear c4 c5 c6
  go_loopw [3, 12] (fun s i wr => ∃ k : Nat, k ≤ ne ∧ i = .int .i64 k ∧ s = .int .i64 (nP g.ends k) ∧ Hid (riseB g.ends k = true) ∧ Hid (Own w wr [.blk m 52 (gA g (.slice Ae ne ce) (.slice Ap np cp) (.slice As ns cs))])) (fun _ i _ => ne - (intOf i).toNat)
  case atStart => exact ⟨0, Nat.zero_le _, rfl, rfl, hid (decide_eq_true fun i hi => absurd hi (by omega)), M1⟩
  case round =>
    clear M1
    obtain ⟨k, hk, rfl, rfl, hrise, MR⟩ := hrel
    obtain ⟨c4, c5, c6⟩ := g_cells (m := m) (g := g) (ve := .slice Ae ne ce) (vp := .slice Ap np cp) (vs := .slice As ns cs) MR.out (by simp)
    by_cases hlt : k < ne
    · obtain ⟨ad, rfl⟩ := heS.out (by omega)
      have hcell := hEA.out ad rfl wr MR.out.below k hlt
      obtain ⟨e0, e1⟩ := hOH.out.end k
      have hrs := hid (riseB_succ g.ends k)
      have hno := hid (fun h => riseB_no (e := g.ends) (k := k) (n := ne) h hlt)
      have hn1 := hid (show nP g.ends (k + 1) = g.ends.getD k 0 + 1 from rfl)
      rcases (show k = 0 ∨ ∃ j, k = j + 1 from by cases k; exact .inl rfl; exact .inr ⟨_, rfl⟩) with rfl | ⟨j, rfl⟩
      · have hn0 : nP g.ends 0 = 0 := rfl
        rw [hn0] at hrs hno ⊢
        rw [add_0] at hcell
        generalize g.ends.getD 0 0 = e at *
        have hrt := hid (show riseB g.ends (0 + 1) = true by rw [hrs.out, hrise.out, decide_eq_true e0]; rfl)
        clear hn0
        go_wp2
        go_roundw
        case rel => exact ⟨1, by omega, by go_num, by rw [hn1.out], hrt, MR⟩
        case measure => simp [intOf] <;> omega
      · have hcell2 := hEA.out ad rfl wr MR.out.below j (by omega)
        obtain ⟨f0, f1⟩ := hOH.out.end j
        have hnj : nP g.ends (j + 1) = g.ends.getD j 0 + 1 := rfl
        rw [hnj] at hrs hno ⊢
        rw [add_s] at hcell
        clear hnj
        generalize g.ends.getD (j + 1) 0 = e at *
        generalize g.ends.getD j 0 = f at *
        have w1 : IntKind.i64.wrap ((j : Int) + 1 - 1) = (j : Int) := by rw [show (j : Int) + 1 - 1 = (j : Int) by omega]; exact IntWalk.i64_in _ (by omega)
        have g1 : j < ne := by omega
        have g2 : (j : Int) < ne := by omega
        have g3 : (0 : Int) < (j : Int) + 1 := by omega
        by_cases hle : f + 1 ≤ e
        · have hq : ¬ e ≤ f := by omega
          have hrt := hid (show riseB g.ends (j + 1 + 1) = true by rw [hrs.out, hrise.out, decide_eq_true hle]; rfl)
          go_wp2
          go_roundw
          case rel => exact ⟨j + 1 + 1, by omega, by go_num, by rw [hn1.out], hrt, MR⟩
          case measure => simp [intOf] <;> omega
        · have hq : e ≤ f := by omega
          have hf := hid (show sgR g = false by rw [hsg.out, hno.out hle]; rfl)
          go_wp2
          go_ret
          exact .mk ⟨by rw [hf.out]; rfl, MR.out.below⟩
    · obtain rfl : k = ne := by omega
      go_wp2_with ((with_reducible refine gate (N := 6) rfl ?_); refine wpList_box_Own rfl (cs := #[.int .i16 0, .int .i16 0, .bool false]) (t := 55) (by first | (go_simp; done) | (go_simp; rfl)) MR.out ?_; intro l w2 M; obtain ⟨c4, c5, c6⟩ := g_cells (m := m) (g := g) (ve := .slice Ae k ce) (vp := .slice Ap np cp) (vs := .slice As ns cs) M (by simp); (have M2 := hid M); clear M)
      clear c4 c5 c6 MR
      go_loopw [36] (fun i wr => ∃ k : Nat, k ≤ ns ∧ i = .int .i64 k ∧ Hid (stepB g.pts k = true) ∧ Hid (Own w wr [.blk l 55 #[.int .i16 (pvX g.pts k), .int .i16 (pvY g.pts k), .bool (pvO g.pts k)], .blk m 52 (gA g (.slice Ae _ ce) (.slice Ap np cp) (.slice As ns cs))])) (fun i _ => ns - (intOf i).toNat)
      case atStart => exact ⟨0, Nat.zero_le _, rfl, hid (decide_eq_true fun i hi => absurd hi (by omega)), M2⟩
      case round =>
        clear M2
        obtain ⟨j, hj, rfl, hst, MS⟩ := hrel
        obtain ⟨c4, c5, c6⟩ := g_cells (m := m) (g := g) (ve := .slice Ae k ce) (vp := .slice Ap np cp) (vs := .slice As ns cs) MS.out (by simp)
        by_cases hjt : j < ns
        · obtain ⟨ad, rfl⟩ := hsS.out (by omega)
          obtain ⟨k1, k2, k3⟩ := hSA.out ad rfl wr MS.out.below j hjt
          have hss := hid (stepB_succ g.pts j)
          have hnx := hid (show pvX g.pts (j + 1) = pX g.pts j ∧ pvY g.pts (j + 1) = pY g.pts j ∧ pvO g.pts (j + 1) = pO g.pts j from ⟨rfl, rfl, rfl⟩)
          have hdd := hid (show dX g.pts j = pX g.pts j - pvX g.pts j ∧ dY g.pts j = pY g.pts j - pvY g.pts j from ⟨rfl, rfl⟩)
          have hno := hid (fun h => stepB_no (ps := g.pts) (k := j) (n := ns) h hjt)
          obtain ⟨⟨x0, x1⟩, ⟨y0, y1⟩⟩ := hOH.out.at j
          obtain ⟨⟨u0, u1⟩, ⟨v0, v1⟩⟩ := hOH.out.prev j
          rw [hdd.out.1, hdd.out.2] at hss hno
          clear hdd
          generalize pX g.pts j = x at *
          generalize pY g.pts j = y at *
          generalize pO g.pts j = on at *
          generalize pvX g.pts j = u at *
          generalize pvY g.pts j = v at *
          generalize pvO g.pts j = po at *
          have hF1 := hid (fun w => fits_calls w (x - u))
          have hF2 := hid (fun w => fits_calls w (y - v))
          generalize fitB (x - u) = f1 at *
          generalize fitB (y - v) = f2 at *
          cases f1
          · have hf := hid (show sgR g = false by rw [hsg.out, hno.out (.inl rfl), Bool.false_and, Bool.and_false])
            go_wp2_with (first
              | ((with_reducible refine gate (N := 8) rfl ?_); refine wpList_box_Own rfl (cs := #[.int .i16 0, .int .i16 0, .bool false]) (t := 55) (by first | (go_simp; done) | (go_simp; rfl)) MS.out ?_; intro p w3 M; (clear k1 k2 k3); (have M3 := hid M); clear M)
              | ((with_reducible refine gateSt (t := 55) (p := 8) rfl ?_); refine wpList_store_all (n := 3) (L1 := []) (mid := [.int .i16 0, .int .i16 0, .bool false]) (vs := [.int .i16 x, .int .i16 y, .bool on]) rfl rfl (by kernel_rfl) rfl rfl rfl rfl rfl (one_all rfl) M3.out ?_; intro w4 M; obtain ⟨p0, p1, p2⟩ := sp_cells (p := p) (x := x) (y := y) (on := on) M (by simp); obtain ⟨l0, l1, l2⟩ := sp_cells (p := l) (x := u) (y := v) (on := po) M (by simp); (have M4 := hid M); clear M)
              | (go_at_call 30; (with_reducible refine (hF1.out _).mono ?_); rintro _ _ ⟨_, rfl, rfl, rfl⟩))
            go_ret
            exact .mk ⟨by rw [hf.out]; rfl, M4.out.below⟩
          · cases f2
            · have hf := hid (show sgR g = false by rw [hsg.out, hno.out (.inr rfl), Bool.false_and, Bool.and_false])
              go_wp2_with (first
                | ((with_reducible refine gate (N := 8) rfl ?_); refine wpList_box_Own rfl (cs := #[.int .i16 0, .int .i16 0, .bool false]) (t := 55) (by first | (go_simp; done) | (go_simp; rfl)) MS.out ?_; intro p w3 M; (clear k1 k2 k3); (have M3 := hid M); clear M)
                | ((with_reducible refine gateSt (t := 55) (p := 8) rfl ?_); refine wpList_store_all (n := 3) (L1 := []) (mid := [.int .i16 0, .int .i16 0, .bool false]) (vs := [.int .i16 x, .int .i16 y, .bool on]) rfl rfl (by kernel_rfl) rfl rfl rfl rfl rfl (one_all rfl) M3.out ?_; intro w4 M; obtain ⟨p0, p1, p2⟩ := sp_cells (p := p) (x := x) (y := y) (on := on) M (by simp); obtain ⟨l0, l1, l2⟩ := sp_cells (p := l) (x := u) (y := v) (on := po) M (by simp); (have M4 := hid M); clear M)
                | (go_at_call 30; (with_reducible refine (hF1.out _).mono ?_); rintro _ _ ⟨_, rfl, rfl, rfl⟩; (clear hF1))
                | (go_at_call 30; (with_reducible refine (hF2.out _).mono ?_); rintro _ _ ⟨_, rfl, rfl, rfl⟩))
              go_ret
              exact .mk ⟨by rw [hf.out]; rfl, M4.out.below⟩
            · have hst2 := hid (show stepB g.pts (j + 1) = true by rw [hss.out, hst.out]; rfl)
              go_wp2_with (first
                | ((with_reducible refine gate (N := 8) rfl ?_); refine wpList_box_Own rfl (cs := #[.int .i16 0, .int .i16 0, .bool false]) (t := 55) (by first | (go_simp; done) | (go_simp; rfl)) MS.out ?_; intro p w3 M; (clear k1 k2 k3); (have M3 := hid M); clear M)
                | ((with_reducible refine gateSt (t := 55) (p := 8) rfl ?_); refine wpList_store_all (n := 3) (L1 := []) (mid := [.int .i16 0, .int .i16 0, .bool false]) (vs := [.int .i16 x, .int .i16 y, .bool on]) rfl rfl (by kernel_rfl) rfl rfl rfl rfl rfl (one_all rfl) M3.out ?_; intro w4 M; obtain ⟨p0, p1, p2⟩ := sp_cells (p := p) (x := x) (y := y) (on := on) M (by simp); obtain ⟨l0, l1, l2⟩ := sp_cells (p := l) (x := u) (y := v) (on := po) M (by simp); (have M4 := hid M); clear M)
                | (go_at_call 30; (with_reducible refine (hF1.out _).mono ?_); rintro _ _ ⟨_, rfl, rfl, rfl⟩; (clear hF1))
                | (go_at_call 30; (with_reducible refine (hF2.out _).mono ?_); rintro _ _ ⟨_, rfl, rfl, rfl⟩; (clear l0 l1 l2))
                | ((with_reducible refine gateSt (t := 55) (p := 6) rfl ?_); refine wpList_store_all (n := 3) (L1 := [.blk p 55 #[.int .i16 x, .int .i16 y, .bool on]]) (mid := [.int .i16 u, .int .i16 v, .bool po]) (vs := [.int .i16 x, .int .i16 y, .bool on]) rfl rfl (by kernel_rfl) rfl rfl rfl rfl rfl (one_all rfl) M4.out ?_; intro w5 M; (have M5 := hid M); clear M))
              go_roundw
              case rel => exact ⟨j + 1, by omega, by go_num, hst2, hid (by rw [hnx.out.1, hnx.out.2.1, hnx.out.2.2]; exact M5.out.tail)⟩
              case measure => simp [intOf] <;> omega
        · obtain rfl : j = ns := by omega
          obtain ⟨z, hz⟩ : ∃ z, nP g.ends k = z := ⟨_, rfl⟩
          have hsg2 := hid (show sgR g = (decide (k ≤ 32767) && (decide ((j : Int) = z) && decide (np ≤ 65535))) by rw [hsg.out, hrise.out, hst.out, hz]; rfl)
          rw [hz]
          clear hz
          by_cases h1 : k ≤ 32767
          · have a1 : (k : Int) ≤ 32767 := by omega
            by_cases h2 : (j : Int) = z
            · have a2 : ((j : Int) == z) = true := by rw [beq_iff_eq]; exact h2
              by_cases h3 : np ≤ 65535
              · have a3 : (np : Int) ≤ 65535 := by omega
                have hf := hid (show sgR g = true by rw [hsg2.out, decide_eq_true h1, decide_eq_true h2, decide_eq_true h3]; rfl)
                clear h2
                go_wp2
                go_ret
                exact .mk ⟨by rw [hf.out]; rfl, MS.out.below⟩
              · have a3 : ¬ (np : Int) ≤ 65535 := by omega
                have hf := hid (show sgR g = false by rw [hsg2.out, decide_eq_false h3, Bool.and_false, Bool.and_false])
                clear h2
                go_wp2
                go_ret
                exact .mk ⟨by rw [hf.out]; rfl, MS.out.below⟩
            · have a2 : ((j : Int) == z) = false := by rw [beq_eq_false_iff_ne]; exact h2
              have hf := hid (show sgR g = false by rw [hsg2.out, decide_eq_false h2, Bool.false_and, Bool.and_false])
              clear h2
              go_wp2
              go_ret
              exact .mk ⟨by rw [hf.out]; rfl, MS.out.below⟩
          · have a1 : ¬ (k : Int) ≤ 32767 := by omega
            have hf := hid (show sgR g = false by rw [hsg2.out, decide_eq_false h1, Bool.false_and])
            go_wp2
            go_ret
            exact .mk ⟨by rw [hf.out]; rfl, MS.out.below⟩
end Go.Proofs.YtiedbfaehndooaaDoor
