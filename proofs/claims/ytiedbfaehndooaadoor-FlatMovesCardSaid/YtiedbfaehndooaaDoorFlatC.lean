/- Package flat: the way (a row that is cut shorter), glyphs of which others are made, in plain words. -/
import Derived.Test.YtiedbfaehndooaaDoorFlatB
import Derived.Test.YtiedbfaehndooaaDoorSimpF
import Derived.Test.YtiedbfaehndooaaDoorDotC
namespace Go.Proofs.YtiedbfaehndooaaDoor
open Go Go.RowKit
set_option linter.unusedVariables false
set_option linter.unusedSimpArgs false
set_option maxRecDepth 100000

/-- A row of the call's own that is cut shorter: 's = s[:k]'. -/
theorem Own.reslice {W0 w : World} {L1 L2 : List Ent} {e : TypeId} {sz n c k : Nat} {A : Option Addr} {xs : List Value} (M : Own W0 w (L1 ++ (.row e sz (.slice A n c) n xs :: L2))) (hk : k ≤ n) :
    Own W0 w (L1 ++ (.row e sz (.slice A k c) k (xs.take (k * sz)) :: L2)) := by
  have h0 := M.ok (.row e sz (.slice A n c) n xs) (by simp)
  have hks : k * sz ≤ n * sz := Nat.mul_le_mul_right _ hk
  refine Own.step (As := [.row e sz (.slice A n c) n xs]) (Bs := [.row e sz (.slice A k c) k (xs.take (k * sz))]) (w' := w) M (by simp [Ent.mine]) rfl rfl rfl (Nat.le_refl _) (fun _ _ _ => rfl) ?_ (by simp) ?_
  · simp only [List.mem_singleton, forall_eq]
    obtain ⟨hl, h1 | ⟨g, cap, cs, hv, h1, h2, h3, h4, h5, h6⟩⟩ := h0
    · obtain ⟨hv, hn⟩ := h1
      injection hv with e1 e2 e3
      have hk0 : k = 0 := by omega
      subst hk0
      exact ⟨by simp, .inl ⟨by rw [e1, e3], rfl⟩⟩
    · injection hv with e1 e2 e3
      subst e1 e3
      refine ⟨by rw [List.length_take, hl]; omega, .inr ⟨g, c, cs, rfl, h1, h2, by omega, h4, h5, ?_⟩⟩
      rw [← h6, List.take_take, Nat.min_eq_left hks]
  · simp only [List.mem_singleton, forall_eq, exists_eq_left]
    intro j hj
    exact .inl (by cases A with
      | none => simp [Ent.foot, Value.ownBlock] at hj
      | some ad => simpa [Ent.foot, Value.ownBlock] using hj)
/-- What a glyph's bytes are. -/
inductive Gk where
  | none
  | pts (g : Sg)
  | parts (g : Cg)
/-- Its bytes. -/
def Gk.bytes : Gk → List Int
  | .none => []
  | .pts g => sgB g
  | .parts g => cgB g
def Gk.Right : Gk → Prop
  | .none => True
  | .pts g => g.Ok ∧ sgR g = true ∧ (sgB g).length ≤ 1000000
  | .parts g => g.Ok ∧ cgR g = true
theorem Gk.bytes_ok {k : Gk} (h : k.Right) : Bytes k.bytes := by
  cases k with
  | none => exact bytes_nil
  | pts g => exact sgB_bytes h.1
  | parts g => exact bytes_cgB h.1.pr

/-! ## in plain words: what is told of a glyph -/
/-- The error (0: none), the contours, how many glyphs were met, how many points there are. -/
structure WR where
  e : Int
  c : List (List (Int × Int × Bool))
  met : Nat
  pnt : Nat
def tot (c : List (List (Int × Int × Bool))) : Nat := (c.map List.length).sum
theorem tot_append (a b : List (List (Int × Int × Bool))) : tot (a ++ b) = tot a + tot b := by simp [tot]
theorem tot_map (f : Int × Int × Bool → Int × Int × Bool) (a : List (List (Int × Int × Bool))) : tot (a.map (List.map f)) = tot a := by
  unfold tot
  rw [List.map_map]
  exact congrArg List.sum (List.map_congr_left fun x _ => by simp)
theorem le_tot {c : List (List (Int × Int × Bool))} {x : List (Int × Int × Bool)} (h : x ∈ c) : x.length ≤ tot c := by
  induction c with
  | nil => cases h
  | cons y c ih =>
    rcases List.mem_cons.1 h with rfl | h
    · simp [tot]
    · have := ih h
      simp only [tot, List.map_cons, List.sum_cons] at *
      omega
theorem length_tot {c : List (List (Int × Int × Bool))} (h : ∀ x ∈ c, x ≠ []) : c.length ≤ tot c := by
  induction c with
  | nil => exact Nat.zero_le _
  | cons y c ih =>
    have h1 := ih fun x hx => h x (.tail _ hx)
    have h2 : 0 < y.length := List.length_pos_iff.2 (h y (.head _))
    simp only [tot, List.map_cons, List.sum_cons, List.length_cons] at *
    omega
/-- A part moves a point. -/
def mvP (p : Pt) (q : Int × Int × Bool) : Int × Int × Bool := goTo p.a p.b p.c p.d p.x p.y q
def allK (f : Nat → Nat → Int → WR) : List Pt → Nat → Nat → List (List (Int × Int × Bool)) → WR
  | [], m, q, acc => ⟨0, acc, m, q⟩
  | p :: ps, m, q, acc => match f m q p.g with
    | ⟨e, c, m', q'⟩ => if e = 0 then allK f ps m' q' (acc ++ c.map (List.map (mvP p))) else ⟨e, [], m', q'⟩
def atK (ks : List Gk) : Nat → List Int → Nat → Nat → Int → WR
  | 0, way, m, q, id => if id < 0 ∨ (ks.length : Int) ≤ id then ⟨6, [], m, q⟩ else if id ∈ way then ⟨8, [], m, q⟩ else ⟨7, [], m, q⟩
  | f + 1, way, m, q, id =>
    if id < 0 ∨ (ks.length : Int) ≤ id then ⟨6, [], m, q⟩ else if id ∈ way then ⟨8, [], m, q⟩ else if 20000 < m + 1 then ⟨9, [], m + 1, q⟩ else
      match ks.getD id.toNat .none with
      | .none => ⟨0, [], m + 1, q⟩
      | .pts g => if 20000 < q + g.pts.length then ⟨9, [], m + 1, q + g.pts.length⟩ else ⟨0, cntK g g.ends.length, m + 1, q + g.pts.length⟩
      | .parts g => allK (atK ks f (way ++ [id])) g.parts (m + 1) q []
theorem allK_cons (f : Nat → Nat → Int → WR) (p : Pt) (ps : List Pt) (m q : Nat) (acc : List (List (Int × Int × Bool))) :
    allK f (p :: ps) m q acc = if (f m q p.g).e = 0 then allK f ps (f m q p.g).met (f m q p.g).pnt (acc ++ (f m q p.g).c.map (List.map (mvP p))) else ⟨(f m q p.g).e, [], (f m q p.g).met, (f m q p.g).pnt⟩ := by
  rw [allK]
/-- If no error is told: there are not too many, and each point is counted. -/
def Good (q : Nat) (r : WR) : Prop := (r.e = 0 → r.met ≤ 20000 ∧ r.pnt ≤ 20000 ∧ r.pnt = q + tot r.c ∧ ∀ x ∈ r.c, x ≠ []) ∧ (r.e ≠ 0 → r.c = [])
theorem cntAt_length {g : Sg} (hO : g.Ok) (hR : sgR g = true) {k : Nat} (hk : k < g.ends.length) : ((cntAt g k).length : Int) = nP g.ends (k + 1) - nP g.ends k ∧ 0 < (cntAt g k).length := by
  obtain ⟨hr, -, -, hn, -⟩ := sgR_parts hR
  have h1 := of_decide_eq_true hr k hk
  have h2 := nP_mono hr g.ends.length (Nat.le_refl _) (k + 1) (by omega)
  have h3 := nP_bound hO k
  have h4 : nP g.ends (k + 1) = g.ends.getD k 0 + 1 := rfl
  have h5 : (cntAt g k).length = min (nP g.ends (k + 1)).toNat g.pts.length - (nP g.ends k).toNat := by simp [cntAt]
  omega
theorem cntK_tot {g : Sg} (hO : g.Ok) (hR : sgR g = true) : ∀ k, k ≤ g.ends.length → (tot (cntK g k) : Int) = nP g.ends k ∧ ∀ x ∈ cntK g k, x ≠ []
  | 0, _ => ⟨rfl, by simp [cntK]⟩
  | k + 1, h => by
    obtain ⟨h1, h2⟩ := cntK_tot hO hR k (by omega)
    obtain ⟨h3, h4⟩ := cntAt_length hO hR (k := k) (by omega)
    rw [cntK_succ]
    refine ⟨?_, fun x hx => ?_⟩
    · rw [tot_append]; simp only [tot, List.map_cons, List.map_nil, List.sum_cons, List.sum_nil] at *; omega
    · rcases List.mem_append.1 hx with hx | hx
      · exact h2 x hx
      · rw [List.mem_singleton] at hx
        rw [hx]
        exact List.length_pos_iff.1 h4
theorem allK_good {f : Nat → Nat → Int → WR} (hf : ∀ m q id, m ≤ 20000 → q ≤ 20000 → Good q (f m q id)) : ∀ (ps : List Pt) (m q q0 : Nat) (acc : List (List (Int × Int × Bool))), m ≤ 20000 → q ≤ 20000 → q = q0 + tot acc → (∀ x ∈ acc, x ≠ []) → Good q0 (allK f ps m q acc)
  | [], m, q, q0, acc, hm, hq, hs, hn => ⟨fun _ => ⟨hm, hq, hs, hn⟩, fun h => absurd rfl h⟩
  | p :: ps, m, q, q0, acc, hm, hq, hs, hn => by
    obtain ⟨h1, h2⟩ := hf m q p.g hm hq
    rw [allK_cons]
    split
    · rename_i he
      obtain ⟨a1, a2, a3, a4⟩ := h1 he
      refine allK_good hf ps _ _ _ _ a1 a2 ?_ ?_
      · rw [tot_append, tot_map]; omega
      · intro x hx
        rcases List.mem_append.1 hx with hx | hx
        · exact hn x hx
        · obtain ⟨y, hy, rfl⟩ := List.mem_map.1 hx
          intro e
          exact a4 y hy (List.map_eq_nil_iff.1 e)
    · rename_i he
      exact ⟨fun h => absurd h he, fun _ => rfl⟩
theorem ks_right {ks : List Gk} (hK : ∀ k ∈ ks, k.Right) (i : Nat) : (ks.getD i .none).Right := by
  by_cases h : i < ks.length
  · simp only [List.getD, List.getElem?_eq_getElem h, Option.getD_some]
    exact hK _ (List.getElem_mem _)
  · simp only [List.getD, List.getElem?_eq_none (Nat.le_of_not_lt h), Option.getD_none]
    trivial
theorem atK_good {ks : List Gk} (hK : ∀ k ∈ ks, k.Right) : ∀ (f : Nat) (way : List Int) (m q : Nat) (id : Int), m ≤ 20000 → q ≤ 20000 → Good q (atK ks f way m q id)
  | 0, way, m, q, id, hm, hq => by
    rw [atK]
    split
    · exact ⟨fun h => by simp at h, fun _ => rfl⟩
    · split <;> exact ⟨fun h => by simp at h, fun _ => rfl⟩
  | f + 1, way, m, q, id, hm, hq => by
    rw [atK]
    split
    · exact ⟨fun h => by simp at h, fun _ => rfl⟩
    split
    · exact ⟨fun h => by simp at h, fun _ => rfl⟩
    split
    · exact ⟨fun h => by simp at h, fun _ => rfl⟩
    rename_i h3
    have hr := ks_right hK id.toNat
    split
    · exact ⟨fun _ => ⟨by simp only; omega, hq, by simp [tot], by simp⟩, fun h => absurd rfl h⟩
    · rename_i g hg
      rw [hg] at hr
      obtain ⟨hO, hR, -⟩ := hr
      split
      · exact ⟨fun h => by simp at h, fun _ => rfl⟩
      · rename_i h4
        obtain ⟨a1, a2⟩ := cntK_tot hO hR g.ends.length (Nat.le_refl _)
        obtain ⟨-, -, -, hn, -⟩ := sgR_parts hR
        exact ⟨fun _ => ⟨by simp only; omega, by simp only; omega, by simp only; omega, a2⟩, fun h => absurd rfl h⟩
    · exact allK_good (fun m q id h1 h2 => atK_good hK f _ m q id h1 h2) _ _ _ _ _ (by omega) hq (by simp [tot]) (by simp)
/-- No point goes too far. -/
def Near (ks : List Gk) : Prop := ∀ f way m q id, f ≤ 17 → ∀ x ∈ (atK ks f way m q id).c, ∀ p ∈ x, PtOk p

/-! ## in memory -/
/-- The glyphs that were handed in. -/
def GlyphsAt (w : World) (V : Value) (ks : List Gk) : Prop := ∃ vls : List Value, SliceAt w w.heap.size 1 V ks.length vls ∧ ∀ i, i < ks.length → BytesAt w (vls.getD i undef) (ks.getD i .none).bytes
theorem GlyphsAt.below {w w' : World} {V : Value} {ks : List Gk} (h : GlyphsAt w V ks) (hb : Below w.heap.size w w') : GlyphsAt w' V ks := by
  obtain ⟨vls, h1, h2⟩ := h
  exact ⟨vls, h1.below hb, fun i hi => (h2 i hi).below hb⟩
def cViews (l : CL) : List Ent := l.map fun p => .view 3 p.1 p.2.length (dpC p.2)
theorem cViews_snoc (l : CL) (p : Value × List (Int × Int × Bool)) : cViews (l ++ [p]) = cViews l ++ [.view 3 p.1 p.2.length (dpC p.2)] := by simp [cViews]
theorem Own.share_all {W0 w : World} {L : List Ent} : ∀ (l : CL) {L1 : List Ent}, Own W0 w (L1 ++ (cRows l ++ L)) → Own W0 w (L1 ++ (cViews l ++ L))
  | [], _, M => M
  | p :: l, L1, M => by
    have h1 : Own W0 w (L1 ++ (.row 30 3 p.1 p.2.length (dpC p.2) :: (cRows l ++ L))) := M
    have h2 := h1.share
    have h3 : Own W0 w ((L1 ++ [.view 3 p.1 p.2.length (dpC p.2)]) ++ (cRows l ++ L)) := by rw [List.append_assoc]; exact h2
    have h4 := Own.share_all l h3
    rw [List.append_assoc] at h4
    exact h4
theorem Own.front2 {W0 w : World} {A X B L : List Ent} (M : Own W0 w (A ++ (X ++ (B ++ L)))) : Own W0 w (X ++ (B ++ (A ++ L))) :=
  M.front.perm (List.Perm.append_left _ (List.perm_append_comm_assoc _ _ _))
abbrev wkA (vl vway : Value) (m q : Nat) : Array Value := #[vl, vway, .int .i64 m, .int .i64 q]
/-- What 'at' and 'all' tell, and leave. -/
def AtP (W0 : World) (L : List Ent) (W : Nat) (vl : Value) (way : List Int) (r : WR) (v : Value) (w' : World) : Prop :=
  ∃ (R : Value) (cl : CL) (vway : Value), v = .tuple #[R, .int .i64 r.e] ∧ cl.map (·.2) = r.c ∧ Own W0 w' (.view 1 R cl.length (cl.map (·.1)) :: (cViews cl ++ (.blk W 64 (wkA vl vway r.met r.pnt) :: .row 3 1 vway way.length (ints .i64 way) :: L)))
end Go.Proofs.YtiedbfaehndooaaDoor
