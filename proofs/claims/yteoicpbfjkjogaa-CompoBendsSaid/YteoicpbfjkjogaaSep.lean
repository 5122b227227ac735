/- Plain words for memory: what a call owns, as one list of blocks and rows; each step hands the list on. No program in sight. -/
import Derived.WalkKit
import Derived.Handy
import Derived.Deep.AppendLies
import Derived.Deep.Draws
import Derived.Maps.AppendAt
namespace Go.Proofs.Yteoicpbfjkjogaa
open Go Go.RowKit

/-- A fact that the walk does not look at. -/
theorem hid {p : Prop} (h : p) : Hid p := h

/-- A call's end: it returns, and so it stands. (Not to be opened by the walk.) -/
def Ret (R : Value → World → Prop) (e : Ending) (w : World) : Prop := ∃ v, e = .returned v ∧ R v w
theorem Ret.mk {R : Value → World → Prop} {v : Value} {w : World} (h : R v w) : Ret R (.returned v) w := ⟨v, rfl, h⟩

/-! ## Slices that are read -/
theorem block_of_add (a : Addr) (n : Nat) : (a.add n).block = a.block := by unfold Addr.add; split <;> rfl
theorem add_of_add (a : Addr) (i j : Nat) : (a.add i).add j = a.add (i + j) := by
  unfold Addr.add
  by_cases hi : i = 0 <;> by_cases hj : j = 0 <;> simp [hi, hj, Nat.add_assoc]

/-- The slice value's cells, 'sz' each element, are 'xs'; its block is there. -/
def Reads (w : World) (B sz : Nat) (A : Option Addr) (n : Nat) (xs : List Value) : Prop :=
  xs.length = n * sz ∧ (0 < n → ∃ ad, A = some ad ∧ ad.block < B ∧ ∀ j u, xs[j]? = some u → w.cell? (ad.add j) = some u)

def SliceAt (w : World) (B sz : Nat) (v : Value) (n : Nat) (xs : List Value) : Prop :=
  ∃ A c, v = .slice A n c ∧ n ≤ c ∧ c ≤ maxLen ∧ (A = none → c = 0) ∧ Reads w B sz A n xs

section
variable {w w' : World} {B B' sz n : Nat} {A : Option Addr} {xs : List Value} {v : Value}
theorem Reads.keep (h : Reads w B sz A n xs) (hk : ∀ k, k < B → (∃ ad, A = some ad ∧ ad.block = k) → w'.heap[k]? = w.heap[k]?) : Reads w' B sz A n xs :=
  ⟨h.1, fun hn => by
    obtain ⟨ad, e, hb, hc⟩ := h.2 hn
    exact ⟨ad, e, hb, fun j u hu => (World.cell?_of_block (hk _ (by rw [block_of_add]; exact hb) ⟨ad, e, (block_of_add _ _).symm⟩)).trans (hc j u hu)⟩⟩
theorem Reads.more (h : Reads w B sz A n xs) (hB : B ≤ B') : Reads w B' sz A n xs :=
  ⟨h.1, fun hn => by
    obtain ⟨ad, e, hb, hc⟩ := h.2 hn
    exact ⟨ad, e, by omega, hc⟩⟩
theorem Reads.cell (h : Reads w B sz A n xs) {j : Nat} {u : Value} (hu : xs[j]? = some u) : ∃ ad, A = some ad ∧ w.cell? (ad.add j) = some u := by
  have hl := (List.getElem?_eq_some_iff.1 hu).1
  have hn : 0 < n := by
    rcases Nat.eq_zero_or_pos n with h0 | h0
    · have := h.1; rw [h0] at this; simp at this; simp [this] at hl
    · exact h0
  obtain ⟨ad, e, _, hc⟩ := h.2 hn
  exact ⟨ad, e, hc j u hu⟩
theorem Reads.cell_at (h : Reads w B sz A n xs) {m j : Nat} {u : Value} (hj : 0 < j) (hu : xs[m + j]? = some u) : ∃ ad, A = some ad ∧ w.cell? ⟨(ad.add m).block, (ad.add m).off + j, none⟩ = some u := by
  obtain ⟨ad, h1, h2⟩ := h.cell hu
  refine ⟨ad, h1, ?_⟩
  rw [← add_of_add] at h2
  rw [← h2, Addr.add.eq_def (ad.add m) j, if_neg (by omega)]
/-- A cut 's[i:j]' (or 's[i:j:k]'). -/
theorem Reads.cut (h : Reads w B sz A n xs) {i j cap : Nat} (hij : i ≤ j) (hj : j ≤ n) (hc : n ≤ cap) :
    Reads w B sz (if cap = i then A else A.map (·.add (i * sz))) (j - i) ((xs.drop (i * sz)).take ((j - i) * sz)) := by
  refine ⟨?_, fun hn => ?_⟩
  · rw [List.length_take, List.length_drop, h.1, ← Nat.sub_mul]
    exact Nat.min_eq_left (Nat.mul_le_mul_right _ (by omega))
  · obtain ⟨ad, rfl, hb, hcell⟩ := h.2 (by omega)
    rw [if_neg (by omega)]
    refine ⟨ad.add (i * sz), rfl, by rw [block_of_add]; exact hb, fun k u hu => ?_⟩
    rw [add_of_add]
    rw [List.getElem?_take] at hu
    split at hu
    · rw [List.getElem?_drop] at hu; exact hcell _ u hu
    · cases hu
theorem SliceAt.keep (h : SliceAt w B sz v n xs) (hk : ∀ k, k < B → w'.heap[k]? = w.heap[k]?) : SliceAt w' B sz v n xs := by
  obtain ⟨A, c, e, h1, h2, h4, h3⟩ := h
  exact ⟨A, c, e, h1, h2, h4, h3.keep fun k hb _ => hk k hb⟩
theorem SliceAt.below {W : World} (h : SliceAt W W.heap.size sz v n xs) (hb : Below W.heap.size W w) : SliceAt w w.heap.size sz v n xs := by
  obtain ⟨A, c, e, h1, h2, h4, h3⟩ := h
  exact ⟨A, c, e, h1, h2, h4, (h3.keep fun k hk _ => hb.block k hk).more hb.size⟩
theorem SliceAt.nil (w : World) (B sz : Nat) : SliceAt w B sz (.slice none 0 0) 0 [] :=
  ⟨none, 0, rfl, Nat.le_refl _, by unfold maxLen; omega, fun _ => rfl, by simp, fun h => absurd h (by omega)⟩
theorem SliceAt.len (h : SliceAt w B sz v n xs) : xs.length = n * sz := by obtain ⟨_, _, _, _, _, _, h⟩ := h; exact h.1
theorem SliceAt.le (h : SliceAt w B sz v n xs) : n ≤ maxLen := by obtain ⟨_, _, _, h1, h2, _, _⟩ := h; omega
end

/-! ## What a call owns -/
inductive Ent where
  | blk (g : Nat) (t : TypeId) (cs : Array Value)
  | row (e : TypeId) (sz : Nat) (v : Value) (n : Nat) (xs : List Value)
  | view (sz : Nat) (v : Value) (n : Nat) (xs : List Value)

/-- The block that an entry lies in. -/
def Ent.foot : Ent → Nat → Prop
  | .blk g _ _, k => k = g
  | .row _ _ v _ _, k => v.ownBlock = some k
  | .view _ v n _, k => 0 < n ∧ v.ownBlock = some k
/-- May it be written? -/
def Ent.mine : Ent → Prop
  | .view .. => False
  | _ => True
def Ent.ok (base : Nat) (w : World) : Ent → Prop
  | .blk g t cs => base ≤ g ∧ w.heap[g]? = some (.cells cs t (0, 0))
  | .row e sz v n xs => w.ownsRow base e sz v n xs
  | .view sz v n xs => SliceAt w w.heap.size sz v n xs
/-- Two entries share no block of which one may be written. -/
def Apart (x y : Ent) : Prop := (x.mine ∨ y.mine) → ∀ k, x.foot k → ¬ y.foot k

structure Own (W0 w : World) (L : List Ent) : Prop where
  below : Below W0.heap.size W0 w
  ok : ∀ x ∈ L, x.ok W0.heap.size w
  apart : L.Pairwise Apart

section
variable {W0 w w' : World} {base : Nat} {L L1 L2 As Bs : List Ent} {x y : Ent}

theorem Apart.symm (h : Apart x y) : Apart y x := fun hm k hy hx => h (hm.symm) k hx hy

theorem Ent.lt_of_mine (h : x.ok base w) (hm : x.mine) {k : Nat} (hk : x.foot k) : base ≤ k ∧ k < w.heap.size := by
  cases x with
  | blk g t cs =>
    obtain ⟨h1, h2⟩ := h
    cases hk
    exact ⟨h1, (Array.getElem?_eq_some_iff.1 h2).1⟩
  | row e sz v n xs => exact World.ownsRow.lt h k hk
  | view sz v n xs => exact hm.elim
theorem heap_lt {k : Nat} {o : Obj} (h : w.heap[k]? = some o) : k < w.heap.size := (Array.getElem?_eq_some_iff.1 h).1

theorem Ent.stable (h : x.ok base w) (hs : w.heap.size ≤ w'.heap.size) (hk : ∀ k, k < w.heap.size → x.foot k → w'.heap[k]? = w.heap[k]?) : x.ok base w' := by
  cases x with
  | blk g t cs => exact ⟨h.1, (hk g (heap_lt h.2) rfl).trans h.2⟩
  | row e sz v n xs =>
    refine ⟨h.1, ?_⟩
    rcases h.2 with hn | ⟨g, cap, cur, rfl, hb, hg, rest⟩
    · exact .inl hn
    · exact .inr ⟨g, cap, cur, rfl, hb, (hk g (heap_lt hg) rfl).trans hg, rest⟩
  | view sz v n xs =>
    obtain ⟨A, c, rfl, h1, h2, h4, h3⟩ := h
    refine ⟨A, c, rfl, h1, h2, h4, h3.1, fun hn => ?_⟩
    obtain ⟨ad, e, hb, hc⟩ := h3.2 hn
    subst e
    exact ⟨ad, rfl, by omega, fun j u hu => (World.cell?_of_block (hk _ (by rw [block_of_add]; exact hb) ⟨hn, by rw [block_of_add]; rfl⟩)).trans (hc j u hu)⟩

theorem Own.start (w : World) : Own w w [] := ⟨Below.refl _ _, by simp, List.Pairwise.nil⟩

/-- THE STEP: some entries, all writable, give way to others; all else stands. -/
theorem Own.step (M : Own W0 w (L1 ++ (As ++ L2))) (hm : ∀ x ∈ As, x.mine) (hos : w'.os = w.os) (htp : w'.tape = w.tape) (hout : w'.output = w.output) (hsz : w.heap.size ≤ w'.heap.size)
    (hk : ∀ k, k < w.heap.size → (∀ x ∈ As, ¬ x.foot k) → w'.heap[k]? = w.heap[k]?)
    (hb : ∀ y ∈ Bs, y.ok W0.heap.size w') (hap : Bs.Pairwise Apart) (hf : ∀ y ∈ Bs, ∀ k, y.foot k → (∃ x ∈ As, x.foot k) ∨ w.heap.size ≤ k) : Own W0 w' (L1 ++ (Bs ++ L2)) := by
  have hp := List.pairwise_append.1 M.apart
  have hp2 := List.pairwise_append.1 hp.2.1
  have far1 : ∀ z ∈ L1, ∀ x ∈ As, Apart z x := fun z hz x hx => hp.2.2 z hz x (by simp [hx])
  have far2 : ∀ z ∈ L2, ∀ x ∈ As, Apart x z := fun z hz x hx => hp2.2.2 x hx z hz
  have hfoot : ∀ z, z ∈ L1 ∨ z ∈ L2 → ∀ k, z.foot k → ∀ x ∈ As, ¬ x.foot k := by
    rintro z (hz | hz) k hzk x hx hxk
    · exact far1 z hz x hx (.inr (hm x hx)) k hzk hxk
    · exact far2 z hz x hx (.inl (hm x hx)) k hxk hzk
  have okz : ∀ z, z ∈ L1 ∨ z ∈ L2 → z.ok W0.heap.size w := by
    rintro z (hz | hz) <;> exact M.ok z (by simp [hz])
  have zlt : ∀ z, z ∈ L1 ∨ z ∈ L2 → ∀ k, z.foot k → z.mine → k < w.heap.size := fun z hz k hk hmz => (Ent.lt_of_mine (okz z hz) hmz hk).2
  have apB : ∀ z, z ∈ L1 ∨ z ∈ L2 → ∀ y ∈ Bs, Apart z y := by
    intro z hz y hy hmm k hzk hyk
    rcases hf y hy k hyk with ⟨x, hx, hxk⟩ | hge
    · exact hfoot z hz k hzk x hx hxk
    · cases z with
      | blk g t cs => have := zlt _ hz k hzk trivial; omega
      | row e sz v n xs => have := zlt _ hz k hzk trivial; omega
      | view sz v n xs =>
        obtain ⟨A, c, rfl, h1, h2, h4, h3⟩ := okz _ hz
        obtain ⟨h0, hzk⟩ := hzk
        obtain ⟨ad, rfl, hlt, _⟩ := h3.2 h0
        have : ad.block = k := by simpa [Value.ownBlock] using hzk
        omega
  refine ⟨?_, ?_, ?_⟩
  · refine M.below.trans ⟨hos, htp, hout, hsz, fun k hkk => ?_⟩
    have hlt : k < w.heap.size := Nat.lt_of_lt_of_le hkk M.below.size
    refine hk k hlt fun x hx hxk => ?_
    have := (Ent.lt_of_mine (M.ok x (by simp [hx])) (hm x hx) hxk).1
    omega
  · intro z hz
    simp only [List.mem_append] at hz
    rcases hz with hz | hz | hz
    · exact Ent.stable (okz z (.inl hz)) hsz fun k hkl hzk => hk k hkl (hfoot z (.inl hz) k hzk)
    · exact hb z hz
    · exact Ent.stable (okz z (.inr hz)) hsz fun k hkl hzk => hk k hkl (hfoot z (.inr hz) k hzk)
  · refine List.pairwise_append.2 ⟨hp.1, List.pairwise_append.2 ⟨hap, hp2.2.1, fun y hy z hz => (apB z (.inr hz) y hy).symm⟩, ?_⟩
    intro z hz y hy
    simp only [List.mem_append] at hy
    rcases hy with hy | hy
    · exact apB z (.inl hz) y hy
    · exact hp.2.2 z hz y (by simp [hy])

/-- Nothing that is owned has turned. -/
theorem Own.keep (M : Own W0 w L) (hb : Below w.heap.size w w') : Own W0 w' L := by
  have := Own.step (L1 := []) (As := []) (Bs := []) (L2 := L) (w' := w') M (by simp) hb.os hb.tape hb.output hb.size (fun k hk _ => hb.block k hk) (by simp) List.Pairwise.nil (by simp)
  simpa using this
theorem Own.drew (M : Own W0 w L) : Own W0 w.drew L := M.keep (Below.refl _ _).drew
theorem Own.drewN (M : Own W0 w L) (n : Nat) : Own W0 (w.drewN n) L := M.keep ⟨rfl, rfl, rfl, Nat.le_refl _, fun _ _ => rfl⟩

theorem Ent.weaken {b b' : Nat} (h : x.ok b w) (hb : b' ≤ b) : x.ok b' w := by
  cases x with
  | blk g t cs => exact ⟨Nat.le_trans hb h.1, h.2⟩
  | row e sz v n xs =>
    refine ⟨h.1, ?_⟩
    rcases h.2 with hn | ⟨g, cap, cur, e1, h1, rest⟩
    · exact .inl hn
    · exact .inr ⟨g, cap, cur, e1, Nat.le_trans hb h1, rest⟩
  | view sz v n xs => exact h

/-- What a callee made of its own comes to the front. -/
theorem Own.lift {L' : List Ent} (M : Own W0 w L) (h : Own w w' L') (hm : ∀ y ∈ L', y.mine := by simp [Ent.mine]) : Own W0 w' (L' ++ L) := by
  have := Own.step (L1 := []) (As := []) (Bs := L') (L2 := L) (w' := w') M (by simp) h.below.os h.below.tape h.below.output h.below.size (fun k hk _ => h.below.block k hk)
    (fun y hy => Ent.weaken (h.ok y hy) M.below.size) h.apart (fun y hy k hk => .inr (Ent.lt_of_mine (h.ok y hy) (hm y hy) hk).1)
  simpa using this

theorem Own.alloc (M : Own W0 w L) (t : TypeId) (cs : Array Value) : Own W0 (w.alloc (.cells cs t (0, 0))) (.blk w.heap.size t cs :: L) :=
  M.lift (L' := [.blk w.heap.size t cs]) ⟨(Below.refl _ _).alloc (Nat.le_refl _) _, by
    simp only [List.mem_singleton, forall_eq]
    exact ⟨Nat.le_refl _, heap_alloc_new w _⟩, by simp⟩

theorem Own.set {g : Nat} {t : TypeId} {cs : Array Value} (M : Own W0 w (L1 ++ (.blk g t cs :: L2))) (i : Nat) (u : Value) : Own W0 (w.setCell ⟨g, i, none⟩ u) (L1 ++ (.blk g t (cs.setIfInBounds i u) :: L2)) := by
  have h0 := M.ok (.blk g t cs) (by simp)
  refine Own.step (As := [.blk g t cs]) (Bs := [.blk g t (cs.setIfInBounds i u)]) M (by simp [Ent.mine]) rfl rfl rfl (by simp [World.setCell]) (fun k hk hx => Below.heap_setCell _ _ _ _ (fun e => ?_)) ?_ (by simp) ?_
  · simp only [List.mem_singleton, forall_eq] at hx
    exact hx e
  · simp only [List.mem_singleton, forall_eq]
    refine ⟨h0.1, ?_⟩
    have h2 := h0.2
    simp [World.setCell, Array.getElem?_modify, h2]
  · simp only [List.mem_singleton, forall_eq, exists_eq_left]
    exact fun k hk => .inl hk

theorem Own.sub {L' : List Ent} (M : Own W0 w L) (h : L'.Sublist L) : Own W0 w L' := ⟨M.below, fun x hx => M.ok x (h.subset hx), M.apart.sublist h⟩
theorem Own.tail (M : Own W0 w (x :: L)) : Own W0 w L := M.sub (List.sublist_cons_self _ _)
theorem Own.perm {L' : List Ent} (M : Own W0 w L) (h : L.Perm L') : Own W0 w L' :=
  ⟨M.below, fun x hx => M.ok x (h.mem_iff.2 hx), (h.pairwise_iff (fun h => h.symm)).1 M.apart⟩
theorem Own.swap (M : Own W0 w (x :: y :: L)) : Own W0 w (y :: x :: L) := M.perm (List.Perm.swap _ _ _)

theorem Own.front {X : List Ent} (M : Own W0 w (L1 ++ (X ++ L2))) : Own W0 w (X ++ (L1 ++ L2)) := M.perm (List.perm_append_comm_assoc _ _ _)

theorem Own.front3 {X Y : List Ent} (M : Own W0 w (L1 ++ (Y ++ (X ++ L2)))) : Own W0 w (X ++ (L1 ++ (Y ++ L2))) := by
  rw [← List.append_assoc] at M
  have := M.front
  rwa [List.append_assoc] at this

theorem Own.heap {g : Nat} {t : TypeId} {cs : Array Value} (M : Own W0 w L) (h : .blk g t cs ∈ L) : w.heap[g]? = some (.cells cs t (0, 0)) := (M.ok _ h).2
theorem Own.cell {g : Nat} {t : TypeId} {cs : Array Value} (M : Own W0 w L) (h : .blk g t cs ∈ L) (i : Nat) : w.cell? ⟨g, i, none⟩ = cs[i]? := cell_of_row w g i cs t (0, 0) (M.heap h)
theorem Own.free {g : Nat} {t : TypeId} {cs : Array Value} (M : Own W0 w L) (h : .blk g t cs ∈ L) (i : Nat) : w.frozen? ⟨g, i, none⟩ = false := by
  have := M.heap h
  simp [World.frozen?, this]
theorem Own.lt {g : Nat} {t : TypeId} {cs : Array Value} (M : Own W0 w L) (h : .blk g t cs ∈ L) : g < w.heap.size := heap_lt (M.heap h)

theorem slice_of_row {base : Nat} {e : TypeId} {sz : Nat} {v : Value} {n : Nat} {xs : List Value} (h : w.ownsRow base e sz v n xs) : SliceAt w w.heap.size sz v n xs := by
  have hc := fun g hg => h.cells (g := g) hg
  obtain ⟨hl, hn | ⟨g, cap, cur, e1, hb, hg, h1, h2, h3, h4⟩⟩ := h
  · obtain ⟨rfl, rfl⟩ := hn
    exact ⟨none, 0, rfl, Nat.le_refl _, by unfold maxLen; omega, fun _ => rfl, hl, fun h => absurd h (by omega)⟩
  · subst e1
    exact ⟨_, cap, rfl, h1, h2, (by intro h; cases h), hl, fun _ => ⟨_, rfl, heap_lt hg, hc g rfl⟩⟩
theorem Own.slice {e : TypeId} {sz : Nat} {v : Value} {n : Nat} {xs : List Value} (M : Own W0 w L) (h : .row e sz v n xs ∈ L) : SliceAt w w.heap.size sz v n xs := slice_of_row (M.ok _ h)
/-- A row's value is a slice. -/
theorem Own.form {e : TypeId} {sz : Nat} {v : Value} {n : Nat} {xs : List Value} (M : Own W0 w L) (h : .row e sz v n xs ∈ L) : ∃ A c, v = .slice A n c := by
  obtain ⟨A, c, h, -⟩ := M.slice h
  exact ⟨A, c, h⟩
theorem Own.seen {sz : Nat} {v : Value} {n : Nat} {xs : List Value} (M : Own W0 w L) (h : .view sz v n xs ∈ L) : SliceAt w w.heap.size sz v n xs := M.ok _ h

/-- What lay below the beginning may be looked at beside all that is owned. -/
theorem Own.look {sz : Nat} {v : Value} {n : Nat} {xs : List Value} (M : Own W0 w L) (h : SliceAt W0 W0.heap.size sz v n xs) : Own W0 w (.view sz v n xs :: L) := by
  refine ⟨M.below, ?_, ?_⟩
  · intro z hz
    rcases List.mem_cons.1 hz with rfl | hz
    · exact h.below M.below
    · exact M.ok z hz
  · refine List.pairwise_cons.2 ⟨fun z hz hm k hk hzk => ?_, M.apart⟩
    have hzm : z.mine := by rcases hm with hm | hm; exact hm.elim; exact hm
    have := (Ent.lt_of_mine (M.ok z hz) hzm hzk).1
    obtain ⟨hn, hk⟩ := hk
    obtain ⟨A, c, rfl, _, _, _, h3⟩ := h
    obtain ⟨ad, rfl, hb, _⟩ := h3.2 hn
    have : ad.block = k := by simpa [Value.ownBlock] using hk
    omega
/-- A row that is no longer written is a view. -/
theorem Own.share {e : TypeId} {sz : Nat} {v : Value} {n : Nat} {xs : List Value} (M : Own W0 w (L1 ++ (.row e sz v n xs :: L2))) : Own W0 w (L1 ++ (.view sz v n xs :: L2)) := by
  have hp := List.pairwise_append.1 M.apart
  have hp2 := List.pairwise_cons.1 hp.2.1
  have ap : ∀ z, Apart z (.row e sz v n xs) → Apart z (.view sz v n xs) := fun z hz hm k hzk hk => hz (.inr trivial) k hzk hk.2
  refine ⟨M.below, fun z hz => ?_, List.pairwise_append.2 ⟨hp.1, List.pairwise_cons.2 ⟨fun z hz => (ap z (hp2.1 z hz).symm).symm, hp2.2⟩, fun z hz y hy => ?_⟩⟩
  · simp only [List.mem_append, List.mem_cons] at hz
    rcases hz with hz | rfl | hz
    · exact M.ok z (by simp [hz])
    · exact slice_of_row (M.ok (.row e sz v n xs) (by simp))
    · exact M.ok z (by simp [hz])
  · rcases List.mem_cons.1 hy with rfl | hy
    · exact ap z (hp.2.2 z hz _ (by simp))
    · exact hp.2.2 z hz y (by simp [hy])
/-- The first of two blocks lies apart from the second. -/
theorem Own.apart_of (M : Own W0 w (x :: L)) (h : y ∈ L) (hm : x.mine ∨ y.mine) {k : Nat} (hx : x.foot k) : ¬ y.foot k := (List.pairwise_cons.1 M.apart).1 y h hm k hx
end

theorem Own.ne {W0 w : World} {L : List Ent} {g g' : Nat} {t t' : TypeId} {cs cs' : Array Value} (M : Own W0 w (.blk g t cs :: L)) (h : .blk g' t' cs' ∈ L) : g ≠ g' := fun e =>
  M.apart_of h (.inl trivial) (k := g) rfl e

/-! ## append -/
section
variable {P : Program} {W0 w : World} {L1 L2 : List Ent}
theorem run_append_of_nil (base : Nat) (t ty e : TypeId) (i : TypeInfo) (size : Nat) (ht : P.underlying t = some (.slice e)) (hi : P.info? e = some i)
    (v : Value) (n : Nat) (xs : List Value) (hown : w.ownsRow base e size v n xs) (c : Nat) : (Builtin.append_ #[t, t] ty #[v, .slice none 0 c]).run P w = .ok v w := by
  rcases hown.2 with ⟨rfl, rfl⟩ | ⟨g, cap, cur, rfl, _, _, hnc, _⟩
  · simp [Builtin.append_, run_underlying ht, sizeOf, typeInfo, hi, Builtin.lenOf, Builtin.firstCells]
  · simp [Builtin.append_, run_underlying ht, sizeOf, typeInfo, hi, Builtin.lenOf, Builtin.firstCells, hnc, storeCells]

/-- A type's zero value, the cells and the bytes of one. -/
def Sized (P : Program) (t e : TypeId) (sz bytes : Nat) : Prop :=
  P.underlying t = some (.slice e) ∧ ∃ i z, P.info? e = some i ∧ i.zero = some z ∧ i.size = sz ∧ i.bytes = bytes ∧ z.cells.size = sz ∧ 0 < sz
theorem Sized.mk' {t e : TypeId} {sz bytes : Nat} (h1 : P.underlying t = some (.slice e)) (z : Value) (h2 : (P.info? e).map (fun i => (i.zero, i.size, i.bytes)) = some (some z, sz, bytes)) (h3 : z.cells.size = sz := by rfl) (h4 : 0 < sz := by decide) : Sized P t e sz bytes := by
  obtain ⟨i, h5, h6, h7, h8⟩ := info_parts h2
  exact ⟨h1, i, z, h5, h6, h7, h8, h3, h4⟩

theorem run_append_Own {t ty e : TypeId} {sz bytes : Nat} (hS : Sized P t e sz bytes) {v pv : Value} {n m : Nat} {xs news : List Value} (M : Own W0 w (L1 ++ (.row e sz v n xs :: L2)))
    (hp : SliceAt w w.heap.size sz pv m news) (h1 : ∀ u ∈ news, u.oneCell' = true) (h63 : n + m ≤ maxLen) (hbytes : (n + m) * bytes ≤ 140737488355328) :
    ∃ v' w', (Builtin.append_ #[t, t] ty #[v, pv]).run P w = .ok v' w' ∧ Own W0 w' (L1 ++ (.row e sz v' (n + m) (xs ++ news) :: L2)) := by
  obtain ⟨ht, i, z, hi, hz, hsize, hby, hzs, hsz⟩ := hS
  obtain ⟨A, c, rfl, hmc, hcm, _, hr⟩ := hp
  have hown : w.ownsRow W0.heap.size e sz v n xs := M.ok (.row e sz v n xs) (by simp)
  rcases Nat.eq_zero_or_pos m with h0 | h0
  · subst h0
    have hn : news = [] := List.eq_nil_of_length_eq_zero (by simpa using hr.1)
    subst hn
    cases A with
    | none => exact ⟨v, w, run_append_of_nil _ t ty e i sz ht hi v n xs hown c, by simpa using M⟩
    | some ad =>
      obtain ⟨v', w', hrun, h2, h3, _, h5⟩ := run_append_own_at (P := P) w W0.heap.size t ty e i z sz bytes ht hi hz hsize hby hzs hsz v n xs hown ad 0 c [] (by simp) (by simp) (by simp) h63 hbytes M.below.size
      refine ⟨v', w', hrun, ?_⟩
      refine Own.step (As := [.row e sz v n xs]) (Bs := [.row e sz v' (n + 0) (xs ++ [])]) M (by simp [Ent.mine]) h3.os h3.tape h3.output h3.size (fun k hk hx => h3.block k hk (fun e1 => ?_)) (by simpa [Ent.ok] using h2) (by simp) ?_
      · simp only [List.mem_singleton, forall_eq] at hx
        exact hx e1.symm
      · simp only [List.mem_singleton, forall_eq, exists_eq_left]
        intro k hk
        rcases h5 with h5 | h5
        · exact .inl (h5.symm.trans hk)
        · refine .inr ?_
          have : some w.heap.size = some k := h5.symm.trans hk
          injection this with this; omega
  · obtain ⟨ad, rfl, _, hc⟩ := hr.2 h0
    obtain ⟨v', w', hrun, h2, h3, _, h5⟩ := run_append_own_at (P := P) w W0.heap.size t ty e i z sz bytes ht hi hz hsize hby hzs hsz v n xs hown ad m c news hr.1 hc h1 h63 hbytes M.below.size
    refine ⟨v', w', hrun, ?_⟩
    refine Own.step (As := [.row e sz v n xs]) (Bs := [.row e sz v' (n + m) (xs ++ news)]) M (by simp [Ent.mine]) h3.os h3.tape h3.output h3.size (fun k hk hx => h3.block k hk (fun e1 => ?_)) (by simpa [Ent.ok] using h2) (by simp) ?_
    · simp only [List.mem_singleton, forall_eq] at hx
      exact hx e1.symm
    · simp only [List.mem_singleton, forall_eq, exists_eq_left]
      intro k hk
      rcases h5 with h5 | h5
      · exact .inl (h5.symm.trans hk)
      · refine .inr ?_
        have : some w.heap.size = some k := h5.symm.trans hk
        injection this with this; omega

theorem wp_append_Own {o : Oper} {a : Act} {K : Act → World → Prop} {Q : Exit → Act → World → Prop} (s x : Operand) (t : TypeId)
    (ho : o.op = .call { callee := .builtin .append, args := #[s, x], argTypes := #[t, t] }) {e : TypeId} {sz bytes : Nat} (hS : Sized P t e sz bytes)
    {v pv : Value} {n m : Nat} {xs news : List Value} (hs : a.eval s = v) (hx : a.eval x = pv) (M : Own W0 w (L1 ++ (.row e sz v n xs :: L2)))
    (hp : SliceAt w w.heap.size sz pv m news) (h1 : ∀ u ∈ news, u.oneCell' = true) (h63 : n + m ≤ maxLen) (hbytes : (n + m) * bytes ≤ 140737488355328)
    (h : ∀ v' w', Own W0 w' (L1 ++ (.row e sz v' (n + m) (xs ++ news) :: L2)) → K (a.put o.dst v') w') : o.wp P a w K Q := by
  obtain ⟨v', w', hrun, h2⟩ := run_append_Own (ty := o.type) hS M hp h1 h63 hbytes
  unfold Oper.wp execOp
  simp only [ho, resolve, invoke, builtin, Sem.run_bind, Sem.run_pure, Result.andThen_ok, List.map_toArray, List.map_cons, List.map_nil, hs, hx, hrun]
  exact h v' w' h2

theorem step_append_Own {ops : Array Oper} {o : Oper} {a : Act} {K : Act → World → Prop} {Q : Exit → Act → World → Prop} {E : Prop} (hgd : o.guard = none) (s x : Operand) (t : TypeId)
    (ho : o.op = .call { callee := .builtin .append, args := #[s, x], argTypes := #[t, t] }) {e : TypeId} {sz bytes : Nat} (hS : Sized P t e sz bytes)
    {v pv : Value} {n m : Nat} {xs news : List Value} (hs : a.eval s = v) (hx : a.eval x = pv) (M : Own W0 w (L1 ++ (.row e sz v n xs :: L2)))
    (hp : SliceAt w w.heap.size sz pv m news) (h1 : ∀ u ∈ news, u.oneCell' = true) (h63 : n + m ≤ maxLen) (hbytes : (n + m) * bytes ≤ 140737488355328)
    (h : ∀ v' w', Own W0 w' (L1 ++ (.row e sz v' (n + m) (xs ++ news) :: L2)) → K (a.put o.dst v') w') : if Region.wanted o (yielded ops a.tmps) = true then Oper.wp P o a w K Q else E := by
  have hw : Region.wanted o (yielded ops a.tmps) = true := by simp [Region.wanted, hgd]
  rw [if_pos hw]
  exact wp_append_Own s x t ho hS hs hx M hp h1 h63 hbytes h

theorem wpList_append_Own {ops : Array Oper} {rest : List Oper} {o : Oper} {a : Act} {Q : Exit → Act → World → Prop} (hgd : o.guard = none) (s x : Operand) (t : TypeId)
    (ho : o.op = .call { callee := .builtin .append, args := #[s, x], argTypes := #[t, t] }) {e : TypeId} {sz bytes : Nat} (hS : Sized P t e sz bytes)
    {v pv : Value} {n m : Nat} {xs news : List Value} (hs : a.eval s = v) (hx : a.eval x = pv) (M : Own W0 w (L1 ++ (.row e sz v n xs :: L2)))
    (hp : SliceAt w w.heap.size sz pv m news) (h1 : ∀ u ∈ news, u.oneCell' = true) (h63 : n + m ≤ maxLen) (hbytes : (n + m) * bytes ≤ 140737488355328)
    (h : ∀ v' w', Own W0 w' (L1 ++ (.row e sz v' (n + m) (xs ++ news) :: L2)) → wpList P ops Q rest (a.put o.dst v') w') : wpList P ops Q (o :: rest) a w :=
  wpList_plain hgd fun _ hK => wp_append_Own s x t ho hS hs hx M hp h1 h63 hbytes fun v' w' h2 => hK _ _ (h v' w' h2)
end

/-! ## a new block, as one step of the walk -/
section
variable {P : Program} {ops : Array Oper} {o : Oper} {a : Act} {Q : Exit → Act → World → Prop} {rest : List Oper} {W0 W : World} {L : List Ent}
/-- The arm at the operation that writes slot N. -/
theorem gate {N : Tmp} (_hN : o.dst = some N) (h : wpList P ops Q (o :: rest) a W) : wpList P ops Q (o :: rest) a W := h
theorem wpList_box_Own (hgd : o.guard = none) {cs : Array Value} {t : TypeId}
    (hrun : (execOp a.eval o).run P W = .ok (.value (.pointer (some ⟨W.heap.size, 0, none⟩))) (W.alloc (.cells cs t (0, 0)))) (M : Own W0 W L)
    (h : ∀ g w', Own W0 w' (.blk g t cs :: L) → wpList P ops Q rest (a.put o.dst (.pointer (some ⟨g, 0, none⟩))) w') : wpList P ops Q (o :: rest) a W :=
  wpList_plain hgd fun K hK => by
    unfold Oper.wp
    rw [hrun]
    exact hK _ _ (h _ _ (M.alloc t cs))
end

/-- Whole numbers as values. -/
def ints (k : IntKind) (l : List Int) : List Value := l.map (Value.int k)
theorem ints_length (k : IntKind) (l : List Int) : (ints k l).length = l.length := List.length_map _
theorem ints_append (k : IntKind) (l m : List Int) : ints k (l ++ m) = ints k l ++ ints k m := List.map_append
theorem ints_one (k : IntKind) (l : List Int) : ∀ u ∈ ints k l, u.oneCell' = true := by
  intro u hu
  obtain ⟨x, _, rfl⟩ := List.mem_map.1 hu
  rfl
theorem ints_cut (k : IntKind) (l : List Int) (i j : Nat) : ((ints k l).drop i).take j = ints k ((l.drop i).take j) := by
  unfold ints; rw [List.map_take, List.map_drop]
theorem ints_get (k : IntKind) (l : List Int) (i : Nat) (h : i < l.length) : (ints k l)[i]? = some (.int k (l.getD i 0)) := by
  unfold ints; simp [List.getD, h]

theorem one_all {vs : List Value} (h : vs.all (fun u => u.oneCell') = true) : ∀ u ∈ vs, u.oneCell' = true := by simpa using h

/-! ## what was built in place: '[]T{x, ..}' -/
theorem SliceAt.built {W0 w : World} {L : List Ent} {g : Nat} {t : TypeId} {cs : Array Value} (M : Own W0 w L) (h : .blk g t cs ∈ L) (sz n : Nat) (hl : cs.size = n * sz) (hn : n ≤ maxLen) : SliceAt w w.heap.size sz (.slice (some ⟨g, 0, none⟩) n n) n cs.toList := by
  refine ⟨_, n, rfl, Nat.le_refl _, hn, (by intro h; cases h), by simpa using hl, fun _ => ⟨_, rfl, M.lt h, fun j u hu => ?_⟩⟩
  have hadd : (⟨g, 0, none⟩ : Addr).add j = ⟨g, j, none⟩ := by unfold Addr.add; split <;> simp_all
  rw [hadd, M.cell h]
  simpa using hu
/-- A block that was built in place is a row of the call's own. -/
theorem Own.as_row {W0 w : World} {L1 L2 : List Ent} {g : Nat} {t : TypeId} {cs : Array Value} (M : Own W0 w (L1 ++ (.blk g t cs :: L2))) (sz n : Nat) (hl : cs.size = n * sz) (hn : n ≤ maxLen) :
    Own W0 w (L1 ++ (.row t sz (.slice (some ⟨g, 0, none⟩) n n) n cs.toList :: L2)) := by
  have h0 := M.ok (.blk g t cs) (by simp)
  have := Own.step (As := [.blk g t cs]) (Bs := [.row t sz (.slice (some ⟨g, 0, none⟩) n n) n cs.toList]) (w' := w) M (by simp [Ent.mine]) rfl rfl rfl (Nat.le_refl _) (fun _ _ _ => rfl) (by
    simp only [List.mem_singleton, forall_eq]
    exact ⟨by simpa using hl, .inr ⟨g, n, cs, rfl, h0.1, h0.2, Nat.le_refl _, hn, hl, by rw [← hl, ← Array.length_toList, List.take_length]⟩⟩) (by simp) (by
    simp only [List.mem_singleton, forall_eq, exists_eq_left]
    intro k hk
    refine .inl ?_
    simpa [Ent.foot, Value.ownBlock, eq_comm] using hk)
  simpa using this
theorem Own.nil_row {W0 w : World} {L : List Ent} (M : Own W0 w L) (e : TypeId) (sz : Nat) : Own W0 w (.row e sz (.slice none 0 0) 0 [] :: L) :=
  ⟨M.below, fun x hx => by
    rcases List.mem_cons.1 hx with rfl | hx
    · exact World.ownsRow_nil _ _ _ _
    · exact M.ok x hx, List.pairwise_cons.2 ⟨fun y _ _ k hk => by simp [Ent.foot, Value.ownBlock] at hk, M.apart⟩⟩
end Go.Proofs.Yteoicpbfjkjogaa
