/- Several texts in one (a claim has at most sixty files): XSep, XAgg, XWordA, XWordB, XWordC, XRefA, XRefB, XRefC, XRead, XNums, XOpen, XEq, XHeld, XRowSet, XReadAt, XJoin, XRs, XUntil, XArr. -/
import Derived.WalkKit
import Derived.Handy
import Derived.Deep.AppendLies
import Derived.Deep.Draws
import Derived.Maps.AppendAt
import Derived.WalkSpells
import Derived.KernelRfl
import Derived.Test.YtiedbfaehndooaaDoorProg
import Derived.Deep.QuietTactic
import Derived.BigQuiet
import Derived.OpenShut
import Derived.Deep.Slices
import Derived.Deep.Fields
import Derived.ChangeSame
import Derived.ChangeKeysEq
import Derived.Laws.StructEq
import Derived.Deep.RegionHeld3
import Derived.StillTail
import Derived.Deep.RegionHeld
import Derived.WideShapes
/- Plain words for memory: what a call owns, as one list of blocks and rows; each step hands the list on. No program in sight. -/
namespace Go.Proofs.YtiedbfaehndooaaDoor
open Go Go.RowKit

/-- A fact that the walk does not look at. -/
theorem hid {p : Prop} (h : p) : Hid p := h

/-- A call's end: it returns, and so it stands. (Not to be opened by the walk.) -/
def Ret (R : Value → World → Prop) (e : Ending) (w : World) : Prop := ∃ v, e = .returned v ∧ R v w
theorem Ret.mk {R : Value → World → Prop} {v : Value} {w : World} (h : R v w) : Ret R (.returned v) w := ⟨v, rfl, h⟩

/-! ## Slices that are read -/
theorem block_of_add (a : Addr) (n : Nat) : (a.add n).block = a.block := by unfold Addr.add; split <;> rfl
theorem add_of_add (a : Addr) (i j : Nat) : (a.add i).add j = a.add (i + j) := by
  unfold Addr.add
  by_cases hi : i = 0 <;> by_cases hj : j = 0 <;> simp [hi, hj, Nat.add_assoc]

/-- The slice value's cells, 'sz' each element, are 'xs'; its block is there. -/
def Reads (w : World) (B sz : Nat) (A : Option Addr) (n : Nat) (xs : List Value) : Prop :=
  xs.length = n * sz ∧ (0 < n → ∃ ad, A = some ad ∧ ad.block < B ∧ ∀ j u, xs[j]? = some u → w.cell? (ad.add j) = some u)

def SliceAt (w : World) (B sz : Nat) (v : Value) (n : Nat) (xs : List Value) : Prop :=
  ∃ A c, v = .slice A n c ∧ n ≤ c ∧ c ≤ maxLen ∧ (A = none → c = 0) ∧ Reads w B sz A n xs

section
variable {w w' : World} {B B' sz n : Nat} {A : Option Addr} {xs : List Value} {v : Value}
theorem Reads.keep (h : Reads w B sz A n xs) (hk : ∀ k, k < B → (∃ ad, A = some ad ∧ ad.block = k) → w'.heap[k]? = w.heap[k]?) : Reads w' B sz A n xs :=
  ⟨h.1, fun hn => by
    obtain ⟨ad, e, hb, hc⟩ := h.2 hn
    exact ⟨ad, e, hb, fun j u hu => (World.cell?_of_block (hk _ (by rw [block_of_add]; exact hb) ⟨ad, e, (block_of_add _ _).symm⟩)).trans (hc j u hu)⟩⟩
theorem Reads.more (h : Reads w B sz A n xs) (hB : B ≤ B') : Reads w B' sz A n xs :=
  ⟨h.1, fun hn => by
    obtain ⟨ad, e, hb, hc⟩ := h.2 hn
    exact ⟨ad, e, by omega, hc⟩⟩
theorem Reads.cell (h : Reads w B sz A n xs) {j : Nat} {u : Value} (hu : xs[j]? = some u) : ∃ ad, A = some ad ∧ w.cell? (ad.add j) = some u := by
  have hl := (List.getElem?_eq_some_iff.1 hu).1
  have hn : 0 < n := by
    rcases Nat.eq_zero_or_pos n with h0 | h0
    · have := h.1; rw [h0] at this; simp at this; simp [this] at hl
    · exact h0
  obtain ⟨ad, e, _, hc⟩ := h.2 hn
  exact ⟨ad, e, hc j u hu⟩
theorem Reads.cell_at (h : Reads w B sz A n xs) {m j : Nat} {u : Value} (hj : 0 < j) (hu : xs[m + j]? = some u) : ∃ ad, A = some ad ∧ w.cell? ⟨(ad.add m).block, (ad.add m).off + j, none⟩ = some u := by
  obtain ⟨ad, h1, h2⟩ := h.cell hu
  refine ⟨ad, h1, ?_⟩
  rw [← add_of_add] at h2
  rw [← h2, Addr.add.eq_def (ad.add m) j, if_neg (by omega)]
/-- A cut 's[i:j]' (or 's[i:j:k]'). -/
theorem Reads.cut (h : Reads w B sz A n xs) {i j cap : Nat} (hij : i ≤ j) (hj : j ≤ n) (hc : n ≤ cap) :
    Reads w B sz (if cap = i then A else A.map (·.add (i * sz))) (j - i) ((xs.drop (i * sz)).take ((j - i) * sz)) := by
  refine ⟨?_, fun hn => ?_⟩
  · rw [List.length_take, List.length_drop, h.1, ← Nat.sub_mul]
    exact Nat.min_eq_left (Nat.mul_le_mul_right _ (by omega))
  · obtain ⟨ad, rfl, hb, hcell⟩ := h.2 (by omega)
    rw [if_neg (by omega)]
    refine ⟨ad.add (i * sz), rfl, by rw [block_of_add]; exact hb, fun k u hu => ?_⟩
    rw [add_of_add]
    rw [List.getElem?_take] at hu
    split at hu
    · rw [List.getElem?_drop] at hu; exact hcell _ u hu
    · cases hu
theorem SliceAt.keep (h : SliceAt w B sz v n xs) (hk : ∀ k, k < B → w'.heap[k]? = w.heap[k]?) : SliceAt w' B sz v n xs := by
  obtain ⟨A, c, e, h1, h2, h4, h3⟩ := h
  exact ⟨A, c, e, h1, h2, h4, h3.keep fun k hb _ => hk k hb⟩
theorem SliceAt.below {W : World} (h : SliceAt W W.heap.size sz v n xs) (hb : Below W.heap.size W w) : SliceAt w w.heap.size sz v n xs := by
  obtain ⟨A, c, e, h1, h2, h4, h3⟩ := h
  exact ⟨A, c, e, h1, h2, h4, (h3.keep fun k hk _ => hb.block k hk).more hb.size⟩
theorem SliceAt.nil (w : World) (B sz : Nat) : SliceAt w B sz (.slice none 0 0) 0 [] :=
  ⟨none, 0, rfl, Nat.le_refl _, by unfold maxLen; omega, fun _ => rfl, by simp, fun h => absurd h (by omega)⟩
theorem SliceAt.len (h : SliceAt w B sz v n xs) : xs.length = n * sz := by obtain ⟨_, _, _, _, _, _, h⟩ := h; exact h.1
theorem SliceAt.le (h : SliceAt w B sz v n xs) : n ≤ maxLen := by obtain ⟨_, _, _, h1, h2, _, _⟩ := h; omega
end

/-! ## What a call owns -/
inductive Ent where
  | blk (g : Nat) (t : TypeId) (cs : Array Value)
  | row (e : TypeId) (sz : Nat) (v : Value) (n : Nat) (xs : List Value)
  | view (sz : Nat) (v : Value) (n : Nat) (xs : List Value)

/-- The block that an entry lies in. -/
def Ent.foot : Ent → Nat → Prop
  | .blk g _ _, k => k = g
  | .row _ _ v _ _, k => v.ownBlock = some k
  | .view _ v n _, k => 0 < n ∧ v.ownBlock = some k
/-- May it be written? -/
def Ent.mine : Ent → Prop
  | .view .. => False
  | _ => True
def Ent.ok (base : Nat) (w : World) : Ent → Prop
  | .blk g t cs => base ≤ g ∧ w.heap[g]? = some (.cells cs t (0, 0))
  | .row e sz v n xs => w.ownsRow base e sz v n xs
  | .view sz v n xs => SliceAt w w.heap.size sz v n xs
/-- Two entries share no block of which one may be written. -/
def Apart (x y : Ent) : Prop := (x.mine ∨ y.mine) → ∀ k, x.foot k → ¬ y.foot k

structure Own (W0 w : World) (L : List Ent) : Prop where
  below : Below W0.heap.size W0 w
  ok : ∀ x ∈ L, x.ok W0.heap.size w
  apart : L.Pairwise Apart

section
variable {W0 w w' : World} {base : Nat} {L L1 L2 As Bs : List Ent} {x y : Ent}

theorem Apart.symm (h : Apart x y) : Apart y x := fun hm k hy hx => h (hm.symm) k hx hy

theorem Ent.lt_of_mine (h : x.ok base w) (hm : x.mine) {k : Nat} (hk : x.foot k) : base ≤ k ∧ k < w.heap.size := by
  cases x with
  | blk g t cs =>
    obtain ⟨h1, h2⟩ := h
    cases hk
    exact ⟨h1, (Array.getElem?_eq_some_iff.1 h2).1⟩
  | row e sz v n xs => exact World.ownsRow.lt h k hk
  | view sz v n xs => exact hm.elim
theorem heap_lt {k : Nat} {o : Obj} (h : w.heap[k]? = some o) : k < w.heap.size := (Array.getElem?_eq_some_iff.1 h).1

theorem Ent.stable (h : x.ok base w) (hs : w.heap.size ≤ w'.heap.size) (hk : ∀ k, k < w.heap.size → x.foot k → w'.heap[k]? = w.heap[k]?) : x.ok base w' := by
  cases x with
  | blk g t cs => exact ⟨h.1, (hk g (heap_lt h.2) rfl).trans h.2⟩
  | row e sz v n xs =>
    refine ⟨h.1, ?_⟩
    rcases h.2 with hn | ⟨g, cap, cur, rfl, hb, hg, rest⟩
    · exact .inl hn
    · exact .inr ⟨g, cap, cur, rfl, hb, (hk g (heap_lt hg) rfl).trans hg, rest⟩
  | view sz v n xs =>
    obtain ⟨A, c, rfl, h1, h2, h4, h3⟩ := h
    refine ⟨A, c, rfl, h1, h2, h4, h3.1, fun hn => ?_⟩
    obtain ⟨ad, e, hb, hc⟩ := h3.2 hn
    subst e
    exact ⟨ad, rfl, by omega, fun j u hu => (World.cell?_of_block (hk _ (by rw [block_of_add]; exact hb) ⟨hn, by rw [block_of_add]; rfl⟩)).trans (hc j u hu)⟩

theorem Own.start (w : World) : Own w w [] := ⟨Below.refl _ _, by simp, List.Pairwise.nil⟩

/-- THE STEP: some entries, all writable, give way to others; all else stands. -/
theorem Own.step (M : Own W0 w (L1 ++ (As ++ L2))) (hm : ∀ x ∈ As, x.mine) (hos : w'.os = w.os) (htp : w'.tape = w.tape) (hout : w'.output = w.output) (hsz : w.heap.size ≤ w'.heap.size)
    (hk : ∀ k, k < w.heap.size → (∀ x ∈ As, ¬ x.foot k) → w'.heap[k]? = w.heap[k]?)
    (hb : ∀ y ∈ Bs, y.ok W0.heap.size w') (hap : Bs.Pairwise Apart) (hf : ∀ y ∈ Bs, ∀ k, y.foot k → (∃ x ∈ As, x.foot k) ∨ w.heap.size ≤ k) : Own W0 w' (L1 ++ (Bs ++ L2)) := by
  have hp := List.pairwise_append.1 M.apart
  have hp2 := List.pairwise_append.1 hp.2.1
  have far1 : ∀ z ∈ L1, ∀ x ∈ As, Apart z x := fun z hz x hx => hp.2.2 z hz x (by simp [hx])
  have far2 : ∀ z ∈ L2, ∀ x ∈ As, Apart x z := fun z hz x hx => hp2.2.2 x hx z hz
  have hfoot : ∀ z, z ∈ L1 ∨ z ∈ L2 → ∀ k, z.foot k → ∀ x ∈ As, ¬ x.foot k := by
    rintro z (hz | hz) k hzk x hx hxk
    · exact far1 z hz x hx (.inr (hm x hx)) k hzk hxk
    · exact far2 z hz x hx (.inl (hm x hx)) k hxk hzk
  have okz : ∀ z, z ∈ L1 ∨ z ∈ L2 → z.ok W0.heap.size w := by
    rintro z (hz | hz) <;> exact M.ok z (by simp [hz])
  have zlt : ∀ z, z ∈ L1 ∨ z ∈ L2 → ∀ k, z.foot k → z.mine → k < w.heap.size := fun z hz k hk hmz => (Ent.lt_of_mine (okz z hz) hmz hk).2
  have apB : ∀ z, z ∈ L1 ∨ z ∈ L2 → ∀ y ∈ Bs, Apart z y := by
    intro z hz y hy hmm k hzk hyk
    rcases hf y hy k hyk with ⟨x, hx, hxk⟩ | hge
    · exact hfoot z hz k hzk x hx hxk
    · cases z with
      | blk g t cs => have := zlt _ hz k hzk trivial; omega
      | row e sz v n xs => have := zlt _ hz k hzk trivial; omega
      | view sz v n xs =>
        obtain ⟨A, c, rfl, h1, h2, h4, h3⟩ := okz _ hz
        obtain ⟨h0, hzk⟩ := hzk
        obtain ⟨ad, rfl, hlt, _⟩ := h3.2 h0
        have : ad.block = k := by simpa [Value.ownBlock] using hzk
        omega
  refine ⟨?_, ?_, ?_⟩
  · refine M.below.trans ⟨hos, htp, hout, hsz, fun k hkk => ?_⟩
    have hlt : k < w.heap.size := Nat.lt_of_lt_of_le hkk M.below.size
    refine hk k hlt fun x hx hxk => ?_
    have := (Ent.lt_of_mine (M.ok x (by simp [hx])) (hm x hx) hxk).1
    omega
  · intro z hz
    simp only [List.mem_append] at hz
    rcases hz with hz | hz | hz
    · exact Ent.stable (okz z (.inl hz)) hsz fun k hkl hzk => hk k hkl (hfoot z (.inl hz) k hzk)
    · exact hb z hz
    · exact Ent.stable (okz z (.inr hz)) hsz fun k hkl hzk => hk k hkl (hfoot z (.inr hz) k hzk)
  · refine List.pairwise_append.2 ⟨hp.1, List.pairwise_append.2 ⟨hap, hp2.2.1, fun y hy z hz => (apB z (.inr hz) y hy).symm⟩, ?_⟩
    intro z hz y hy
    simp only [List.mem_append] at hy
    rcases hy with hy | hy
    · exact apB z (.inl hz) y hy
    · exact hp.2.2 z hz y (by simp [hy])

/-- Nothing that is owned has turned. -/
theorem Own.keep (M : Own W0 w L) (hb : Below w.heap.size w w') : Own W0 w' L := by
  have := Own.step (L1 := []) (As := []) (Bs := []) (L2 := L) (w' := w') M (by simp) hb.os hb.tape hb.output hb.size (fun k hk _ => hb.block k hk) (by simp) List.Pairwise.nil (by simp)
  simpa using this
theorem Own.drew (M : Own W0 w L) : Own W0 w.drew L := M.keep (Below.refl _ _).drew
theorem Own.drewN (M : Own W0 w L) (n : Nat) : Own W0 (w.drewN n) L := M.keep ⟨rfl, rfl, rfl, Nat.le_refl _, fun _ _ => rfl⟩

theorem Ent.weaken {b b' : Nat} (h : x.ok b w) (hb : b' ≤ b) : x.ok b' w := by
  cases x with
  | blk g t cs => exact ⟨Nat.le_trans hb h.1, h.2⟩
  | row e sz v n xs =>
    refine ⟨h.1, ?_⟩
    rcases h.2 with hn | ⟨g, cap, cur, e1, h1, rest⟩
    · exact .inl hn
    · exact .inr ⟨g, cap, cur, e1, Nat.le_trans hb h1, rest⟩
  | view sz v n xs => exact h

/-- What a callee made of its own comes to the front. -/
theorem Own.lift {L' : List Ent} (M : Own W0 w L) (h : Own w w' L') (hm : ∀ y ∈ L', y.mine := by simp [Ent.mine]) : Own W0 w' (L' ++ L) := by
  have := Own.step (L1 := []) (As := []) (Bs := L') (L2 := L) (w' := w') M (by simp) h.below.os h.below.tape h.below.output h.below.size (fun k hk _ => h.below.block k hk)
    (fun y hy => Ent.weaken (h.ok y hy) M.below.size) h.apart (fun y hy k hk => .inr (Ent.lt_of_mine (h.ok y hy) (hm y hy) hk).1)
  simpa using this

theorem Own.alloc (M : Own W0 w L) (t : TypeId) (cs : Array Value) : Own W0 (w.alloc (.cells cs t (0, 0))) (.blk w.heap.size t cs :: L) :=
  M.lift (L' := [.blk w.heap.size t cs]) ⟨(Below.refl _ _).alloc (Nat.le_refl _) _, by
    simp only [List.mem_singleton, forall_eq]
    exact ⟨Nat.le_refl _, heap_alloc_new w _⟩, by simp⟩

theorem Own.set {g : Nat} {t : TypeId} {cs : Array Value} (M : Own W0 w (L1 ++ (.blk g t cs :: L2))) (i : Nat) (u : Value) : Own W0 (w.setCell ⟨g, i, none⟩ u) (L1 ++ (.blk g t (cs.setIfInBounds i u) :: L2)) := by
  have h0 := M.ok (.blk g t cs) (by simp)
  refine Own.step (As := [.blk g t cs]) (Bs := [.blk g t (cs.setIfInBounds i u)]) M (by simp [Ent.mine]) rfl rfl rfl (by simp [World.setCell]) (fun k hk hx => Below.heap_setCell _ _ _ _ (fun e => ?_)) ?_ (by simp) ?_
  · simp only [List.mem_singleton, forall_eq] at hx
    exact hx e
  · simp only [List.mem_singleton, forall_eq]
    refine ⟨h0.1, ?_⟩
    have h2 := h0.2
    simp [World.setCell, Array.getElem?_modify, h2]
  · simp only [List.mem_singleton, forall_eq, exists_eq_left]
    exact fun k hk => .inl hk

theorem Own.sub {L' : List Ent} (M : Own W0 w L) (h : L'.Sublist L) : Own W0 w L' := ⟨M.below, fun x hx => M.ok x (h.subset hx), M.apart.sublist h⟩
theorem Own.tail (M : Own W0 w (x :: L)) : Own W0 w L := M.sub (List.sublist_cons_self _ _)
theorem Own.perm {L' : List Ent} (M : Own W0 w L) (h : L.Perm L') : Own W0 w L' :=
  ⟨M.below, fun x hx => M.ok x (h.mem_iff.2 hx), (h.pairwise_iff (fun h => h.symm)).1 M.apart⟩
theorem Own.swap (M : Own W0 w (x :: y :: L)) : Own W0 w (y :: x :: L) := M.perm (List.Perm.swap _ _ _)

theorem Own.front {X : List Ent} (M : Own W0 w (L1 ++ (X ++ L2))) : Own W0 w (X ++ (L1 ++ L2)) := M.perm (List.perm_append_comm_assoc _ _ _)

theorem Own.front3 {X Y : List Ent} (M : Own W0 w (L1 ++ (Y ++ (X ++ L2)))) : Own W0 w (X ++ (L1 ++ (Y ++ L2))) := by
  rw [← List.append_assoc] at M
  have := M.front
  rwa [List.append_assoc] at this

theorem Own.heap {g : Nat} {t : TypeId} {cs : Array Value} (M : Own W0 w L) (h : .blk g t cs ∈ L) : w.heap[g]? = some (.cells cs t (0, 0)) := (M.ok _ h).2
theorem Own.cell {g : Nat} {t : TypeId} {cs : Array Value} (M : Own W0 w L) (h : .blk g t cs ∈ L) (i : Nat) : w.cell? ⟨g, i, none⟩ = cs[i]? := cell_of_row w g i cs t (0, 0) (M.heap h)
theorem Own.free {g : Nat} {t : TypeId} {cs : Array Value} (M : Own W0 w L) (h : .blk g t cs ∈ L) (i : Nat) : w.frozen? ⟨g, i, none⟩ = false := by
  have := M.heap h
  simp [World.frozen?, this]
theorem Own.lt {g : Nat} {t : TypeId} {cs : Array Value} (M : Own W0 w L) (h : .blk g t cs ∈ L) : g < w.heap.size := heap_lt (M.heap h)

theorem slice_of_row {base : Nat} {e : TypeId} {sz : Nat} {v : Value} {n : Nat} {xs : List Value} (h : w.ownsRow base e sz v n xs) : SliceAt w w.heap.size sz v n xs := by
  have hc := fun g hg => h.cells (g := g) hg
  obtain ⟨hl, hn | ⟨g, cap, cur, e1, hb, hg, h1, h2, h3, h4⟩⟩ := h
  · obtain ⟨rfl, rfl⟩ := hn
    exact ⟨none, 0, rfl, Nat.le_refl _, by unfold maxLen; omega, fun _ => rfl, hl, fun h => absurd h (by omega)⟩
  · subst e1
    exact ⟨_, cap, rfl, h1, h2, (by intro h; cases h), hl, fun _ => ⟨_, rfl, heap_lt hg, hc g rfl⟩⟩
theorem Own.slice {e : TypeId} {sz : Nat} {v : Value} {n : Nat} {xs : List Value} (M : Own W0 w L) (h : .row e sz v n xs ∈ L) : SliceAt w w.heap.size sz v n xs := slice_of_row (M.ok _ h)
/-- A row's value is a slice. -/
theorem Own.form {e : TypeId} {sz : Nat} {v : Value} {n : Nat} {xs : List Value} (M : Own W0 w L) (h : .row e sz v n xs ∈ L) : ∃ A c, v = .slice A n c := by
  obtain ⟨A, c, h, -⟩ := M.slice h
  exact ⟨A, c, h⟩
theorem Own.seen {sz : Nat} {v : Value} {n : Nat} {xs : List Value} (M : Own W0 w L) (h : .view sz v n xs ∈ L) : SliceAt w w.heap.size sz v n xs := M.ok _ h

/-- What lay below the beginning may be looked at beside all that is owned. -/
theorem Own.look {sz : Nat} {v : Value} {n : Nat} {xs : List Value} (M : Own W0 w L) (h : SliceAt W0 W0.heap.size sz v n xs) : Own W0 w (.view sz v n xs :: L) := by
  refine ⟨M.below, ?_, ?_⟩
  · intro z hz
    rcases List.mem_cons.1 hz with rfl | hz
    · exact h.below M.below
    · exact M.ok z hz
  · refine List.pairwise_cons.2 ⟨fun z hz hm k hk hzk => ?_, M.apart⟩
    have hzm : z.mine := by rcases hm with hm | hm; exact hm.elim; exact hm
    have := (Ent.lt_of_mine (M.ok z hz) hzm hzk).1
    obtain ⟨hn, hk⟩ := hk
    obtain ⟨A, c, rfl, _, _, _, h3⟩ := h
    obtain ⟨ad, rfl, hb, _⟩ := h3.2 hn
    have : ad.block = k := by simpa [Value.ownBlock] using hk
    omega
/-- A row that is no longer written is a view. -/
theorem Own.share {e : TypeId} {sz : Nat} {v : Value} {n : Nat} {xs : List Value} (M : Own W0 w (L1 ++ (.row e sz v n xs :: L2))) : Own W0 w (L1 ++ (.view sz v n xs :: L2)) := by
  have hp := List.pairwise_append.1 M.apart
  have hp2 := List.pairwise_cons.1 hp.2.1
  have ap : ∀ z, Apart z (.row e sz v n xs) → Apart z (.view sz v n xs) := fun z hz hm k hzk hk => hz (.inr trivial) k hzk hk.2
  refine ⟨M.below, fun z hz => ?_, List.pairwise_append.2 ⟨hp.1, List.pairwise_cons.2 ⟨fun z hz => (ap z (hp2.1 z hz).symm).symm, hp2.2⟩, fun z hz y hy => ?_⟩⟩
  · simp only [List.mem_append, List.mem_cons] at hz
    rcases hz with hz | rfl | hz
    · exact M.ok z (by simp [hz])
    · exact slice_of_row (M.ok (.row e sz v n xs) (by simp))
    · exact M.ok z (by simp [hz])
  · rcases List.mem_cons.1 hy with rfl | hy
    · exact ap z (hp.2.2 z hz _ (by simp))
    · exact hp.2.2 z hz y (by simp [hy])
/-- The first of two blocks lies apart from the second. -/
theorem Own.apart_of (M : Own W0 w (x :: L)) (h : y ∈ L) (hm : x.mine ∨ y.mine) {k : Nat} (hx : x.foot k) : ¬ y.foot k := (List.pairwise_cons.1 M.apart).1 y h hm k hx
end

theorem Own.ne {W0 w : World} {L : List Ent} {g g' : Nat} {t t' : TypeId} {cs cs' : Array Value} (M : Own W0 w (.blk g t cs :: L)) (h : .blk g' t' cs' ∈ L) : g ≠ g' := fun e =>
  M.apart_of h (.inl trivial) (k := g) rfl e

/-! ## append -/
section
variable {P : Program} {W0 w : World} {L1 L2 : List Ent}
theorem run_append_of_nil (base : Nat) (t ty e : TypeId) (i : TypeInfo) (size : Nat) (ht : P.underlying t = some (.slice e)) (hi : P.info? e = some i)
    (v : Value) (n : Nat) (xs : List Value) (hown : w.ownsRow base e size v n xs) (c : Nat) : (Builtin.append_ #[t, t] ty #[v, .slice none 0 c]).run P w = .ok v w := by
  rcases hown.2 with ⟨rfl, rfl⟩ | ⟨g, cap, cur, rfl, _, _, hnc, _⟩
  · simp [Builtin.append_, run_underlying ht, sizeOf, typeInfo, hi, Builtin.lenOf, Builtin.firstCells]
  · simp [Builtin.append_, run_underlying ht, sizeOf, typeInfo, hi, Builtin.lenOf, Builtin.firstCells, hnc, storeCells]

/-- A type's zero value, the cells and the bytes of one. -/
def Sized (P : Program) (t e : TypeId) (sz bytes : Nat) : Prop :=
  P.underlying t = some (.slice e) ∧ ∃ i z, P.info? e = some i ∧ i.zero = some z ∧ i.size = sz ∧ i.bytes = bytes ∧ z.cells.size = sz ∧ 0 < sz
theorem Sized.mk' {t e : TypeId} {sz bytes : Nat} (h1 : P.underlying t = some (.slice e)) (z : Value) (h2 : (P.info? e).map (fun i => (i.zero, i.size, i.bytes)) = some (some z, sz, bytes)) (h3 : z.cells.size = sz := by rfl) (h4 : 0 < sz := by decide) : Sized P t e sz bytes := by
  obtain ⟨i, h5, h6, h7, h8⟩ := info_parts h2
  exact ⟨h1, i, z, h5, h6, h7, h8, h3, h4⟩

theorem run_append_Own {t ty e : TypeId} {sz bytes : Nat} (hS : Sized P t e sz bytes) {v pv : Value} {n m : Nat} {xs news : List Value} (M : Own W0 w (L1 ++ (.row e sz v n xs :: L2)))
    (hp : SliceAt w w.heap.size sz pv m news) (h1 : ∀ u ∈ news, u.oneCell' = true) (h63 : n + m ≤ maxLen) (hbytes : (n + m) * bytes ≤ 140737488355328) :
    ∃ v' w', (Builtin.append_ #[t, t] ty #[v, pv]).run P w = .ok v' w' ∧ Own W0 w' (L1 ++ (.row e sz v' (n + m) (xs ++ news) :: L2)) := by
  obtain ⟨ht, i, z, hi, hz, hsize, hby, hzs, hsz⟩ := hS
  obtain ⟨A, c, rfl, hmc, hcm, _, hr⟩ := hp
  have hown : w.ownsRow W0.heap.size e sz v n xs := M.ok (.row e sz v n xs) (by simp)
  rcases Nat.eq_zero_or_pos m with h0 | h0
  · subst h0
    have hn : news = [] := List.eq_nil_of_length_eq_zero (by simpa using hr.1)
    subst hn
    cases A with
    | none => exact ⟨v, w, run_append_of_nil _ t ty e i sz ht hi v n xs hown c, by simpa using M⟩
    | some ad =>
      obtain ⟨v', w', hrun, h2, h3, _, h5⟩ := run_append_own_at (P := P) w W0.heap.size t ty e i z sz bytes ht hi hz hsize hby hzs hsz v n xs hown ad 0 c [] (by simp) (by simp) (by simp) h63 hbytes M.below.size
      refine ⟨v', w', hrun, ?_⟩
      refine Own.step (As := [.row e sz v n xs]) (Bs := [.row e sz v' (n + 0) (xs ++ [])]) M (by simp [Ent.mine]) h3.os h3.tape h3.output h3.size (fun k hk hx => h3.block k hk (fun e1 => ?_)) (by simpa [Ent.ok] using h2) (by simp) ?_
      · simp only [List.mem_singleton, forall_eq] at hx
        exact hx e1.symm
      · simp only [List.mem_singleton, forall_eq, exists_eq_left]
        intro k hk
        rcases h5 with h5 | h5
        · exact .inl (h5.symm.trans hk)
        · refine .inr ?_
          have : some w.heap.size = some k := h5.symm.trans hk
          injection this with this; omega
  · obtain ⟨ad, rfl, _, hc⟩ := hr.2 h0
    obtain ⟨v', w', hrun, h2, h3, _, h5⟩ := run_append_own_at (P := P) w W0.heap.size t ty e i z sz bytes ht hi hz hsize hby hzs hsz v n xs hown ad m c news hr.1 hc h1 h63 hbytes M.below.size
    refine ⟨v', w', hrun, ?_⟩
    refine Own.step (As := [.row e sz v n xs]) (Bs := [.row e sz v' (n + m) (xs ++ news)]) M (by simp [Ent.mine]) h3.os h3.tape h3.output h3.size (fun k hk hx => h3.block k hk (fun e1 => ?_)) (by simpa [Ent.ok] using h2) (by simp) ?_
    · simp only [List.mem_singleton, forall_eq] at hx
      exact hx e1.symm
    · simp only [List.mem_singleton, forall_eq, exists_eq_left]
      intro k hk
      rcases h5 with h5 | h5
      · exact .inl (h5.symm.trans hk)
      · refine .inr ?_
        have : some w.heap.size = some k := h5.symm.trans hk
        injection this with this; omega

theorem wp_append_Own {o : Oper} {a : Act} {K : Act → World → Prop} {Q : Exit → Act → World → Prop} (s x : Operand) (t : TypeId)
    (ho : o.op = .call { callee := .builtin .append, args := #[s, x], argTypes := #[t, t] }) {e : TypeId} {sz bytes : Nat} (hS : Sized P t e sz bytes)
    {v pv : Value} {n m : Nat} {xs news : List Value} (hs : a.eval s = v) (hx : a.eval x = pv) (M : Own W0 w (L1 ++ (.row e sz v n xs :: L2)))
    (hp : SliceAt w w.heap.size sz pv m news) (h1 : ∀ u ∈ news, u.oneCell' = true) (h63 : n + m ≤ maxLen) (hbytes : (n + m) * bytes ≤ 140737488355328)
    (h : ∀ v' w', Own W0 w' (L1 ++ (.row e sz v' (n + m) (xs ++ news) :: L2)) → K (a.put o.dst v') w') : o.wp P a w K Q := by
  obtain ⟨v', w', hrun, h2⟩ := run_append_Own (ty := o.type) hS M hp h1 h63 hbytes
  unfold Oper.wp execOp
  simp only [ho, resolve, invoke, builtin, Sem.run_bind, Sem.run_pure, Result.andThen_ok, List.map_toArray, List.map_cons, List.map_nil, hs, hx, hrun]
  exact h v' w' h2

theorem step_append_Own {ops : Array Oper} {o : Oper} {a : Act} {K : Act → World → Prop} {Q : Exit → Act → World → Prop} {E : Prop} (hgd : o.guard = none) (s x : Operand) (t : TypeId)
    (ho : o.op = .call { callee := .builtin .append, args := #[s, x], argTypes := #[t, t] }) {e : TypeId} {sz bytes : Nat} (hS : Sized P t e sz bytes)
    {v pv : Value} {n m : Nat} {xs news : List Value} (hs : a.eval s = v) (hx : a.eval x = pv) (M : Own W0 w (L1 ++ (.row e sz v n xs :: L2)))
    (hp : SliceAt w w.heap.size sz pv m news) (h1 : ∀ u ∈ news, u.oneCell' = true) (h63 : n + m ≤ maxLen) (hbytes : (n + m) * bytes ≤ 140737488355328)
    (h : ∀ v' w', Own W0 w' (L1 ++ (.row e sz v' (n + m) (xs ++ news) :: L2)) → K (a.put o.dst v') w') : if Region.wanted o (yielded ops a.tmps) = true then Oper.wp P o a w K Q else E := by
  have hw : Region.wanted o (yielded ops a.tmps) = true := by simp [Region.wanted, hgd]
  rw [if_pos hw]
  exact wp_append_Own s x t ho hS hs hx M hp h1 h63 hbytes h

theorem wpList_append_Own {ops : Array Oper} {rest : List Oper} {o : Oper} {a : Act} {Q : Exit → Act → World → Prop} (hgd : o.guard = none) (s x : Operand) (t : TypeId)
    (ho : o.op = .call { callee := .builtin .append, args := #[s, x], argTypes := #[t, t] }) {e : TypeId} {sz bytes : Nat} (hS : Sized P t e sz bytes)
    {v pv : Value} {n m : Nat} {xs news : List Value} (hs : a.eval s = v) (hx : a.eval x = pv) (M : Own W0 w (L1 ++ (.row e sz v n xs :: L2)))
    (hp : SliceAt w w.heap.size sz pv m news) (h1 : ∀ u ∈ news, u.oneCell' = true) (h63 : n + m ≤ maxLen) (hbytes : (n + m) * bytes ≤ 140737488355328)
    (h : ∀ v' w', Own W0 w' (L1 ++ (.row e sz v' (n + m) (xs ++ news) :: L2)) → wpList P ops Q rest (a.put o.dst v') w') : wpList P ops Q (o :: rest) a w :=
  wpList_plain hgd fun _ hK => wp_append_Own s x t ho hS hs hx M hp h1 h63 hbytes fun v' w' h2 => hK _ _ (h v' w' h2)
end

/-! ## a new block, as one step of the walk -/
section
variable {P : Program} {ops : Array Oper} {o : Oper} {a : Act} {Q : Exit → Act → World → Prop} {rest : List Oper} {W0 W : World} {L : List Ent}
/-- The arm at the operation that writes slot N. -/
theorem gate {N : Tmp} (_hN : o.dst = some N) (h : wpList P ops Q (o :: rest) a W) : wpList P ops Q (o :: rest) a W := h
theorem wpList_box_Own (hgd : o.guard = none) {cs : Array Value} {t : TypeId}
    (hrun : (execOp a.eval o).run P W = .ok (.value (.pointer (some ⟨W.heap.size, 0, none⟩))) (W.alloc (.cells cs t (0, 0)))) (M : Own W0 W L)
    (h : ∀ g w', Own W0 w' (.blk g t cs :: L) → wpList P ops Q rest (a.put o.dst (.pointer (some ⟨g, 0, none⟩))) w') : wpList P ops Q (o :: rest) a W :=
  wpList_plain hgd fun K hK => by
    unfold Oper.wp
    rw [hrun]
    exact hK _ _ (h _ _ (M.alloc t cs))
end

/-- Whole numbers as values. -/
def ints (k : IntKind) (l : List Int) : List Value := l.map (Value.int k)
theorem ints_length (k : IntKind) (l : List Int) : (ints k l).length = l.length := List.length_map _
theorem ints_append (k : IntKind) (l m : List Int) : ints k (l ++ m) = ints k l ++ ints k m := List.map_append
theorem ints_one (k : IntKind) (l : List Int) : ∀ u ∈ ints k l, u.oneCell' = true := by
  intro u hu
  obtain ⟨x, _, rfl⟩ := List.mem_map.1 hu
  rfl
theorem ints_cut (k : IntKind) (l : List Int) (i j : Nat) : ((ints k l).drop i).take j = ints k ((l.drop i).take j) := by
  unfold ints; rw [List.map_take, List.map_drop]
theorem ints_get (k : IntKind) (l : List Int) (i : Nat) (h : i < l.length) : (ints k l)[i]? = some (.int k (l.getD i 0)) := by
  unfold ints; simp [List.getD, h]

theorem one_all {vs : List Value} (h : vs.all (fun u => u.oneCell') = true) : ∀ u ∈ vs, u.oneCell' = true := by simpa using h

/-! ## what was built in place: '[]T{x, ..}' -/
theorem SliceAt.built {W0 w : World} {L : List Ent} {g : Nat} {t : TypeId} {cs : Array Value} (M : Own W0 w L) (h : .blk g t cs ∈ L) (sz n : Nat) (hl : cs.size = n * sz) (hn : n ≤ maxLen) : SliceAt w w.heap.size sz (.slice (some ⟨g, 0, none⟩) n n) n cs.toList := by
  refine ⟨_, n, rfl, Nat.le_refl _, hn, (by intro h; cases h), by simpa using hl, fun _ => ⟨_, rfl, M.lt h, fun j u hu => ?_⟩⟩
  have hadd : (⟨g, 0, none⟩ : Addr).add j = ⟨g, j, none⟩ := by unfold Addr.add; split <;> simp_all
  rw [hadd, M.cell h]
  simpa using hu
/-- A block that was built in place is a row of the call's own. -/
theorem Own.as_row {W0 w : World} {L1 L2 : List Ent} {g : Nat} {t : TypeId} {cs : Array Value} (M : Own W0 w (L1 ++ (.blk g t cs :: L2))) (sz n : Nat) (hl : cs.size = n * sz) (hn : n ≤ maxLen) :
    Own W0 w (L1 ++ (.row t sz (.slice (some ⟨g, 0, none⟩) n n) n cs.toList :: L2)) := by
  have h0 := M.ok (.blk g t cs) (by simp)
  have := Own.step (As := [.blk g t cs]) (Bs := [.row t sz (.slice (some ⟨g, 0, none⟩) n n) n cs.toList]) (w' := w) M (by simp [Ent.mine]) rfl rfl rfl (Nat.le_refl _) (fun _ _ _ => rfl) (by
    simp only [List.mem_singleton, forall_eq]
    exact ⟨by simpa using hl, .inr ⟨g, n, cs, rfl, h0.1, h0.2, Nat.le_refl _, hn, hl, by rw [← hl, ← Array.length_toList, List.take_length]⟩⟩) (by simp) (by
    simp only [List.mem_singleton, forall_eq, exists_eq_left]
    intro k hk
    refine .inl ?_
    simpa [Ent.foot, Value.ownBlock, eq_comm] using hk)
  simpa using this
theorem Own.nil_row {W0 w : World} {L : List Ent} (M : Own W0 w L) (e : TypeId) (sz : Nat) : Own W0 w (.row e sz (.slice none 0 0) 0 [] :: L) :=
  ⟨M.below, fun x hx => by
    rcases List.mem_cons.1 hx with rfl | hx
    · exact World.ownsRow_nil _ _ _ _
    · exact M.ok x hx, List.pairwise_cons.2 ⟨fun y _ _ k hk => by simp [Ent.foot, Value.ownBlock] at hk, M.apart⟩⟩
end Go.Proofs.YtiedbfaehndooaaDoor

/- Structs and arrays of many cells: taken out of a block, put into one, indexed, compared. -/
namespace Go.Proofs.YtiedbfaehndooaaDoor
open Go Go.RowKit
set_option linter.unusedVariables false
set_option linter.unusedSimpArgs false

section
variable {P : Program} {ops : Array Oper} {o : Oper} {a : Act} {Q : Exit → Act → World → Prop} {rest : List Oper} {W0 w w' : World} {L L1 L2 : List Ent}

/-- One operation whose run is known. -/
theorem wpList_run {v : Value} (hw : Region.wanted o (yielded ops a.tmps) = true) (hrun : (execOp a.eval o).run P w = .ok (.value v) w') (h : wpList P ops Q rest (a.put o.dst v) w') : wpList P ops Q (o :: rest) a w := by
  refine wpList_step fun K hK => ?_
  rw [if_pos hw]
  unfold Oper.wp
  rw [hrun]
  exact hK _ _ h
theorem wpList_skip_run (hw : Region.wanted o (yielded ops a.tmps) = true) (hrun : (execOp a.eval o).run P w = .ok .skip w') (h : wpList P ops Q rest (a.put o.dst undef) w') : wpList P ops Q (o :: rest) a w := by
  refine wpList_step fun K hK => ?_
  rw [if_pos hw]
  unfold Oper.wp
  rw [hrun]
  exact hK _ _ h

def isAggD (d : TypeDesc) : Bool := match d with | .struct _ | .array _ _ => true | _ => false
/-- A struct or an array of n cells. -/
def AggOf (P : Program) (ty : TypeId) (n : Nat) : Prop := (∃ d, P.underlying ty = some d ∧ isAggD d = true) ∧ (P.info? ty).map (·.size) = some n
theorem AggOf.mk' {ty : TypeId} {n : Nat} {d : TypeDesc} (h1 : P.underlying ty = some d) (h2 : isAggD d = true) (h3 : (P.info? ty).map (·.size) = some n) : AggOf P ty n := ⟨⟨d, h1, h2⟩, h3⟩

theorem addr_add (g off j : Nat) : (⟨g, off, none⟩ : Addr).add j = ⟨g, off + j, none⟩ := by
  unfold Addr.add
  split
  · simp_all
  · rfl
theorem run_isAgg {ty n : Nat} (h : AggOf P ty n) (w : World) : (isAgg ty).run P w = .ok true w := by
  obtain ⟨⟨d, hu, hd⟩, _⟩ := h
  unfold isAgg
  rw [Sem.run_bind, run_underlying hu w]
  cases d <;> simp_all [isAggD]
theorem run_load_agg {ty n : Nat} (h : AggOf P ty n) {g off : Nat} {t : TypeId} {cs : Array Value} {fr : Nat × Nat} {vs : List Value} (hg : w.heap[g]? = some (.cells cs t fr)) (hv : (cs.toList.drop off).take n = vs) (hn : vs.length = n) :
    (loadVar ty ⟨g, off, none⟩).run P w = .ok (.agg vs.toArray) w := by
  have hl : (loadCells ⟨g, off, none⟩ vs.length).run P w = .ok vs.toArray w :=
    run_loadCells_list (P := P) w ⟨g, off, none⟩ vs (fun j v hv' => by
      rw [addr_add, cell_of_row w g _ cs t fr hg]
      rw [← hv] at hv'
      rw [List.getElem?_take] at hv'
      split at hv'
      · rw [List.getElem?_drop] at hv'; simpa using hv'
      · cases hv')
  obtain ⟨_, hi⟩ := id h
  cases hq : P.info? ty with
  | none => simp [hq] at hi
  | some i =>
    have hs : i.size = n := by simpa [hq] using hi
    rw [hn] at hl
    simp [loadVar, Sem.run_bind, run_isAgg h w, sizeOf, typeInfo, hq, hs, hl]
theorem exec_load_agg {ty n : Nat} (h : AggOf P ty n) {x : Operand} (ho : o.op = .load ty x) {g off : Nat} (hx : a.eval x = .pointer (some ⟨g, off, none⟩)) {t : TypeId} {cs : Array Value} {vs : List Value} (M : Own W0 w L) (hm : .blk g t cs ∈ L) (hv : (cs.toList.drop off).take n = vs) (hn : vs.length = n) :
    (execOp a.eval o).run P w = .ok (.value (.agg vs.toArray)) w := by
  unfold execOp
  simp only [ho, hx, Instr.loadAt, Instr.sureAddr, Sem.run_bind, Sem.run_pure, Result.andThen_ok, run_load_agg h (M.heap hm) hv hn]

theorem storeCells_own : ∀ (vs : List Value) (off i : Nat) (w : World) (g : Nat) (t : TypeId) (pre mid post : List Value), mid.length = vs.length → off + i = pre.length → (∀ v ∈ vs, v.oneCell' = true) → Own W0 w (L1 ++ (.blk g t (pre ++ (mid ++ post)).toArray :: L2)) →
    ∃ w', (storeCells ⟨g, off, none⟩ vs i).run P w = .ok () w' ∧ Own W0 w' (L1 ++ (.blk g t (pre ++ (vs ++ post)).toArray :: L2)) := by
  intro vs
  induction vs with
  | nil =>
    intro off i w g t pre mid post hm _ _ M
    obtain rfl : mid = [] := List.eq_nil_of_length_eq_zero (by simpa using hm)
    exact ⟨w, by simp [storeCells], M⟩
  | cons v vs ih =>
    intro off i w g t pre mid post hm hi h1 M
    match mid, hm with
    | m :: mid, hm =>
      have M2 := M.set (off + i) v
      have e : ((pre ++ (m :: mid ++ post)).toArray.setIfInBounds (off + i) v) = ((pre ++ [v]) ++ (mid ++ post)).toArray := by
        rw [hi]
        simp
      rw [e] at M2
      obtain ⟨w', hr, M3⟩ := ih off (i + 1) _ g t (pre ++ [v]) mid post (by simpa using hm) (by simp; omega) (fun u hu => h1 u (by simp [hu])) M2
      refine ⟨w', ?_, by simpa using M3⟩
      have hc : w.cell? ⟨g, off + i, none⟩ = some m := by
        have := M.cell (g := g) (t := t) (cs := (pre ++ (m :: mid ++ post)).toArray) (by simp) (off + i)
        rw [this, hi]
        simp
      have hf := M.free (g := g) (t := t) (cs := (pre ++ (m :: mid ++ post)).toArray) (by simp) (off + i)
      unfold storeCells
      rw [Sem.run_bind, addr_add, run_store P w _ v .plain (h1 v (by simp))]
      simp only [stored, hc, hf]
      exact hr
theorem exec_store_agg {ty n : Nat} (h : (P.info? ty).map (·.size) = some n) {x y : Operand} (ho : o.op = .store ty x y) {g off : Nat} (hx : a.eval x = .pointer (some ⟨g, off, none⟩)) {t : TypeId} {pre mid post vs : List Value} (hy : a.eval y = .agg vs.toArray)
    (hn : vs.length = n) (hmid : mid.length = n) (hpre : pre.length = off) (h1 : ∀ v ∈ vs, v.oneCell' = true) (M : Own W0 w (L1 ++ (.blk g t (pre ++ (mid ++ post)).toArray :: L2))) :
    ∃ w', (execOp a.eval o).run P w = .ok .skip w' ∧ Own W0 w' (L1 ++ (.blk g t (pre ++ (vs ++ post)).toArray :: L2)) := by
  obtain ⟨w', hr, M'⟩ := storeCells_own (P := P) vs off 0 w g t pre mid post (by omega) (by omega) h1 M
  refine ⟨w', ?_, M'⟩
  cases hq : P.info? ty with
  | none => simp [hq] at h
  | some i =>
    have hs : i.size = n := by simpa [hq] using h
    unfold execOp
    simp only [ho, hx, hy, Instr.storeAt, Instr.sureAddr, Sem.run_bind, Sem.run_pure, Result.andThen_ok, storeVar, sizeOf, typeInfo]
    simp [hq, hs, Value.cells, hn, hr]

theorem run_index_ints {t e n : Nat} {k : IntKind} (ht : P.underlying t = some (.array n e)) (he : P.underlying e = some (.int k)) (hi : (P.info? e).map (·.size) = some 1) (zs : List Int) (i : Nat) (hz : zs.length = n) (hlt : i < n) (w : World) :
    (Instr.index t (.agg (ints k zs).toArray) (.int .i64 (i : Int))).run P w = .ok (.int k (zs.getD i 0)) w := by
  cases hq : P.info? e with
  | none => simp [hq] at hi
  | some j =>
    have hs : j.size = 1 := by simpa [hq] using hi
    have hagg : (isAgg e).run P w = .ok false w := by
      unfold isAgg
      rw [Sem.run_bind, run_underlying he w]
      rfl
    have hg := ints_get k zs i (by omega)
    simp only [Instr.index, asIntOf, Sem.run_bind, run_underlying ht w, Result.andThen_ok, Sem.run_pure]
    rw [if_pos ⟨by omega, by omega⟩]
    simp [part, hagg, sizeOf, typeInfo, hq, hs, Sem.run_bind, hg]
theorem gateSt {t : TypeId} {p : Tmp} {y : Operand} (_ho : o.op = .store t (.tmp p) y) (h : wpList P ops Q (o :: rest) a w) : wpList P ops Q (o :: rest) a w := h
theorem wpList_store_agg {ty n : Nat} (hw : Region.wanted o (yielded ops a.tmps) = true) (hd : o.dst = none) (h : (P.info? ty).map (·.size) = some n) {x y : Operand} (ho : o.op = .store ty x y) {g off : Nat} (hx : a.eval x = .pointer (some ⟨g, off, none⟩)) {t : TypeId} {pre mid post vs : List Value} (hy : a.eval y = .agg vs.toArray)
    (hn : vs.length = n) (hmid : mid.length = n) (hpre : pre.length = off) (h1 : ∀ v ∈ vs, v.oneCell' = true) (M : Own W0 w (L1 ++ (.blk g t (pre ++ (mid ++ post)).toArray :: L2)))
    (K : ∀ w', Own W0 w' (L1 ++ (.blk g t (pre ++ (vs ++ post)).toArray :: L2)) → wpList P ops Q rest a w') : wpList P ops Q (o :: rest) a w := by
  obtain ⟨w', hr, M'⟩ := exec_store_agg h ho hx hy hn hmid hpre h1 M
  refine wpList_skip_run hw hr ?_
  rw [hd]
  exact K w' M'
/-- A whole block is put anew. -/
theorem wpList_store_all {ty n : Nat} (hw : Region.wanted o (yielded ops a.tmps) = true) (hd : o.dst = none) (h : (P.info? ty).map (·.size) = some n) {x y : Operand} (ho : o.op = .store ty x y) {g : Nat} (hx : a.eval x = .pointer (some ⟨g, 0, none⟩)) {t : TypeId} {mid vs : List Value} (hy : a.eval y = .agg vs.toArray)
    (hn : vs.length = n) (hmid : mid.length = n) (h1 : ∀ v ∈ vs, v.oneCell' = true) (M : Own W0 w (L1 ++ (.blk g t mid.toArray :: L2)))
    (K : ∀ w', Own W0 w' (L1 ++ (.blk g t vs.toArray :: L2)) → wpList P ops Q rest a w') : wpList P ops Q (o :: rest) a w :=
  wpList_store_agg (pre := []) (post := []) (mid := mid) hw hd h ho hx hy hn hmid rfl h1 (by simpa using M) fun w' M' => K w' (by simpa using M')
theorem results_agg {fn : Func} {p : Tmp} {ty n : Nat} (h : fn.results = #[.cell p ty]) (hT : AggOf P ty n) (tmps : Array Value) {g : Nat} (hp : tmps.getD p undef = .pointer (some ⟨g, 0, none⟩)) {t : TypeId} {vs : List Value} (hg : w.heap[g]? = some (.cells vs.toArray t (0, 0))) (hn : vs.length = n) :
    (results fn tmps).run P w = .ok (.agg vs.toArray) w := by
  have hp' : tmps[p]?.getD undef = .pointer (some ⟨g, 0, none⟩) := by simpa using hp
  simp [results, h, hp', asAddr, run_load_agg hT hg (off := 0) (vs := vs) (by rw [← hn]; simp) hn]
theorem results_agg_tmp {fn : Func} {p q : Tmp} {ty n : Nat} (h : fn.results = #[.cell p ty, .tmp q]) (hT : AggOf P ty n) (tmps : Array Value) {g : Nat} (hp : tmps.getD p undef = .pointer (some ⟨g, 0, none⟩)) {t : TypeId} {vs : List Value} (hg : w.heap[g]? = some (.cells vs.toArray t (0, 0))) (hn : vs.length = n) :
    (results fn tmps).run P w = .ok (.tuple #[.agg vs.toArray, tmps.getD q undef]) w := by
  have hp' : tmps[p]?.getD undef = .pointer (some ⟨g, 0, none⟩) := by simpa using hp
  simp [results, h, hp', asAddr, run_load_agg hT hg (off := 0) (vs := vs) (by rw [← hn]; simp) hn]
end
end Go.Proofs.YtiedbfaehndooaaDoor

/- Package word: what each function does to bytes that are read, and to bytes that grow. -/
namespace Go.Proofs.YtiedbfaehndooaaDoor
open Go Go.RowKit
set_option linter.unusedVariables false
set_option linter.unusedSimpArgs false

theorem sized_u8 : Sized Tryd.prog 35 5 1 1 := Sized.mk' Tryd.underlying35 (.int .u8 0) (by kernel_rfl)
theorem nil_u8 (W : World) (a : Option Addr) (n c : Nat) : (binOp .eql 35 (.slice a n c) (.slice none 0 0)).run Tryd.prog W = .ok (.bool a.isNone) W := Lib.run_eql_slice_nil W 35 5 a n c 0 0 Tryd.underlying35
attribute [local go_sem] nil_u8

theorem clone_calls (w : World) {v : Value} {n : Nat} {xs : List Value} (hp : SliceAt w w.heap.size 1 v n xs) (h1 : ∀ u ∈ xs, u.oneCell' = true) (hn : n ≤ 140737488355328) :
    Calls Tryd.prog 42 #[v] w (Ret fun v' w' => Own w w' [.row 5 1 v' n xs]) := by
  have hp' := hp
  obtain ⟨A, c, rfl, hnc, hcm, hA, hr⟩ := hp'
  cases A with
  | none =>
    obtain rfl : c = 0 := hA rfl
    obtain rfl : n = 0 := by omega
    obtain rfl : xs = [] := List.eq_nil_of_length_eq_zero (by simpa using hr.1)
    clear hp hr hA h1
    go_enter Tryd.func42, Tryd.ntmps42
    go_wp2
    go_ret
    exact .mk ((Own.start w).nil_row _ _)
  | some ad =>
    have M0 := hid (((Own.start w).alloc 5 #[]).as_row (L1 := []) (L2 := []) 1 0 rfl (by unfold maxLen; omega))
    have hpH := hid hp
    have h1H := hid h1
    clear hp hr hA h1
    go_enter Tryd.func42, Tryd.ntmps42
    go_wp2_with (at_builtin; refine wpList_append_Own rfl (.tmp 5) (.tmp 6) _ rfl sized_u8 rfl rfl (L1 := []) (L2 := []) M0.out (hpH.out.below ((Below.refl _ _).alloc (Nat.le_refl _) _)) h1H.out (by unfold maxLen; omega) (by omega) ?_; intro v' w' M')
    go_ret
    exact .mk (by simpa using M')

/-! ## Reader -/
/-- A reader: the bytes that it holds (a row of its own), how many were gone through, were there too few? -/
def rdE (b : Nat) (v : Value) (l : List Int) (at_ : Nat) (bad : Bool) : List Ent :=
  [.blk b 119 #[v, .int .i64 at_, .bool bad], .row 5 1 v l.length (ints .u8 l)]

theorem next_nil (n : Int) (w : World) : Calls Tryd.prog 67 #[.pointer none, .int .i64 n] w (Ret fun r w' => r = .tuple #[.slice none 0 0, .bool false] ∧ w = w') := by
  go_enter Tryd.func67, Tryd.ntmps67
  go_wp2
  go_ret2
  exact .mk ⟨rfl, rfl⟩

section
variable {W0 w : World} {L : List Ent} {b at_ : Nat} {v : Value} {l : List Int} {bad : Bool}
theorem rd_cells (M : Own W0 w (rdE b v l at_ bad ++ L)) : w.cell? ⟨b, 0, none⟩ = some v ∧ w.cell? ⟨b, 1, none⟩ = some (.int .i64 at_) ∧ w.cell? ⟨b, 2, none⟩ = some (.bool bad) ∧
    w.frozen? ⟨b, 0, none⟩ = false ∧ w.frozen? ⟨b, 1, none⟩ = false ∧ w.frozen? ⟨b, 2, none⟩ = false := by
  have hm : Ent.blk b 119 #[v, .int .i64 at_, .bool bad] ∈ rdE b v l at_ bad ++ L := by simp [rdE]
  exact ⟨M.cell hm 0, M.cell hm 1, M.cell hm 2, M.free hm 0, M.free hm 1, M.free hm 2⟩

theorem next_bad (n : Int) (M : Own W0 w (rdE b v l at_ true ++ L)) : Calls Tryd.prog 67 #[.pointer (some ⟨b, 0, none⟩), .int .i64 n] w (Ret fun r w' => r = .tuple #[.slice none 0 0, .bool false] ∧ Own W0 w' (rdE b v l at_ true ++ L)) := by
  obtain ⟨c0, c1, c2, -⟩ := rd_cells M
  have MH := hid M
  clear M c0 c1
  go_enter Tryd.func67, Tryd.ntmps67
  go_wp2
  go_ret2
  exact .mk ⟨rfl, MH.out⟩

theorem next_few (n : Int) (hn : n < 0 ∨ (l.length : Int) - at_ < n) (hat : at_ ≤ l.length) (M : Own W0 w (rdE b v l at_ false ++ L)) : Calls Tryd.prog 67 #[.pointer (some ⟨b, 0, none⟩), .int .i64 n] w (Ret fun r w' => r = .tuple #[.slice none 0 0, .bool false] ∧ Own W0 w' (rdE b v l at_ true ++ L)) := by
  obtain ⟨c0, c1, c2, f0, f1, f2⟩ := rd_cells M
  have hs : SliceAt w w.heap.size 1 v l.length (ints .u8 l) := M.slice (e := 5) (by simp [rdE])
  obtain ⟨A, c, rfl, hnc, hcm, hA, hr⟩ := hs
  unfold maxLen at hcm
  have MH := hid M
  clear M hA hr
  by_cases h0 : n < 0
  · have e2 : decide (n < 0) = true := by simpa using h0
    go_enter Tryd.func67, Tryd.ntmps67
    go_wp2
    go_quiet (fail)
    go_wp2
    go_ret2
    exact .mk ⟨rfl, ((MH.out.drewN _).set (L1 := []) 2 (.bool true))⟩
  · have e2 : decide (n < 0) = false := by simpa using h0
    have h3 : (l.length : Int) - at_ < n := by omega
    go_enter Tryd.func67, Tryd.ntmps67
    go_wp2
    go_quiet (fail)
    go_wp2
    go_ret2
    exact .mk ⟨rfl, ((MH.out.drewN _).set (L1 := []) 2 (.bool true))⟩

theorem next_ok (n : Nat) (hn : at_ + n ≤ l.length) (M : Own W0 w (rdE b v l at_ false ++ L)) : Calls Tryd.prog 67 #[.pointer (some ⟨b, 0, none⟩), .int .i64 n] w (Ret fun r w' =>
    ∃ p, r = .tuple #[p, .bool true] ∧ SliceAt w' w'.heap.size 1 p n (ints .u8 ((l.drop at_).take n)) ∧ Own W0 w' (rdE b v l (at_ + n) false ++ L)) := by
  obtain ⟨c0, c1, c2, f0, f1, f2⟩ := rd_cells M
  have hs : SliceAt w w.heap.size 1 v l.length (ints .u8 l) := M.slice (e := 5) (by simp [rdE])
  obtain ⟨A, c, rfl, hnc, hcm, hA, hr⟩ := hs
  unfold maxLen at hcm
  have MH := hid M
  have hrH := hid hr
  have hAH := hid hA
  clear M hA hr
  have e1 : (n : Int) ≤ (l.length : Int) - at_ := by omega
  have e2 : decide ((n : Int) < 0) = false := by simp
  rcases Nat.eq_zero_or_pos n with rfl | h0
  · go_enter Tryd.func67, Tryd.ntmps67
    go_wp2
    go_quiet (fail)
    go_wp2
    go_quiet (fail)
    go_wp2
    go_ret2
    refine .mk ⟨_, rfl, ?_, ?_⟩
    · refine ⟨_, _, rfl, Nat.le_refl _, by unfold maxLen; omega, fun _ => rfl, by simp [ints], fun h => absurd h (by omega)⟩
    · exact (MH.out.drewN _).set (L1 := []) 1 (.int .i64 ((at_ + 0 : Nat) : Int))
  · have hne : ¬ at_ + n = at_ := by omega
    have hne2 : ¬ n = 0 := by omega
    have hsub : at_ + n - at_ = n := by omega
    go_enter Tryd.func67, Tryd.ntmps67
    go_wp2
    go_quiet (fail)
    go_wp2
    go_quiet (fail)
    go_wp2
    go_ret2
    simp only [hsub]
    refine .mk ⟨_, rfl, ?_, (MH.out.drewN _).set (L1 := []) 1 (.int .i64 ((at_ + n : Nat) : Int))⟩
    have hc := (hrH.out.cut (i := at_) (j := at_ + n) (cap := l.length + 1) (by omega) hn (by omega))
    rw [if_neg (by omega), Nat.mul_one, Nat.mul_one, show at_ + n - at_ = n by omega, ints_cut] at hc
    refine ⟨_, _, rfl, Nat.le_refl _, by unfold maxLen; omega, fun h => ?_, (hc.keep fun k hk ⟨ad, hk1, hk2⟩ => Below.heap_setCell _ _ _ _ fun hk3 => ?_).more (by simp [World.setCell])⟩
    · have := hAH.out (by simpa using h); omega
    · simp only [Option.map_eq_some_iff] at hk1
      obtain ⟨ad0, rfl, rfl⟩ := hk1
      refine MH.out.apart_of (y := .row 5 1 (.slice (some ad0) l.length c) l.length (ints .u8 l)) (by simp [rdE]) (.inl trivial) (k := b) rfl ?_
      rw [block_of_add] at hk2
      exact congrArg some (hk2.trans hk3)

end
end Go.Proofs.YtiedbfaehndooaaDoor

/- Package word: numbers of bytes, and bytes that grow. -/
namespace Go.Proofs.YtiedbfaehndooaaDoor
open Go Go.RowKit
set_option linter.unusedVariables false
set_option linter.unusedSimpArgs false
attribute [local go_sem] nil_u8

/-- A number of bytes, the highest first. -/
def be (l : List Int) : Int := l.foldl (fun a b => a * 256 + b) 0
def Bytes (l : List Int) : Prop := ∀ x ∈ l, 0 ≤ x ∧ x < 256
theorem be_snoc (l : List Int) (x : Int) : be (l ++ [x]) = be l * 256 + x := by simp [be]
theorem be_take_succ (l : List Int) (k : Nat) (h : k < l.length) : be (l.take (k + 1)) = be (l.take k) * 256 + l.getD k 0 := by
  rw [List.take_succ_eq_append_getElem h, be_snoc]
  simp [List.getD, h]
theorem be_bound (l : List Int) (h : Bytes l) : ∀ k, k ≤ l.length → 0 ≤ be (l.take k) ∧ be (l.take k) < 256 ^ k := by
  intro k
  induction k with
  | zero => intro _; simp [be]
  | succ k ih =>
    intro hk
    obtain ⟨h1, h2⟩ := ih (by omega)
    have h3 := h (l.getD k 0) (by simp [List.getD, show k < l.length by omega])
    rw [be_take_succ _ _ (by omega), Int.pow_succ]
    omega
theorem be_small (l : List Int) (h : Bytes l) (k : Nat) (hk : k ≤ l.length) (hk4 : k ≤ 4) : 0 ≤ be (l.take k) ∧ be (l.take k) < 4294967296 ∧ (k < 4 → be (l.take k) < 16777216) := by
  obtain ⟨h1, h2⟩ := be_bound l h k hk
  rcases (by omega : k = 0 ∨ k = 1 ∨ k = 2 ∨ k = 3 ∨ k = 4) with rfl | rfl | rfl | rfl | rfl <;> simp only [Int.reducePow] at h2 <;> exact ⟨h1, by omega, by omega⟩

theorem or_u32 (a x : Int) (h0 : 0 ≤ a) (h1 : a < 16777216) (h2 : 0 ≤ x) (h3 : x < 256) : bits .or .u32 (a * 256) x = a * 256 + x := by
  rw [u32_or _ _ (by omega) (by omega) (by omega) (by omega), nat_join8 _ _ (by omega) (by omega)]
  omega

section
variable {W0 w : World} {L : List Ent} {b at_ : Nat} {v : Value} {l : List Int} {bad : Bool}
theorem number_ok (n : Nat) (hn : at_ + n ≤ l.length) (hn4 : n ≤ 4) (hB : Bytes l) (M : Own W0 w (rdE b v l at_ false ++ L)) : Calls Tryd.prog 64 #[.pointer (some ⟨b, 0, none⟩), .int .i64 n] w (Ret fun r w' =>
    r = .int .u32 (be ((l.drop at_).take n)) ∧ Own W0 w' (rdE b v l (at_ + n) false ++ L)) := by
  have MH := hid M
  have hBH := hid hB
  clear M hB
  go_enter Tryd.func64, Tryd.ntmps64
  go_wp2_with (go_at_call 67; refine (next_ok n hn MH.out).mono ?_; rintro _ w1 ⟨_, rfl, p, rfl, ⟨A, c, rfl, hnc, hcm, hA, hr⟩, M1⟩; clear MH hA; (have M1H := hid M1); (have hrH := hid hr); clear M1 hr; unfold maxLen at hcm; (have hx : ((l.drop at_).take n).length = n := (by simp; omega)); generalize hxs : (l.drop at_).take n = xs at *; (have hBx : Hid (Bytes xs) := hid (hxs ▸ fun y hy => hBH.out y (List.mem_of_mem_drop (List.mem_of_mem_take hy)))); (have hxsH := hid hxs); clear hxs; (have hxH := hid hx); clear hx)
  go_loop [7, 20] (fun o i => ∃ k : Nat, k ≤ n ∧ i = .int .i64 k ∧ o = .int .u32 (be (xs.take k))) (fun _ i => n - (intOf i).toNat)
  case atStart => exact ⟨0, Nat.zero_le _, rfl, rfl⟩
  case round =>
    obtain ⟨k, hk, rfl, rfl⟩ := hrel
    by_cases hlt : k < n
    · have hxk := hxH.out
      have hb3 := be_take_succ xs k (by omega)
      obtain ⟨ad, rfl, hc⟩ := hrH.out.cell (j := k) (ints_get .u8 xs k (by omega))
      obtain ⟨hb0, hb1, hb2⟩ := be_small xs hBx.out k (by omega) (by omega)
      obtain ⟨hx0, hx1⟩ := hBx.out (xs.getD k 0) (by simp [List.getD, show k < xs.length by omega])
      generalize xs.getD k 0 = x at *
      have hb2' := hb2 (by omega)
      have hor := hid (or_u32 _ x hb0 hb2' hx0 hx1)
      have hb3H := hid hb3
      clear hb2 hxk hb3
      go_wp2
      go_round
      case rel => exact ⟨k + 1, by omega, by go_num, by rw [hb3H.out, ← hor.out]⟩
      case measure => simp [intOf]; omega
    · obtain rfl : k = n := by omega
      go_wp2
      go_ret
      exact .mk ⟨by rw [hxsH.out, List.take_of_length_le (l := xs) (by have := hxH.out; omega)]; rfl, M1H.out⟩

/-- Are there so many bytes? -/
def rOk (l : List Int) (at_ : Nat) (bad : Bool) (n : Int) : Bool := !bad && decide (0 ≤ n ∧ n ≤ (l.length : Int) - at_)
def rAt (l : List Int) (at_ : Nat) (bad : Bool) (n : Int) : Nat := if rOk l at_ bad n then at_ + n.toNat else at_
def rBytes (l : List Int) (at_ : Nat) (bad : Bool) (n : Int) : List Int := if rOk l at_ bad n then (l.drop at_).take n.toNat else []
def rNum (l : List Int) (at_ : Nat) (bad : Bool) (n : Int) : Int := be (rBytes l at_ bad n)
/-- A reader, so far gone. -/
structure RdOk (l : List Int) (at_ : Nat) : Prop where
  le : at_ ≤ l.length
  bytes : Bytes l

theorem next_any (n : Int) (hat : at_ ≤ l.length) (M : Own W0 w (rdE b v l at_ bad ++ L)) : Calls Tryd.prog 67 #[.pointer (some ⟨b, 0, none⟩), .int .i64 n] w (Ret fun r w' =>
    ∃ p, r = .tuple #[p, .bool (rOk l at_ bad n)] ∧ SliceAt w' w'.heap.size 1 p (rBytes l at_ bad n).length (ints .u8 (rBytes l at_ bad n)) ∧ Own W0 w' (rdE b v l (rAt l at_ bad n) (!rOk l at_ bad n) ++ L)) := by
  cases bad with
  | true =>
    refine (next_bad n M).mono ?_
    rintro _ w1 ⟨_, rfl, rfl, M1⟩
    exact .mk ⟨_, rfl, SliceAt.nil _ _ _, M1⟩
  | false =>
    by_cases h : 0 ≤ n ∧ n ≤ (l.length : Int) - at_
    · obtain ⟨k, rfl⟩ := Int.eq_ofNat_of_zero_le h.1
      have hk : rOk l at_ false k = true := by simp only [rOk, h, and_self, decide_true, Bool.not_false, Bool.and_self]
      refine (next_ok k (by omega) M).mono ?_
      rintro _ w1 ⟨_, rfl, p, rfl, hp, M1⟩
      refine .mk ⟨p, by rw [hk], ?_, ?_⟩
      · simp only [rBytes, hk, if_true, Int.toNat_natCast]
        rw [show ((l.drop at_).take k).length = k by simp; omega]
        exact hp
      · simp only [rAt, hk, if_true, Int.toNat_natCast]
        exact M1
    · have hk : rOk l at_ false n = false := by simp only [rOk, h, decide_false, Bool.and_false]
      refine (next_few n (by omega) hat M).mono ?_
      rintro _ w1 ⟨_, rfl, rfl, M1⟩
      refine .mk ⟨_, by rw [hk], ?_, ?_⟩
      · simp only [rBytes, hk, Bool.false_eq_true, if_false]
        exact SliceAt.nil _ _ _
      · simp only [rAt, hk, Bool.false_eq_true, if_false]
        exact M1

theorem number_no (n : Nat) (hn4 : n ≤ 4) (hat : at_ ≤ l.length) (h : rOk l at_ bad n = false) (M : Own W0 w (rdE b v l at_ bad ++ L)) : Calls Tryd.prog 64 #[.pointer (some ⟨b, 0, none⟩), .int .i64 n] w (Ret fun r w' =>
    r = .int .u32 0 ∧ Own W0 w' (rdE b v l at_ true ++ L)) := by
  have hN := next_any (bad := bad) n hat M
  have hA : rAt l at_ bad n = at_ := by simp only [rAt, h, Bool.false_eq_true, if_false]
  rw [h, hA] at hN
  have NH := hid hN
  clear hN M h hA
  go_enter Tryd.func64, Tryd.ntmps64
  go_wp2_with (go_at_call 67; refine NH.out.mono ?_; rintro _ w1 ⟨_, rfl, p, rfl, hp, M1⟩; (have M1H := hid M1); clear M1 hp)
  go_ret
  exact .mk ⟨rfl, M1H.out⟩

theorem number_any (n : Nat) (hn4 : n ≤ 4) (hR : RdOk l at_) (M : Own W0 w (rdE b v l at_ bad ++ L)) : Calls Tryd.prog 64 #[.pointer (some ⟨b, 0, none⟩), .int .i64 n] w (Ret fun r w' =>
    r = .int .u32 (rNum l at_ bad n) ∧ Own W0 w' (rdE b v l (rAt l at_ bad n) (!rOk l at_ bad n) ++ L)) := by
  cases h : rOk l at_ bad n with
  | true =>
    have h' := h
    simp only [rOk, Bool.and_eq_true, Bool.not_eq_true', decide_eq_true_eq] at h'
    obtain ⟨rfl, h1, h2⟩ := h'
    simp only [rNum, rBytes, rAt, h, if_true, Int.toNat_natCast]
    exact number_ok n (by omega) hn4 hR.bytes M
  | false =>
    simp only [rNum, rBytes, rAt, h, Bool.false_eq_true, if_false]
    exact number_no n hn4 hR.le h M
theorem RdOk.next (hR : RdOk l at_) (bad : Bool) (n : Int) : RdOk l (rAt l at_ bad n) := by
  refine ⟨?_, hR.bytes⟩
  have := hR.le
  unfold rAt
  split
  · rename_i h
    simp only [rOk, Bool.and_eq_true, Bool.not_eq_true', decide_eq_true_eq] at h
    omega
  · exact this
theorem Bytes.cut (h : Bytes l) (bad : Bool) (n : Int) : Bytes (rBytes l at_ bad n) := by
  unfold rBytes
  split
  · exact fun y hy => h y (List.mem_of_mem_drop (List.mem_of_mem_take hy))
  · intro y hy; cases hy
theorem rBytes_length (n : Int) : (rBytes l at_ bad n).length = if rOk l at_ bad n then n.toNat else 0 := by
  unfold rBytes
  split
  · rename_i h
    simp only [rOk, Bool.and_eq_true, Bool.not_eq_true', decide_eq_true_eq] at h
    simp; omega
  · rfl
theorem rNum_bound (h : Bytes l) (n : Nat) (hn : n ≤ 4) : 0 ≤ rNum l at_ bad n ∧ rNum l at_ bad n < 256 ^ n := by
  have h1 := be_bound _ (h.cut (at_ := at_) bad n) (rBytes l at_ bad n).length (Nat.le_refl _)
  rw [List.take_length] at h1
  unfold rNum
  refine ⟨h1.1, ?_⟩
  have h2 := h1.2
  rw [rBytes_length] at h2
  split at h2
  · simpa using h2
  · rcases (by omega : n = 0 ∨ n = 1 ∨ n = 2 ∨ n = 3 ∨ n = 4) with rfl | rfl | rfl | rfl | rfl <;> simp only [Int.reducePow] at h2 ⊢ <;> omega

theorem rd_U8 (hR : RdOk l at_) (M : Own W0 w (rdE b v l at_ bad ++ L)) : Calls Tryd.prog 65 #[.pointer (some ⟨b, 0, none⟩)] w (Ret fun r w' =>
    r = .int .u8 (rNum l at_ bad 1) ∧ Own W0 w' (rdE b v l (rAt l at_ bad 1) (!rOk l at_ bad 1) ++ L)) := by
  have NH := hid (number_any 1 (by omega) hR M)
  obtain ⟨h0, h1⟩ : 0 ≤ rNum l at_ bad 1 ∧ rNum l at_ bad 1 < 256 := by simpa using rNum_bound (bad := bad) (at_ := at_) hR.bytes 1 (by omega)
  clear M hR
  go_enter Tryd.func65, Tryd.ntmps65
  go_wp2_with (go_at_call 64; refine NH.out.mono ?_; rintro _ w1 ⟨_, rfl, rfl, M1⟩; (have M1H := hid M1); clear M1)
  go_ret
  exact .mk ⟨rfl, M1H.out⟩

theorem rd_U16 (hR : RdOk l at_) (M : Own W0 w (rdE b v l at_ bad ++ L)) : Calls Tryd.prog 53 #[.pointer (some ⟨b, 0, none⟩)] w (Ret fun r w' =>
    r = .int .u16 (rNum l at_ bad 2) ∧ Own W0 w' (rdE b v l (rAt l at_ bad 2) (!rOk l at_ bad 2) ++ L)) := by
  have NH := hid (number_any 2 (by omega) hR M)
  obtain ⟨h0, h1⟩ : 0 ≤ rNum l at_ bad 2 ∧ rNum l at_ bad 2 < 65536 := by simpa using rNum_bound (bad := bad) (at_ := at_) hR.bytes 2 (by omega)
  clear M hR
  go_enter Tryd.func53, Tryd.ntmps53
  go_wp2_with (go_at_call 64; refine NH.out.mono ?_; rintro _ w1 ⟨_, rfl, rfl, M1⟩; (have M1H := hid M1); clear M1)
  go_ret
  exact .mk ⟨rfl, M1H.out⟩

/-- A number of 16 bits, with its sign. -/
def sgn (x : Int) : Int := if x > 32767 then x - 65536 else x
theorem wrap_i16 (x : Int) (h0 : 0 ≤ x) (h1 : x < 65536) : IntKind.i16.wrap x = sgn x := by
  unfold sgn
  simp only [IntKind.wrap, IntKind.bits, IntKind.signed]
  simp
  split <;> split <;> omega
theorem rd_I16 (hR : RdOk l at_) (M : Own W0 w (rdE b v l at_ bad ++ L)) : Calls Tryd.prog 52 #[.pointer (some ⟨b, 0, none⟩)] w (Ret fun r w' =>
    r = .int .i16 (sgn (rNum l at_ bad 2)) ∧ Own W0 w' (rdE b v l (rAt l at_ bad 2) (!rOk l at_ bad 2) ++ L)) := by
  have NH := hid (rd_U16 hR M)
  obtain ⟨h0, h1⟩ : 0 ≤ rNum l at_ bad 2 ∧ rNum l at_ bad 2 < 65536 := by simpa using rNum_bound (bad := bad) (at_ := at_) hR.bytes 2 (by omega)
  have hw := hid (wrap_i16 _ h0 h1)
  clear M hR
  go_enter Tryd.func52, Tryd.ntmps52
  go_wp2_with (go_at_call 53; refine NH.out.mono ?_; rintro _ w1 ⟨_, rfl, rfl, M1⟩; (have M1H := hid M1); clear M1)
  go_ret
  exact .mk ⟨by rw [← hw.out]; rfl, M1H.out⟩

theorem rd_Take (n : Int) (hat : at_ ≤ l.length) (hl : l.length ≤ 140737488355328) (M : Own W0 w (rdE b v l at_ bad ++ L)) : Calls Tryd.prog 56 #[.pointer (some ⟨b, 0, none⟩), .int .i64 n] w (Ret fun r w' =>
    Own W0 w' (.row 5 1 r (rBytes l at_ bad n).length (ints .u8 (rBytes l at_ bad n)) :: (rdE b v l (rAt l at_ bad n) (!rOk l at_ bad n) ++ L))) := by
  have NH := hid (next_any n hat M)
  have hlen : (rBytes l at_ bad n).length ≤ 140737488355328 := by
    unfold rBytes
    split
    · simp; omega
    · simp
  clear M
  go_enter Tryd.func56, Tryd.ntmps56
  go_wp2_with (first
    | (go_at_call 67; refine NH.out.mono ?_; rintro _ w1 ⟨_, rfl, p, rfl, hp, M1⟩; (have M1H := hid M1); (have hpH := hid hp); clear M1 hp)
    | (go_at_call 42; refine (clone_calls w1 hpH.out (ints_one _ _) hlen).mono ?_; rintro _ w2 ⟨_, rfl, M2⟩; (have M2H := hid M2); clear M2))
  go_ret
  exact .mk (M1H.out.lift M2H.out)

theorem rd_At (M : Own W0 w (rdE b v l at_ bad ++ L)) : Calls Tryd.prog 57 #[.pointer (some ⟨b, 0, none⟩)] w (Ret fun r w' => r = .int .i64 at_ ∧ w = w') := by
  obtain ⟨c0, c1, c2, -⟩ := rd_cells M
  clear M
  go_enter Tryd.func57, Tryd.ntmps57
  go_wp2
  go_ret
  exact .mk ⟨rfl, rfl⟩
theorem rd_Bad (M : Own W0 w (rdE b v l at_ bad ++ L)) : Calls Tryd.prog 54 #[.pointer (some ⟨b, 0, none⟩)] w (Ret fun r w' => r = .bool bad ∧ w = w') := by
  obtain ⟨c0, c1, c2, -⟩ := rd_cells M
  clear M c0 c1
  go_enter Tryd.func54, Tryd.ntmps54
  go_wp2
  go_ret
  exact .mk ⟨rfl, rfl⟩
end
theorem new_calls (w : World) {v : Value} {l : List Int} (hp : SliceAt w w.heap.size 1 v l.length (ints .u8 l)) (hn : l.length ≤ 140737488355328) :
    Calls Tryd.prog 51 #[v] w (Ret fun r w' => ∃ b v', r = .pointer (some ⟨b, 0, none⟩) ∧ Own w w' (rdE b v' l 0 false)) := by
  have NH := hid (clone_calls w hp (ints_one _ _) hn)
  clear hp hn
  go_enter Tryd.func51, Tryd.ntmps51
  go_wp2_with (go_at_call 42; refine NH.out.mono ?_; rintro _ w1 ⟨_, rfl, M1⟩; obtain ⟨A, c, rfl⟩ := M1.form (.head _); (have M1H := hid M1); clear M1)
  go_ret
  exact .mk ⟨_, _, rfl, M1H.out.alloc _ _⟩
end Go.Proofs.YtiedbfaehndooaaDoor

/- Package word: bytes that grow. -/
namespace Go.Proofs.YtiedbfaehndooaaDoor
open Go Go.RowKit
set_option linter.unusedVariables false
set_option linter.unusedSimpArgs false
attribute [local go_sem] nil_u8

/-- A writer: the bytes so far, a row of its own. -/
def wrE (b : Nat) (v : Value) (l : List Int) : List Ent := [.blk b 68 #[v], .row 5 1 v l.length (ints .u8 l)]
/-- Two bytes, four bytes, of a number. -/
def b2 (n : Int) : List Int := [n / 256 % 256, n % 256]
def b4 (n : Int) : List Int := b2 (n / 65536 % 65536) ++ b2 (n % 65536)
theorem b2_length (n : Int) : (b2 n).length = 2 := rfl
theorem b4_length (n : Int) : (b4 n).length = 4 := rfl

section
variable {W0 w : World} {L1 L : List Ent} {b : Nat} {v : Value} {l : List Int}
theorem wr_put {pv : Value} {ps : List Int} (hp : SliceAt w w.heap.size 1 pv ps.length (ints .u8 ps)) (hl : l.length + ps.length ≤ 140737488355328) (M : Own W0 w (L1 ++ (wrE b v l ++ L))) :
    Calls Tryd.prog 25 #[.pointer (some ⟨b, 0, none⟩), pv] w (Ret fun r w' => r = .pointer (some ⟨b, 0, none⟩) ∧ ∃ v', Own W0 w' (L1 ++ (wrE b v' (l ++ ps) ++ L))) := by
  obtain ⟨A, c, rfl⟩ := M.form (e := 5) (sz := 1) (v := v) (n := l.length) (xs := ints .u8 l) (by simp [wrE])
  have c0 := M.cell (g := b) (t := 68) (cs := #[.slice A l.length c]) (by simp [wrE]) 0
  have f0 := M.free (g := b) (t := 68) (cs := #[.slice A l.length c]) (by simp [wrE]) 0
  have hpH := hid hp
  have MH : Hid (Own W0 w ((L1 ++ [.blk b 68 #[.slice A l.length c]]) ++ (.row 5 1 (.slice A l.length c) l.length (ints .u8 l) :: L))) := hid (by simpa [wrE] using M)
  obtain ⟨A2, c2, rfl, -⟩ := hp
  simp only [List.getElem?_toArray, List.getElem?_cons_zero] at c0
  clear M
  go_enter Tryd.func25, Tryd.ntmps25
  go_wp2_with (at_builtin; refine wpList_append_Own rfl (.tmp 11) (.tmp 12) _ rfl sized_u8 rfl rfl MH.out hpH.out (ints_one _ _) (by unfold maxLen; omega) (by omega) ?_; intro v' w' M'; obtain ⟨A3, c3, rfl⟩ := M'.form (e := 5) (sz := 1) (v := v') (n := l.length + ps.length) (xs := ints .u8 l ++ ints .u8 ps) (by simp); (have k0 := M'.cell (g := b) (t := 68) (cs := #[.slice A l.length c]) (by simp) 0); (have k1 := M'.free (g := b) (t := 68) (cs := #[.slice A l.length c]) (by simp) 0); (have M'H := hid M'); clear M'; simp only [List.getElem?_toArray, List.getElem?_cons_zero] at k0)
  go_ret
  refine .mk ⟨rfl, .slice A3 (l.length + ps.length) c3, ?_⟩
  have h := M'H.out
  rw [List.append_assoc] at h
  have h := h.set 0 (.slice A3 (l.length + ps.length) c3)
  simpa [wrE, ints_append] using h

theorem wr_U8 {n : Int} (h0 : 0 ≤ n) (h1 : n < 256) (hl : l.length + 1 ≤ 140737488355328) (M : Own W0 w (L1 ++ (wrE b v l ++ L))) :
    Calls Tryd.prog 41 #[.pointer (some ⟨b, 0, none⟩), .int .u8 n] w (Ret fun r w' => r = .pointer (some ⟨b, 0, none⟩) ∧ ∃ v', Own W0 w' (L1 ++ (wrE b v' (l ++ [n]) ++ L))) := by
  have MH := hid M
  clear M
  go_enter Tryd.func41, Tryd.ntmps41
  go_wp2_with (go_at_call 25; refine (wr_put (L1 := .blk w.heap.size 5 #[.int .u8 n] :: L1) (ps := [n]) (SliceAt.built (MH.out.alloc 5 #[.int .u8 n]) (.head _) 1 1 rfl (by unfold maxLen; omega)) (by simpa using hl) (MH.out.alloc _ _)).mono ?_; rintro _ w1 ⟨_, rfl, rfl, v', M1⟩; (have M1H := hid M1); clear M1)
  go_ret
  exact .mk ⟨rfl, v', M1H.out.tail⟩

theorem b2_eq {n : Int} (h0 : 0 ≤ n) (h1 : n < 65536) : b2 n = [n / 256, n % 256] := by
  unfold b2
  rw [Int.emod_eq_of_lt (a := n / 256) (by omega) (by omega)]
theorem wr_U16 {n : Int} (h0 : 0 ≤ n) (h1 : n < 65536) (hl : l.length + 2 ≤ 140737488355328) (M : Own W0 w (L1 ++ (wrE b v l ++ L))) :
    Calls Tryd.prog 22 #[.pointer (some ⟨b, 0, none⟩), .int .u16 n] w (Ret fun r w' => r = .pointer (some ⟨b, 0, none⟩) ∧ ∃ v', Own W0 w' (L1 ++ (wrE b v' (l ++ b2 n) ++ L))) := by
  rw [b2_eq h0 h1]
  have MH := hid M
  clear M
  go_enter Tryd.func22, Tryd.ntmps22
  go_wp2_with (go_at_call 25; refine (wr_put (L1 := .blk w.heap.size 5 #[.int .u8 (n / 256), .int .u8 (n % 256)] :: L1) (ps := [n / 256, n % 256]) (SliceAt.built (MH.out.alloc 5 #[.int .u8 (n / 256), .int .u8 (n % 256)]) (.head _) 1 2 rfl (by unfold maxLen; omega)) (by simpa using hl) (MH.out.alloc _ _)).mono ?_; rintro _ w1 ⟨_, rfl, rfl, v', M1⟩; (have M1H := hid M1); clear M1)
  go_ret
  exact .mk ⟨rfl, v', M1H.out.tail⟩
theorem wr_I16 {n : Int} (h0 : -32768 ≤ n) (h1 : n < 32768) (hl : l.length + 2 ≤ 140737488355328) (M : Own W0 w (L1 ++ (wrE b v l ++ L))) :
    Calls Tryd.prog 23 #[.pointer (some ⟨b, 0, none⟩), .int .i16 n] w (Ret fun r w' => r = .pointer (some ⟨b, 0, none⟩) ∧ ∃ v', Own W0 w' (L1 ++ (wrE b v' (l ++ b2 (n % 65536)) ++ L))) := by
  have MH := hid M
  clear M
  go_enter Tryd.func23, Tryd.ntmps23
  go_wp2_with (go_at_call 22; refine (wr_U16 (n := n % 65536) (by omega) (by omega) hl MH.out).mono ?_; rintro _ w1 ⟨_, rfl, rfl, v', M1⟩; (have M1H := hid M1); clear M1)
  go_ret
  exact .mk ⟨rfl, v', M1H.out⟩
theorem wr_Done (hl : l.length ≤ 140737488355328) (M : Own W0 w (L1 ++ (wrE b v l ++ L))) :
    Calls Tryd.prog 26 #[.pointer (some ⟨b, 0, none⟩)] w (Ret fun r w' => Own W0 w' (.row 5 1 r l.length (ints .u8 l) :: (L1 ++ (wrE b v l ++ L)))) := by
  obtain ⟨A, c, rfl⟩ := M.form (e := 5) (sz := 1) (v := v) (n := l.length) (xs := ints .u8 l) (by simp [wrE])
  have c0 := M.cell (g := b) (t := 68) (cs := #[.slice A l.length c]) (by simp [wrE]) 0
  simp only [List.getElem?_toArray, List.getElem?_cons_zero] at c0
  have hs := hid (M.slice (e := 5) (sz := 1) (v := .slice A l.length c) (n := l.length) (xs := ints .u8 l) (by simp [wrE]))
  have MH := hid M
  clear M
  go_enter Tryd.func26, Tryd.ntmps26
  go_wp2_with (go_at_call 42; refine (clone_calls w hs.out (ints_one _ _) hl).mono ?_; rintro _ w2 ⟨_, rfl, M2⟩; (have M2H := hid M2); clear M2)
  go_ret
  exact .mk (MH.out.lift M2H.out)
end
end Go.Proofs.YtiedbfaehndooaaDoor

/- The references' own small functions: bytes compared, cut, joined. -/
namespace Go.Proofs.YtiedbfaehndooaaDoor
open Go Go.RowKit
set_option linter.unusedVariables false
set_option linter.unusedSimpArgs false

/-- A slice of bytes that reads so. -/
abbrev BytesAt (w : World) (v : Value) (l : List Int) : Prop := SliceAt w w.heap.size 1 v l.length (ints .u8 l)

theorem eq_take_succ {xs ys : List Int} {k : Nat} (h : xs.take k = ys.take k) (hx : k < xs.length) (hy : k < ys.length) (he : xs.getD k 0 = ys.getD k 0) : xs.take (k + 1) = ys.take (k + 1) := by
  rw [List.take_succ_eq_append_getElem hx, List.take_succ_eq_append_getElem hy, h]
  simp only [List.getD, List.getElem?_eq_getElem hx, List.getElem?_eq_getElem hy, Option.getD_some] at he
  rw [he]

theorem take_succ_getD {xs : List Int} {k : Nat} (h : k < xs.length) : xs.take (k + 1) = xs.take k ++ [xs.getD k 0] := by
  rw [List.take_succ_eq_append_getElem h]; simp [List.getD, h]
theorem take_take_succ {xs : List Int} {k m : Nat} (h : k < xs.length) (hm : k < m) : (xs.take (k + 1)).take m = (xs.take k).take m ++ [xs.getD k 0] := by
  rw [List.take_of_length_le (i := m) (l := xs.take (k + 1)) (by simp; omega), List.take_of_length_le (i := m) (l := xs.take k) (by simp; omega), take_succ_getD h]
end Go.Proofs.YtiedbfaehndooaaDoor

/- The references' own small functions, on: parts, numbers of bytes, lists behind one another. -/
namespace Go.Proofs.YtiedbfaehndooaaDoor
open Go Go.RowKit
set_option linter.unusedVariables false
set_option linter.unusedSimpArgs false
set_option maxRecDepth 100000

theorem part_yes {xs : List Int} {k a e : Nat} (h : k < xs.length) (h1 : a ≤ k) (h2 : k < e) : ((xs.take (k + 1)).take e).drop a = ((xs.take k).take e).drop a ++ [xs.getD k 0] := by
  rw [take_take_succ h h2, List.drop_append_of_le_length (by simp; omega)]
theorem part_no {xs : List Int} {k a e : Nat} (h : ¬ (a ≤ k ∧ k < e)) : ((xs.take (k + 1)).take e).drop a = ((xs.take k).take e).drop a := by
  rcases Nat.lt_or_ge k e with h1 | h1
  · rw [List.drop_eq_nil_of_le (by simp; omega), List.drop_eq_nil_of_le (by simp; omega)]
  · rw [List.take_take, List.take_take, Nat.min_eq_left (by omega), Nat.min_eq_left (by omega)]
/-! ## Lists of lists -/
def AllAt (w : World) (vs : List Value) (ls : List (List Int)) : Prop := vs.length = ls.length ∧ ∀ (i : Nat) (v : Value) (l : List Int), vs[i]? = some v → ls[i]? = some l → BytesAt w v l
theorem AllAt.nil (w : World) : AllAt w [] [] := ⟨rfl, by simp⟩
theorem AllAt.cons {w : World} {v : Value} {l : List Int} {vs : List Value} {ls : List (List Int)} (h : BytesAt w v l) (hs : AllAt w vs ls) : AllAt w (v :: vs) (l :: ls) := by
  refine ⟨by simp [hs.1], fun i u m hu hm => ?_⟩
  cases i with
  | zero => simp at hu hm; subst hu; subst hm; exact h
  | succ i => exact hs.2 i u m (by simpa using hu) (by simpa using hm)
theorem AllAt.below {w w' : World} {vs : List Value} {ls : List (List Int)} (h : AllAt w vs ls) (hb : Below w.heap.size w w') : AllAt w' vs ls := ⟨h.1, fun i v l hv hl => (h.2 i v l hv hl).below hb⟩
theorem flat_succ {ls : List (List Int)} {k : Nat} (h : k < ls.length) : (ls.take (k + 1)).flatten = (ls.take k).flatten ++ ls[k] := by
  rw [List.take_succ_eq_append_getElem h, List.flatten_append, List.flatten_cons, List.flatten_nil, List.append_nil]
theorem flat_le (ls : List (List Int)) (k : Nat) : (ls.take k).flatten.length ≤ ls.flatten.length := by
  have : ls.flatten = (ls.take k).flatten ++ (ls.drop k).flatten := by rw [← List.flatten_append, List.take_append_drop]
  rw [this]; simp

/-! ## Numbers -/
end Go.Proofs.YtiedbfaehndooaaDoor

/- The references' numbers of two and four bytes. -/
namespace Go.Proofs.YtiedbfaehndooaaDoor
open Go Go.RowKit
set_option linter.unusedVariables false
set_option linter.unusedSimpArgs false
set_option maxRecDepth 100000

/-- The number of two bytes, of four, from a place on, if they are there. -/
def n2 (l : List Int) (a : Nat) : Int := if a + 2 ≤ l.length then 256 * l.getD a 0 + l.getD (a + 1) 0 else 0
def n4 (l : List Int) (a : Nat) : Int := if a + 4 ≤ l.length then 65536 * n2 l a + n2 l (a + 2) else 0
theorem Bytes.get {l : List Int} (h : Bytes l) (k : Nat) : 0 ≤ l.getD k 0 ∧ l.getD k 0 < 256 := by
  by_cases hk : k < l.length
  · exact h _ (by simp [List.getD, hk])
  · simp [List.getD, List.getElem?_eq_none (Nat.le_of_not_lt hk)]
theorem n2_bound {l : List Int} (h : Bytes l) (a : Nat) : 0 ≤ n2 l a ∧ n2 l a < 65536 := by
  have h1 := h.get a
  have h2 := h.get (a + 1)
  unfold n2
  split <;> omega
theorem n4_bound {l : List Int} (h : Bytes l) (a : Nat) : 0 ≤ n4 l a ∧ n4 l a < 4294967296 := by
  have h1 := n2_bound h a
  have h2 := n2_bound h (a + 2)
  unfold n4
  split <;> omega

end Go.Proofs.YtiedbfaehndooaaDoor

/- What was written is read: plain words on lists of bytes. And a writer at its beginning. -/
namespace Go.Proofs.YtiedbfaehndooaaDoor
open Go Go.RowKit
set_option linter.unusedVariables false
set_option linter.unusedSimpArgs false

theorem rd_at {l p q s : List Int} {k m : Nat} (h : l = p ++ (q ++ s)) (hk : p.length = k) (hm : q.length = m) :
    rOk l k false m = true ∧ rBytes l k false m = q ∧ rAt l k false m = k + m := by
  have h1 : rOk l k false m = true := by
    simp only [rOk, Bool.not_false, Bool.true_and, decide_eq_true_eq]
    rw [h, List.length_append, List.length_append]
    omega
  refine ⟨h1, ?_, ?_⟩
  · unfold rBytes
    rw [h1, if_pos rfl, h, ← hk, List.drop_left, Int.toNat_natCast, ← hm, List.take_left]
  · unfold rAt
    rw [h1, if_pos rfl, Int.toNat_natCast]
theorem be_one (a : Int) : be [a] = a := by simp [be]
theorem be_b2 {n : Int} (h0 : 0 ≤ n) (h1 : n < 65536) : be (b2 n) = n := by
  rw [b2_eq h0 h1]
  simp only [be, List.foldl_cons, List.foldl_nil]
  omega
theorem be_b4 {n : Int} (h0 : 0 ≤ n) (h1 : n < 4294967296) : be (b4 n) = n := by
  simp only [b4, b2, be, List.cons_append, List.nil_append, List.foldl_cons, List.foldl_nil]
  omega
theorem rd_num {l p q s : List Int} {k m : Nat} {n : Int} (h : l = p ++ (q ++ s)) (hk : p.length = k) (hm : q.length = m) (hn : be q = n) :
    rNum l k false m = n ∧ rAt l k false m = k + m ∧ (!rOk l k false m) = false := by
  obtain ⟨h1, h2, h3⟩ := rd_at h hk hm
  exact ⟨by unfold rNum; rw [h2, hn], h3, by rw [h1]; rfl⟩
theorem sgn_mod {n : Int} (h0 : -32768 ≤ n) (h1 : n < 32768) : sgn (n % 65536) = n := by unfold sgn; split <;> omega
theorem bytes_nil : Bytes [] := by intro x hx; cases hx
theorem bytes_b2 (n : Int) : Bytes (b2 n) := by
  intro x hx
  simp only [b2, List.mem_cons, List.not_mem_nil, or_false] at hx
  omega
theorem bytes_b4 (n : Int) : Bytes (b4 n) := by
  intro x hx
  rcases List.mem_append.1 hx with hx | hx
  · exact bytes_b2 _ x hx
  · exact bytes_b2 _ x hx
theorem Bytes.append {p q : List Int} (h1 : Bytes p) (h2 : Bytes q) : Bytes (p ++ q) := fun x hx => (List.mem_append.1 hx).elim (h1 x) (h2 x)
theorem Bytes.one {a : Int} (h0 : 0 ≤ a) (h1 : a < 256) : Bytes [a] := by intro x hx; simp at hx; subst hx; exact ⟨h0, h1⟩
theorem Bytes.take {p : List Int} (h : Bytes p) (k : Nat) : Bytes (p.take k) := fun x hx => h x (List.mem_of_mem_take hx)
theorem Bytes.drop {p : List Int} (h : Bytes p) (k : Nat) : Bytes (p.drop k) := fun x hx => h x (List.mem_of_mem_drop hx)

theorem Own.writer {W0 w : World} {L : List Ent} (M : Own W0 w L) : Own W0 (w.alloc (.cells #[.slice none 0 0] 68)) ([] ++ (wrE w.heap.size (.slice none 0 0) [] ++ L)) :=
  ((M.alloc 68 #[.slice none 0 0]).nil_row 5 1).swap
theorem Own.head1 {W0 w : World} {x : Ent} {L : List Ent} (M : Own W0 w (x :: L)) : Own W0 w [x] := M.sub (by simp)
theorem Own.mk_writer {W0 w : World} {L : List Ent} {b : Nat} (M : Own W0 w (.blk b 68 #[.slice none 0 0] :: L)) : Own W0 w ([] ++ (wrE b (.slice none 0 0) [] ++ L)) := (M.nil_row 5 1).swap
end Go.Proofs.YtiedbfaehndooaaDoor

/- Plain words: numbers of two and of four bytes at places; bytes out of numbers. -/
namespace Go.Proofs.YtiedbfaehndooaaDoor
open Go Go.RowKit
set_option linter.unusedVariables false
set_option linter.unusedSimpArgs false

theorem take2 {l : List Int} {a : Nat} (h : a + 2 ≤ l.length) : (l.drop a).take 2 = [l.getD a 0, l.getD (a + 1) 0] := by
  rw [List.drop_eq_getElem_cons (by omega), List.take_succ_cons, List.drop_eq_getElem_cons (by omega), List.take_succ_cons, List.take_zero]
  simp [List.getD, show a < l.length by omega, show a + 1 < l.length by omega]
theorem rOk_at {l : List Int} {a m : Nat} (h : a + m ≤ l.length) : rOk l a false m = true := by
  simp only [rOk, Bool.not_false, Bool.true_and, decide_eq_true_eq]; omega
theorem read2 {l : List Int} {a : Nat} (h : a + 2 ≤ l.length) : rNum l a false 2 = n2 l a ∧ rAt l a false 2 = a + 2 ∧ (!rOk l a false 2) = false := by
  have h1 : rOk l a false 2 = true := rOk_at (m := 2) h
  refine ⟨?_, ?_, by rw [h1]; rfl⟩
  · unfold rNum rBytes n2
    rw [h1, if_pos rfl, if_pos h, show (2 : Int).toNat = 2 from rfl, take2 h]
    simp only [be, List.foldl_cons, List.foldl_nil]; omega
  · unfold rAt; rw [h1, if_pos rfl]; rfl
theorem take4 {l : List Int} {a : Nat} (h : a + 4 ≤ l.length) : (l.drop a).take 4 = [l.getD a 0, l.getD (a + 1) 0, l.getD (a + 2) 0, l.getD (a + 3) 0] := by
  rw [show (4 : Nat) = 2 + 2 from rfl, List.take_add, take2 (by omega), List.drop_drop, take2 (by omega)]; rfl
theorem read4 {l : List Int} {a : Nat} (h : a + 4 ≤ l.length) : rNum l a false 4 = n4 l a ∧ rAt l a false 4 = a + 4 ∧ (!rOk l a false 4) = false := by
  have h1 : rOk l a false 4 = true := rOk_at (m := 4) h
  refine ⟨?_, ?_, by rw [h1]; rfl⟩
  · unfold rNum rBytes n4 n2
    rw [h1, if_pos rfl, if_pos h, if_pos (by omega), if_pos (by omega), show (4 : Int).toNat = 4 from rfl, take4 h]
    simp only [be, List.foldl_cons, List.foldl_nil, Nat.add_assoc, Nat.reduceAdd]; omega
  · unfold rAt; rw [h1, if_pos rfl]; rfl

/-- The numbers of two bytes from a place on. -/
def u16s (l : List Int) (a n : Nat) : List Int := (List.range n).map fun i => n2 l (a + 2 * i)
theorem u16s_length (l : List Int) (a n : Nat) : (u16s l a n).length = n := by simp [u16s]
theorem u16s_get (l : List Int) (a n k : Nat) (hk : k < n) : (u16s l a n).getD k 0 = n2 l (a + 2 * k) := by simp [u16s, List.getD, hk]
theorem b2_n2 {l : List Int} (h : Bytes l) {a : Nat} (ha : a + 2 ≤ l.length) : b2 (n2 l a) = (l.drop a).take 2 := by
  have h1 := h.get a
  have h2 := h.get (a + 1)
  rw [take2 ha]
  unfold n2 b2
  rw [if_pos ha]
  congr 1
  · omega
  · congr 1; omega
theorem b4_n4 {l : List Int} (h : Bytes l) {a : Nat} (ha : a + 4 ≤ l.length) : b4 (n4 l a) = (l.drop a).take 4 := by
  have h1 := n2_bound h a
  have h2 := n2_bound h (a + 2)
  rw [show (4 : Nat) = 2 + 2 from rfl, List.take_add, List.drop_drop, ← b2_n2 h (a := a) (by omega), ← b2_n2 h (a := a + 2) (by omega)]
  unfold b4 n4
  rw [if_pos ha]
  congr 2 <;> omega
theorem flat_u16s {l : List Int} (h : Bytes l) (a : Nat) : ∀ n, a + 2 * n ≤ l.length → (u16s l a n).flatMap b2 = (l.drop a).take (2 * n) := by
  intro n
  induction n with
  | zero => intro _; simp [u16s]
  | succ n ih =>
    intro hn
    have e : u16s l a (n + 1) = u16s l a n ++ [n2 l (a + 2 * n)] := by simp [u16s, List.range_succ]
    rw [e, List.flatMap_append, ih (by omega), show 2 * (n + 1) = 2 * n + 2 by omega, List.take_add, List.drop_drop]
    simp [b2_n2 h (a := a + 2 * n) (by omega)]
/-- The other way: what stands behind so many bytes is read as those numbers. -/
theorem n2_app {p s : List Int} {x : Int} {a : Nat} (ha : p.length = a) (h0 : 0 ≤ x) (h1 : x < 65536) : n2 (p ++ (b2 x ++ s)) a = x := by
  have hl : a + 2 ≤ (p ++ (b2 x ++ s)).length := by simp [b2_length]; omega
  have h2 : ((p ++ (b2 x ++ s)).drop a).take 2 = b2 x := by rw [← ha, List.drop_left]; exact List.take_left (l₁ := b2 x)
  rw [take2 hl, b2_eq h0 h1] at h2
  simp only [List.cons.injEq, and_true] at h2
  unfold n2
  rw [if_pos hl, b2_eq h0 h1, h2.1, h2.2]
  omega
theorem n4_app {p s : List Int} {x : Int} {a : Nat} (ha : p.length = a) (h0 : 0 ≤ x) (h1 : x < 4294967296) : n4 (p ++ (b4 x ++ s)) a = x := by
  have hl : a + 4 ≤ (p ++ (b4 x ++ s)).length := by simp [b4_length]; omega
  unfold n4
  rw [if_pos hl]
  unfold b4
  rw [List.append_assoc, n2_app ha (by omega) (by omega), ← List.append_assoc, n2_app (by simp [b2_length, ha]) (by omega) (by omega)]
  omega
theorem u16s_app {p s : List Int} {a : Nat} (ha : p.length = a) : ∀ (xs : List Int), (∀ x ∈ xs, 0 ≤ x ∧ x < 65536) → u16s (p ++ (xs.flatMap b2 ++ s)) a xs.length = xs := by
  intro xs hx
  apply List.ext_getElem
  · rw [u16s_length]
  · intro i h1 h2
    have hb := hx xs[i] (List.getElem_mem h2)
    have e : p ++ (xs.flatMap b2 ++ s) = (p ++ (xs.take i).flatMap b2) ++ (b2 xs[i] ++ ((xs.drop (i + 1)).flatMap b2 ++ s)) := by
      conv => lhs; rw [← List.take_append_drop i xs, List.flatMap_append, List.drop_eq_getElem_cons h2, List.flatMap_cons]
      simp
    have hl : (p ++ (xs.take i).flatMap b2).length = a + 2 * i := by
      have : ∀ ys : List Int, (ys.flatMap b2).length = 2 * ys.length := by
        intro ys
        induction ys with
        | nil => rfl
        | cons y ys ih => rw [List.flatMap_cons, List.length_append, ih, b2_length, List.length_cons]; omega
      rw [List.length_append, this, List.length_take, ha]; omega
    simp only [u16s, List.getElem_map, List.getElem_range]
    rw [e, n2_app hl hb.1 hb.2]
end Go.Proofs.YtiedbfaehndooaaDoor

/- Arguments opened: whatever shape a law's argument has, its cells are told. -/
namespace Go.Proofs.YtiedbfaehndooaaDoor
open Go Go.RowKit Go.ChangeShapes Go.WideShapes Go.Deep
set_option linter.unusedSimpArgs false

/-- The shape of an argument. 'cons off sz s rest': from cell 'off' on 'sz' cells of shape s, and so on; 'agg n p': n cells, of parts p. -/
inductive Sh where
  | int (k : IntKind)
  | bool
  | slice (sz : Nat) (s : Sh)
  | agg (n : Nat) (p : Sh)
  | arr (k : IntKind) (n : Nat)
  | nil
  | cons (off sz : Nat) (s rest : Sh)

def Dec (w : World) : Sh → List Value → Prop
  | .int k, cs => ∃ z, cs = [.int k z] ∧ (Lit.int k z).wf = true
  | .bool, cs => ∃ b, cs = [.bool b]
  | .slice sz s, cs => ∃ v n xs, cs = [v] ∧ SliceAt w w.heap.size sz v n xs ∧ ∀ i, i < n → Dec w s ((xs.drop (i * sz)).take sz)
  | .agg n p, cs => cs.length = n ∧ Dec w p cs
  | .arr k n, cs => ∃ zs, cs = ints k zs ∧ zs.length = n ∧ ∀ z ∈ zs, (Lit.int k z).wf = true
  | .nil, _ => True
  | .cons off sz s rest, cs => Dec w s ((cs.drop off).take sz) ∧ Dec w rest cs

def Sh.isL : Sh → Bool
  | .nil => true
  | .cons .. => true
  | _ => false
def shB (P : Program) : Sh → TypeId → List (TypeId × Nat) → Bool
  | .int k, t, _ => match P.underlying t with | some (.int k') => k == k' | _ => false
  | .bool, t, _ => match P.underlying t with | some .bool => true | _ => false
  | .slice sz s, t, _ => match P.underlying t with | some (.slice e) => P.cellsOf e == sz && decide (0 < sz) && shB P s e [] | _ => false
  | .agg n p, t, _ => match P.underlying t with | some (.struct fs) => P.cellsOf t == n && p.isL && shB P p t (fs.toList.map fun f => (f.type, f.offset)) | _ => false
  | .arr k n, t, _ => match P.underlying t with | some (.array m e) => n == m && P.cellsOf e == 1 && P.cellsOf t == n && (match P.underlying e with | some (.int k') => k == k' | _ => false) | _ => false
  | .nil, _, l => l.isEmpty
  | .cons off sz s rest, t, l => match l with | (u, o) :: r => off == o && P.cellsOf u == sz && shB P s u [] && rest.isL && shB P rest t r | [] => false

section
variable {H : Type} {enc : TypeId × Value → H} {P : Program} {w : World} {base : Nat} {spare : Nat → Bool} {held : Bool}

theorem chunks {α : Type} (f : α → List Value) (good : α → Prop) (sz : Nat) : ∀ (n : Nat) (xs : List Value), xs.length = n * sz → (∀ i, i < n → ∃ a, (xs.drop (i * sz)).take sz = f a ∧ good a) → ∃ zs : List α, zs.length = n ∧ xs = zs.flatMap f ∧ ∀ a ∈ zs, good a := by
  intro n
  induction n with
  | zero => intro xs hl _; exact ⟨[], rfl, by simpa using hl, by simp⟩
  | succ n ih =>
    intro xs hl h
    obtain ⟨a, ha, hg⟩ := h 0 (by omega)
    obtain ⟨zs, h1, h2, h3⟩ := ih (xs.drop sz) (by rw [List.length_drop, hl, Nat.succ_mul]; omega) (fun i hi => by
      obtain ⟨b, hb, hgb⟩ := h (i + 1) (by omega)
      exact ⟨b, by rw [List.drop_drop, ← hb, Nat.succ_mul, Nat.add_comm], hgb⟩)
    refine ⟨a :: zs, by simp [h1], ?_, by simpa [hg] using h3⟩
    rw [List.flatMap_cons, ← h2, ← ha]
    simp

theorem flat_ints (k : IntKind) (zs : List Int) : zs.flatMap (fun z => [Value.int k z]) = ints k zs := by
  induction zs with
  | nil => rfl
  | cons z zs ih => simp [ints] at ih ⊢; exact ih
theorem slice_of_trod {t e : TypeId} {fuel : Nat} {cs : List Value} {x : DataW H × List MemPlace} {sz : Nat} (ht : P.underlying t = some (.slice e)) (hsz : P.cellsOf e = sz) (h0 : 0 < sz) (h : DataW.trod enc P w base spare held fuel t cs = some x) :
    ∃ v n xs, cs = [v] ∧ SliceAt w w.heap.size sz v n xs ∧ ∀ i, i < n → ∃ fuel' y, DataW.trod enc P w base spare held fuel' e ((xs.drop (i * sz)).take sz) = some y := by
  rcases open_slice ht h with ⟨rfl, rfl⟩ | ⟨a, len, cap, m, f, D, Pl, rfl, hb, hl, hm, hmm, hx, hi⟩
  · exact ⟨_, 0, [], rfl, SliceAt.nil _ _ _, fun i hi => absurd hi (by omega)⟩
  · have hlm : len ≤ m := by rw [hmm]; split <;> omega
    have hcell : ∀ i, i < len → ∃ cs', cs'.length = sz ∧ (∀ j, j < sz → w.cell? (a.add (i * sz + j)) = cs'[j]?) ∧ ∃ y, DataW.trod enc P w base spare held f e cs' = some y := by
      intro i hil
      obtain ⟨cs', hc, ht'⟩ := hi i (by omega)
      rw [hsz] at hc
      obtain ⟨_, hcl, hat⟩ := World.cells?_some hc
      exact ⟨cs', hcl, fun j hj => by rw [← Go.Deep.add_add, hat j hj], _, ht'⟩
    -- the list of all cells
    have hall : ∀ k, k ≤ len → ∃ xs : List Value, xs.length = k * sz ∧ (∀ j u, xs[j]? = some u → w.cell? (a.add j) = some u) ∧ ∀ i, i < k → ∃ y, DataW.trod enc P w base spare held f e ((xs.drop (i * sz)).take sz) = some y := by
      intro k
      induction k with
      | zero => intro _; exact ⟨[], by simp, by simp, fun i hi => absurd hi (by omega)⟩
      | succ k ih =>
        intro hk
        obtain ⟨xs, h1, h2, h3⟩ := ih (by omega)
        obtain ⟨cs', c1, c2, y, c3⟩ := hcell k (by omega)
        refine ⟨xs ++ cs', by rw [List.length_append, h1, c1, Nat.succ_mul], fun j u hu => ?_, fun i hik => ?_⟩
        · rcases Nat.lt_or_ge j xs.length with hj | hj
          · rw [List.getElem?_append_left hj] at hu
            exact h2 j u hu
          · rw [List.getElem?_append_right hj] at hu
            have hjl := (List.getElem?_eq_some_iff.1 hu).1
            have := c2 (j - xs.length) (by omega)
            rw [h1, show k * sz + (j - k * sz) = j by omega] at this
            rw [this, ← h1, hu]
        · rcases Nat.lt_or_ge i k with hlt | hge
          · obtain ⟨z, hz⟩ := h3 i hlt
            have hle : i * sz + sz ≤ k * sz := by
              have := Nat.mul_le_mul_right sz (show i + 1 ≤ k by omega)
              rw [Nat.succ_mul] at this
              exact this
            refine ⟨z, ?_⟩
            rw [List.drop_append_of_le_length (by omega), List.take_append_of_le_length (by rw [List.length_drop]; omega)]
            exact hz
          · obtain rfl : i = k := by omega
            refine ⟨y, ?_⟩
            rw [← h1, List.drop_left, List.take_of_length_le (by omega)]
            exact c3
    obtain ⟨xs, h1, h2, h3⟩ := hall len (Nat.le_refl _)
    refine ⟨_, len, xs, rfl, ⟨some a, cap, rfl, hl, hm, (by intro h; cases h), h1, fun hn => ⟨a, rfl, ?_, h2⟩⟩, fun i hi => ?_⟩
    · have hu : xs[0]? = some (xs[0]'(by rw [h1]; exact Nat.mul_pos hn h0)) := List.getElem?_eq_getElem _
      have := World.block_lt_of_cell? w _ (h2 0 _ hu)
      rwa [block_of_add] at this
    · obtain ⟨y, hy⟩ := h3 i hi
      exact ⟨f, y, hy⟩

/-- What a trodden value's shape says of its cells. -/
theorem dec_of_trod : ∀ (s : Sh) (t : TypeId) (l : List (TypeId × Nat)), shB P s t l = true →
    (∀ (fuel : Nat) (cs : List Value) (x : DataW H × List MemPlace), l = [] → (∀ p q r u, s ≠ .cons p q r u) → s ≠ .nil → DataW.trod enc P w base spare held fuel t cs = some x → Dec w s cs) ∧
    (∀ (fuel : Nat) (cs : List Value), (∀ (i : Nat) (f : TypeId × Nat), l[i]? = some f → ∃ y, DataW.trod enc P w base spare held fuel f.1 ((cs.drop f.2).take (P.cellsOf f.1)) = some y) → ((∃ p q r u, s = .cons p q r u) ∨ s = .nil) → Dec w s cs) := by
  intro s
  induction s with
  | int k =>
    intro t l h
    refine ⟨fun fuel cs x _ _ _ ht => ?_, fun _ _ _ hh => by rcases hh with ⟨_, _, _, _, hh⟩ | hh <;> cases hh⟩
    simp only [shB] at h
    split at h
    · rename_i k' hu
      obtain rfl : k = k' := by simpa using h
      obtain ⟨n, h1, _, h2⟩ := DataW.trod_int hu ht
      exact ⟨n, h1, h2⟩
    · cases h
  | bool =>
    intro t l h
    refine ⟨fun fuel cs x _ _ _ ht => ?_, fun _ _ _ hh => by rcases hh with ⟨_, _, _, _, hh⟩ | hh <;> cases hh⟩
    simp only [shB] at h
    split at h
    · rename_i hu
      obtain ⟨n, h1, _⟩ := DataW.trod_bool hu ht
      exact ⟨n, h1⟩
    · cases h
  | slice sz s ih =>
    intro t l h
    refine ⟨fun fuel cs x _ _ _ ht => ?_, fun _ _ _ hh => by rcases hh with ⟨_, _, _, _, hh⟩ | hh <;> cases hh⟩
    simp only [shB] at h
    split at h
    · rename_i e hu
      simp only [Bool.and_eq_true, beq_iff_eq, decide_eq_true_eq] at h
      obtain ⟨⟨h1, h2⟩, h3⟩ := h
      obtain ⟨v, n, xs, hc, hs, he⟩ := slice_of_trod hu h1 h2 ht
      refine ⟨v, n, xs, hc, hs, fun i hi => ?_⟩
      obtain ⟨f', y, hy⟩ := he i hi
      by_cases hn : s = .nil ∨ ∃ p q r u, s = .cons p q r u
      · refine (ih e [] h3).2 0 _ (by simp) ?_
        rcases hn with hn | hn
        · exact .inr hn
        · exact .inl hn
      · exact (ih e [] h3).1 f' _ y rfl (fun p q r u e => hn (.inr ⟨p, q, r, u, e⟩)) (fun e => hn (.inl e)) hy
    · cases h
  | agg n p ih =>
    intro t l h
    refine ⟨fun fuel cs x _ _ _ ht => ?_, fun _ _ _ hh => by rcases hh with ⟨_, _, _, _, hh⟩ | hh <;> cases hh⟩
    simp only [shB] at h
    split at h
    · rename_i fs hu
      simp only [Bool.and_eq_true, beq_iff_eq] at h
      obtain ⟨⟨h1, hL⟩, h3⟩ := h
      obtain ⟨xs, m, _, _, hl, hxl, hf⟩ := DataW.trod_struct hu ht
      refine ⟨hl.trans h1, ?_⟩
      have hall : ∀ (i : Nat) (f : TypeId × Nat), (fs.toList.map fun f => (f.type, f.offset))[i]? = some f → ∃ y, DataW.trod enc P w base spare held m f.1 ((cs.drop f.2).take (P.cellsOf f.1)) = some y := by
        intro i f hf'
        rw [List.getElem?_map, Option.map_eq_some_iff] at hf'
        obtain ⟨g, hg, rfl⟩ := hf'
        have hg' : fs[i]? = some g := by simpa using hg
        have := hf i g hg'
        have hil := (Array.getElem?_eq_some_iff.1 hg').1
        exact ⟨xs[i]'(by omega), by rw [this]; exact List.getElem?_eq_getElem _⟩
      cases p with
      | nil => trivial
      | cons a b c d => exact (ih t _ h3).2 m cs hall (.inl ⟨_, _, _, _, rfl⟩)
      | _ => cases hL
    · cases h
  | arr k n =>
    intro t l h
    refine ⟨fun fuel cs x _ _ _ ht => ?_, fun _ _ _ hh => by rcases hh with ⟨_, _, _, _, hh⟩ | hh <;> cases hh⟩
    simp only [shB] at h
    split at h
    · rename_i m e hu
      simp only [Bool.and_eq_true, beq_iff_eq] at h
      obtain ⟨⟨⟨rfl, h1⟩, h2⟩, h3⟩ := h
      split at h3
      · rename_i k' hk
        obtain rfl : k = k' := by simpa using h3
        obtain ⟨xs, m', _, _, hl, hxl, hf⟩ := DataW.trod_array hu ht
        rw [h1] at hf
        rw [h2] at hl
        obtain ⟨zs, z1, z2, z3⟩ := chunks (fun z => [Value.int k z]) (fun z => (Lit.int k z).wf = true) 1 n cs (by omega) (fun i hi => by
          have hy := hf i hi
          have : xs[i]? = some (xs[i]'(by omega)) := List.getElem?_eq_getElem _
          rw [this] at hy
          obtain ⟨z, e1, _, e2⟩ := DataW.trod_int hk hy
          exact ⟨z, e1, e2⟩)
        exact ⟨zs, by rw [z2, flat_ints], z1, z3⟩
      · cases h3
    · cases h
  | nil =>
    intro t l h
    exact ⟨fun _ _ _ _ _ hn => absurd rfl hn, fun _ _ _ _ => trivial⟩
  | cons off sz s rest ih1 ih2 =>
    intro t l h
    refine ⟨fun _ _ _ _ hc => absurd rfl (hc _ _ _ _), fun fuel cs hall _ => ?_⟩
    simp only [shB] at h
    split at h
    · rename_i u o r
      simp only [Bool.and_eq_true, beq_iff_eq] at h
      obtain ⟨⟨⟨⟨rfl, h1⟩, h2⟩, hL⟩, h3⟩ := h
      obtain ⟨y, hy⟩ := hall 0 (u, off) rfl
      rw [h1] at hy
      refine ⟨?_, ?_⟩
      · by_cases hn : s = .nil ∨ ∃ p q r u, s = .cons p q r u
        · refine (ih1 u [] h2).2 0 _ (by simp) ?_
          rcases hn with hn | hn
          · exact .inr hn
          · exact .inl hn
        · exact (ih1 u [] h2).1 fuel _ y rfl (fun p q r u e => hn (.inr ⟨p, q, r, u, e⟩)) (fun e => hn (.inl e)) hy
      · by_cases hn : rest = .nil ∨ ∃ p q r u, rest = .cons p q r u
        · refine (ih2 t r h3).2 fuel cs (fun i f hf => hall (i + 1) f (by simpa using hf)) ?_
          rcases hn with hn | hn
          · exact .inr hn
          · exact .inl hn
        · exfalso
          cases rest with
          | nil => exact hn (.inl rfl)
          | cons a b c d => exact hn (.inr ⟨_, _, _, _, rfl⟩)
          | _ => cases hL
    · cases h

def Sh.isTop : Sh → Bool
  | .nil => false
  | .cons .. => false
  | _ => true
theorem dec_arg {s : Sh} {t : TypeId} {v : Value} {d : DataW H} {ps : List MemPlace} (hs : shB P s t [] = true) (ht : s.isTop = true) (h : DataW.Trod enc P w base spare held t v d ps) : Dec w s v.cells.toList := by
  obtain ⟨fuel, hf⟩ := h
  refine (dec_of_trod (enc := enc) (base := base) (spare := spare) (held := held) s t [] hs).1 fuel _ _ rfl ?_ ?_ hf
  · rintro p q r u rfl; cases ht
  · rintro rfl; cases ht

theorem wf_u8 {z : Int} (h : (Lit.int .u8 z).wf = true) : 0 ≤ z ∧ z < 256 := by
  simp only [Lit.wf, Bool.and_eq_true, decide_eq_true_eq] at h
  simp only [IntKind.min, IntKind.max, IntKind.bits, IntKind.signed] at h
  simp at h
  omega
theorem wf_u16 {z : Int} (h : (Lit.int .u16 z).wf = true) : 0 ≤ z ∧ z < 65536 := by
  simp only [Lit.wf, Bool.and_eq_true, decide_eq_true_eq] at h
  simp only [IntKind.min, IntKind.max, IntKind.bits, IntKind.signed] at h
  simp at h
  omega
theorem wf_u32 {z : Int} (h : (Lit.int .u32 z).wf = true) : 0 ≤ z ∧ z < 4294967296 := by
  simp only [Lit.wf, Bool.and_eq_true, decide_eq_true_eq] at h
  simp only [IntKind.min, IntKind.max, IntKind.bits, IntKind.signed] at h
  simp at h
  omega
theorem wf_u64 {z : Int} (h : (Lit.int .u64 z).wf = true) : 0 ≤ z ∧ z < 18446744073709551616 := by
  simp only [Lit.wf, Bool.and_eq_true, decide_eq_true_eq] at h
  simp only [IntKind.min, IntKind.max, IntKind.bits, IntKind.signed] at h
  simp at h
  omega
theorem wf_i8 {z : Int} (h : (Lit.int .i8 z).wf = true) : -128 ≤ z ∧ z < 128 := by
  simp only [Lit.wf, Bool.and_eq_true, decide_eq_true_eq] at h
  simp only [IntKind.min, IntKind.max, IntKind.bits, IntKind.signed] at h
  simp at h
  omega
theorem wf_i16 {z : Int} (h : (Lit.int .i16 z).wf = true) : -32768 ≤ z ∧ z < 32768 := by
  simp only [Lit.wf, Bool.and_eq_true, decide_eq_true_eq] at h
  simp only [IntKind.min, IntKind.max, IntKind.bits, IntKind.signed] at h
  simp at h
  omega
theorem wf_i64 {z : Int} (h : (Lit.int .i64 z).wf = true) : -9223372036854775808 ≤ z ∧ z < 9223372036854775808 := by
  simp only [Lit.wf, Bool.and_eq_true, decide_eq_true_eq] at h
  simp only [IntKind.min, IntKind.max, IntKind.bits, IntKind.signed] at h
  simp at h
  omega
theorem arg_ints {k : IntKind} {v : Value} (h : Dec w (.slice 1 (.int k)) [v]) : ∃ zs : List Int, SliceAt w w.heap.size 1 v zs.length (ints k zs) ∧ ∀ z ∈ zs, (Lit.int k z).wf = true := by
  obtain ⟨u, n, xs, hc, hs, he⟩ := h
  obtain rfl : v = u := by simpa using hc
  obtain ⟨zs, z1, z2, z3⟩ := chunks (fun z => [Value.int k z]) (fun z => (Lit.int k z).wf = true) 1 n xs hs.len he
  rw [flat_ints] at z2
  subst z1; subst z2
  exact ⟨zs, hs, z3⟩
end
end Go.Proofs.YtiedbfaehndooaaDoor

/- A value is itself: structs and arrays are compared. -/
namespace Go.Proofs.YtiedbfaehndooaaDoor
open Go Go.RowKit
set_option linter.unusedVariables false
set_option linter.unusedSimpArgs false
section
variable {P : Program}
theorem run_part_one {e : TypeId} {k : IntKind} (he : P.underlying e = some (.int k)) (hi : (P.info? e).map (·.size) = some 1) {xs : Array Value} {off : Nat} {v : Value} (hv : xs[off]? = some v) (w : World) : (part e xs off).run P w = .ok v w := by
  have hagg : (isAgg e).run P w = .ok false w := by
    unfold isAgg
    rw [Sem.run_bind, run_underlying he w]
    rfl
  simp [part, hagg, Sem.run_bind, hv]
theorem run_part_agg {e n : Nat} (he : AggOf P e n) {xs : Array Value} {off : Nat} {vs : List Value} (hv : (xs.toList.drop off).take n = vs) (hn : off + n ≤ xs.size) (w : World) : (part e xs off).run P w = .ok (.agg vs.toArray) w := by
  obtain ⟨_, hi⟩ := id he
  cases hq : P.info? e with
  | none => simp [hq] at hi
  | some j =>
    have hs : j.size = n := by simpa [hq] using hi
    have e1 : xs.extract off (off + n) = vs.toArray := by
      apply Array.ext'
      rw [← hv]
      simp [Array.toList_extract, List.extract]
    simp [part, run_isAgg he w, sizeOf, typeInfo, hq, hs, Sem.run_bind, e1]
theorem int_self {e : TypeId} {k : IntKind} (he : P.underlying e = some (.int k)) (d : Nat) (a : Int) (w : World) : (Op.equalIn (d + 1) e (.int k a) (.int k a)).run P w = .ok true w := by
  simp [Op.equalIn, run_underlying he, Sem.run_bind]
theorem arr_self {t e n : Nat} {k : IntKind} (hu : P.underlying t = some (.array n e)) (he : P.underlying e = some (.int k)) (hi : (P.info? e).map (·.size) = some 1) {zs : List Int} (hz : zs.length = n) (d : Nat) (w : World) :
    (Op.equalIn (d + 2) t (.agg (ints k zs).toArray) (.agg (ints k zs).toArray)).run P w = .ok true w := by
  cases hq : P.info? e with
  | none => simp [hq] at hi
  | some j =>
    have hs : P.cellsOf e = 1 := by simpa [hq, Program.cellsOf] using hi
    rw [run_equalIn_array w (d + 1) _ _ hu hq, hs]
    have : ∀ is : List Nat, (∀ i ∈ is, i < n) → (Op.eqItems (d + 1) e 1 (ints k zs).toArray (ints k zs).toArray is).run P w = .ok true w := by
      intro is
      induction is with
      | nil => intro _; simp [Op.eqItems]
      | cons i is ih =>
        intro h
        have hg := ints_get k zs i (by have := h i (by simp); omega)
        have h1 : (part e (ints k zs).toArray (i * 1)).run P w = .ok (.int k (zs.getD i 0)) w := run_part_one he hi (by simpa using hg) w
        simp only [Op.eqItems, Sem.run_bind, h1, Result.andThen_ok, int_self he d, Bool.not_true, Bool.false_eq_true, if_false]
        exact ih fun j hj => h j (by simp [hj])
    exact this _ (by simp)
end
end Go.Proofs.YtiedbfaehndooaaDoor

/- A drawn region under a condition, by hand: the loads of whole structs and arrays. -/
namespace Go.Proofs.YtiedbfaehndooaaDoor
open Go Go.RowKit

theorem yields_load {P : Program} {ops : Array Oper} {S : World → Prop} {o : Oper} {a : Act} {ty : TypeId} {x : Operand} {ad : Addr} {v : Value} (hw : Region.wanted o (yielded ops a.tmps) = true) (ho : o.op = .load ty x) (hx : a.eval x = .pointer (some ad))
    (h : ∀ w, S w → (loadVar ty ad).run P w = .ok v w) : YieldsIf P ops S o v a :=
  .inl ⟨hw, fun w hw' => by
    unfold execOp
    simp only [ho, hx, Instr.loadAt, Instr.sureAddr, Sem.run_bind, Sem.run_pure, Result.andThen_ok, h w hw']⟩
end Go.Proofs.YtiedbfaehndooaaDoor

/- A cell of a row of the call's own is written. -/
namespace Go.Proofs.YtiedbfaehndooaaDoor
open Go Go.RowKit
set_option linter.unusedVariables false
set_option linter.unusedSimpArgs false
section
variable {W0 w : World} {L L1 L2 : List Ent}
/-- Where a row of something begins. -/
theorem Own.row_at {e : TypeId} {sz n c : Nat} {A : Option Addr} {xs : List Value} (M : Own W0 w L) (h : .row e sz (.slice A n c) n xs ∈ L) (hn : 0 < n) : ∃ g, A = some ⟨g, 0, none⟩ := by
  obtain ⟨_, h0 | ⟨g, cap, cs, hv, -⟩⟩ := M.ok _ h
  · obtain ⟨-, h0, -⟩ := h0; omega
  · injection hv with h1 _ _
    exact ⟨g, h1⟩
theorem Own.row_set {e : TypeId} {sz n c g : Nat} {xs : List Value} (M : Own W0 w (L1 ++ (.row e sz (.slice (some ⟨g, 0, none⟩) n c) n xs :: L2))) (i : Nat) (hi : i < n * sz) (u : Value) :
    Own W0 (w.setCell ⟨g, i, none⟩ u) (L1 ++ (.row e sz (.slice (some ⟨g, 0, none⟩) n c) n (xs.set i u) :: L2)) ∧ w.cell? ⟨g, i, none⟩ = xs[i]? ∧ w.frozen? ⟨g, i, none⟩ = false := by
  obtain ⟨hl, h0 | ⟨g', cap, cs, hv, h1, h2, h3, h4, h5, h6⟩⟩ := M.ok (.row e sz (.slice (some ⟨g, 0, none⟩) n c) n xs) (by simp)
  · obtain ⟨h0, -⟩ := h0; cases h0
  injection hv with e1 e2 e3
  injection e1 with e1
  injection e1 with e1
  subst e1 e3
  have hc : i < cs.size := by rw [h5]; exact Nat.lt_of_lt_of_le hi (Nat.mul_le_mul_right _ h3)
  refine ⟨?_, ?_, ?_⟩
  · refine Own.step (As := [.row e sz (.slice (some ⟨g, 0, none⟩) n c) n xs]) (Bs := [.row e sz (.slice (some ⟨g, 0, none⟩) n c) n (xs.set i u)]) M (by simp [Ent.mine]) rfl rfl rfl (by simp [World.setCell]) (fun k hk hx => Below.heap_setCell _ _ _ _ (fun e => ?_)) ?_ (by simp) ?_
    · simp only [List.mem_singleton, forall_eq] at hx
      exact hx (by simp [Ent.foot, Value.ownBlock]; exact e.symm)
    · simp only [List.mem_singleton, forall_eq]
      refine ⟨by simpa using hl, .inr ⟨g, c, cs.setIfInBounds i u, rfl, h1, ?_, h3, h4, by simpa using h5, ?_⟩⟩
      · simp [World.setCell, Array.getElem?_modify, h2]
      · rw [← h6, Array.toList_setIfInBounds, List.take_set]
    · simp only [List.mem_singleton, forall_eq, exists_eq_left]
      exact fun k hk => .inl hk
  · rw [cell_of_row w g i cs e (0, 0) h2, ← h6, List.getElem?_take]
    simp [hi]
  · simp [World.frozen?, h2]
theorem Own.bytes {e : TypeId} {n : Nat} {v : Value} {l : List Int} (M : Own W0 w L) (h : .row e 1 v n (ints .u8 l) ∈ L) (hn : l.length = n) : BytesAt w v l := by
  subst hn; exact M.slice h
end
end Go.Proofs.YtiedbfaehndooaaDoor

/- A reader of bytes that are laid out: where it stands, and what it reads, if there are so many bytes. -/
namespace Go.Proofs.YtiedbfaehndooaaDoor
open Go Go.RowKit
set_option linter.unusedVariables false
set_option linter.unusedSimpArgs false

/-- If there are N bytes the reader stands at k, and is not bad. -/
def RdAt (N : Nat) (l : List Int) (k a : Nat) (bad : Bool) : Prop := RdOk l a ∧ (l.length = N → a = k ∧ bad = false)
theorem RdAt.start (N : Nat) {l : List Int} (h : Bytes l) : RdAt N l 0 0 false := ⟨⟨Nat.zero_le _, h⟩, fun _ => ⟨rfl, rfl⟩⟩
theorem RdAt.step2 {N : Nat} {l : List Int} {k a : Nat} {bad : Bool} (h : RdAt N l k a bad) (hk : k + 2 ≤ N) : RdAt N l (k + 2) (rAt l a bad 2) (!rOk l a bad 2) ∧ (l.length = N → rNum l a bad 2 = n2 l k) := by
  refine ⟨⟨h.1.next bad 2, fun hl => ?_⟩, fun hl => ?_⟩
  · obtain ⟨rfl, rfl⟩ := h.2 hl
    exact (read2 (l := l) (a := a) (by omega)).2
  · obtain ⟨rfl, rfl⟩ := h.2 hl
    exact (read2 (l := l) (a := a) (by omega)).1
theorem RdAt.step4 {N : Nat} {l : List Int} {k a : Nat} {bad : Bool} (h : RdAt N l k a bad) (hk : k + 4 ≤ N) : RdAt N l (k + 4) (rAt l a bad 4) (!rOk l a bad 4) ∧ (l.length = N → rNum l a bad 4 = n4 l k) := by
  refine ⟨⟨h.1.next bad 4, fun hl => ?_⟩, fun hl => ?_⟩
  · obtain ⟨rfl, rfl⟩ := h.2 hl
    exact (read4 (l := l) (a := a) (by omega)).2
  · obtain ⟨rfl, rfl⟩ := h.2 hl
    exact (read4 (l := l) (a := a) (by omega)).1
section
variable {W0 w : World} {L : List Ent} {b : Nat} {v : Value} {l : List Int} {N k a : Nat} {bad : Bool}
theorem rdU16_at (hR : RdAt N l k a bad) (hk : k + 2 ≤ N) (M : Own W0 w (rdE b v l a bad ++ L)) : Calls Tryd.prog 53 #[.pointer (some ⟨b, 0, none⟩)] w (Ret fun r w' =>
    ∃ (x : Int) (a' : Nat) (bad' : Bool), r = .int .u16 x ∧ 0 ≤ x ∧ x < 65536 ∧ (l.length = N → x = n2 l k) ∧ RdAt N l (k + 2) a' bad' ∧ Own W0 w' (rdE b v l a' bad' ++ L)) :=
  (rd_U16 hR.1 M).mono fun _ _ ⟨_, e, h1, h2⟩ => by
    obtain ⟨h3, h4⟩ := hR.step2 hk
    obtain ⟨g0, g1⟩ : 0 ≤ rNum l a bad 2 ∧ rNum l a bad 2 < 65536 := by simpa using rNum_bound (bad := bad) (at_ := a) hR.1.bytes 2 (by omega)
    exact ⟨_, e, _, _, _, h1, g0, g1, h4, h3, h2⟩
theorem rdI16_at (hR : RdAt N l k a bad) (hk : k + 2 ≤ N) (M : Own W0 w (rdE b v l a bad ++ L)) : Calls Tryd.prog 52 #[.pointer (some ⟨b, 0, none⟩)] w (Ret fun r w' =>
    ∃ (x : Int) (a' : Nat) (bad' : Bool), r = .int .i16 x ∧ -32768 ≤ x ∧ x < 32768 ∧ (l.length = N → x = sgn (n2 l k)) ∧ RdAt N l (k + 2) a' bad' ∧ Own W0 w' (rdE b v l a' bad' ++ L)) :=
  (rd_I16 hR.1 M).mono fun _ _ ⟨_, e, h1, h2⟩ => by
    obtain ⟨h3, h4⟩ := hR.step2 hk
    obtain ⟨g0, g1⟩ : 0 ≤ rNum l a bad 2 ∧ rNum l a bad 2 < 65536 := by simpa using rNum_bound (bad := bad) (at_ := a) hR.1.bytes 2 (by omega)
    refine ⟨_, e, _, _, _, h1, ?_, ?_, fun hl => by rw [h4 hl], h3, h2⟩
    · unfold sgn; split <;> omega
    · unfold sgn; split <;> omega
end
end Go.Proofs.YtiedbfaehndooaaDoor

/- Lists of bytes behind one another, as the references write it: Join of a list built in place. -/
namespace Go.Proofs.YtiedbfaehndooaaDoor
open Go Go.RowKit
set_option linter.unusedVariables false
set_option linter.unusedSimpArgs false

theorem alloc_size (w : World) (o : Obj) : (w.alloc o).heap.size = w.heap.size + 1 := by simp
/-- Where a row lies in what is owned. -/
theorem Own.bytesH {W0 w : World} {L : List Ent} {e : TypeId} {n : Nat} {v : Value} {l : List Int} (M : Hid (Own W0 w L)) (h : .row e 1 v n (ints .u8 l) ∈ L) (hn : l.length = n) : BytesAt w v l := M.out.bytes h hn
end Go.Proofs.YtiedbfaehndooaaDoor

/- A reader of bytes by the place where it would stand: what it reads is told by the bytes alone (nothing, where there are too few), and it is bad just if that place lies behind the end. -/
namespace Go.Proofs.YtiedbfaehndooaaDoor
open Go Go.RowKit
set_option linter.unusedVariables false
set_option linter.unusedSimpArgs false

/-- The reader at block b would stand at k. -/
def RS (W0 w : World) (b : Nat) (l : List Int) (k : Nat) (L : List Ent) : Prop :=
  ∃ v a bad, RdOk l a ∧ bad = decide (l.length < k) ∧ (k ≤ l.length → a = k) ∧ Own W0 w (rdE b v l a bad ++ L)
section
variable {W0 w w' : World} {b k : Nat} {l : List Int} {L : List Ent}
theorem RS.start {v : Value} (h : Bytes l) (M : Own W0 w (rdE b v l 0 false ++ L)) : RS W0 w b l 0 L := ⟨v, 0, false, ⟨Nat.zero_le _, h⟩, by simp, fun _ => rfl, M⟩
theorem RS.keep (h : RS W0 w b l k L) (hb : Below w.heap.size w w') : RS W0 w' b l k L := by
  obtain ⟨v, a, bad, h1, h2, h3, M⟩ := h
  exact ⟨v, a, bad, h1, h2, h3, M.keep hb⟩
theorem RS.below (h : RS W0 w b l k L) : Below W0.heap.size W0 w := by
  obtain ⟨v, a, bad, h1, h2, h3, M⟩ := h
  exact M.below
theorem RS.perm {L' : List Ent} (h : RS W0 w b l k L) (hp : L.Perm L') : RS W0 w b l k L' := by
  obtain ⟨v, a, bad, h1, h2, h3, M⟩ := h
  exact ⟨v, a, bad, h1, h2, h3, M.perm (hp.append_left _)⟩
theorem RS.opened (h : RS W0 w b l k L) : ∃ v a bad, Own W0 w (L ++ rdE b v l a bad) ∧ RdOk l a ∧ bad = decide (l.length < k) ∧ (k ≤ l.length → a = k) := by
  obtain ⟨v, a, bad, h1, h2, h3, M⟩ := h
  exact ⟨v, a, bad, M.perm List.perm_append_comm, h1, h2, h3⟩
theorem RS.shut {v : Value} {a : Nat} {bad : Bool} (M : Own W0 w (L ++ rdE b v l a bad)) (h1 : RdOk l a) (h2 : bad = decide (l.length < k)) (h3 : k ≤ l.length → a = k) : RS W0 w b l k L :=
  ⟨v, a, bad, h1, h2, h3, M.perm List.perm_append_comm⟩
/-- What stands beside the reader. -/
theorem RS.beside (h : RS W0 w b l k L) : Own W0 w L := by
  obtain ⟨v, a, bad, -, -, -, M⟩ := h
  exact M.sub (List.sublist_append_right _ _)
theorem RS.lift {L' : List Ent} (h : RS W0 w b l k L) (h' : Own w w' L') (hm : ∀ y ∈ L', y.mine := by simp [Ent.mine]) : RS W0 w' b l k (L' ++ L) := by
  obtain ⟨v, a, bad, h1, h2, h3, M⟩ := h
  exact ⟨v, a, bad, h1, h2, h3, (M.lift h' hm).perm (List.perm_append_comm_assoc _ _ _)⟩
theorem RS.nil_row (h : RS W0 w b l k L) (e : TypeId) (sz : Nat) : RS W0 w b l k (.row e sz (.slice none 0 0) 0 [] :: L) := by
  obtain ⟨v, a, bad, h1, h2, h3, M⟩ := h
  exact ⟨v, a, bad, h1, h2, h3, (M.nil_row e sz).perm List.perm_middle.symm⟩
theorem RS.perm_tail {x : Ent} (h : RS W0 w b l k (x :: L)) : RS W0 w b l k L := by
  obtain ⟨v, a, bad, h1, h2, h3, M⟩ := h
  exact ⟨v, a, bad, h1, h2, h3, M.sub ((List.sublist_cons_self _ _).append_left _)⟩
theorem RS.size (h : RS W0 w b l k L) : l.length ≤ maxLen := by
  obtain ⟨v, a, bad, h1, h2, h3, M⟩ := h
  exact (M.slice (e := 5) (sz := 1) (v := v) (n := l.length) (xs := ints .u8 l) (by simp [rdE])).le
theorem RS.bytes (h : RS W0 w b l k L) : Bytes l := by
  obtain ⟨v, a, bad, h1, h2, h3, M⟩ := h
  exact h1.bytes
/-- Where a reader stands that is at a, or bad. -/
theorem rs_step {a m : Nat} {bad : Bool} (h2 : bad = decide (l.length < k)) (h3 : k ≤ l.length → a = k) :
    rOk l a bad m = decide (k + m ≤ l.length) ∧ (!rOk l a bad m) = decide (l.length < k + m) ∧ (k + m ≤ l.length → a = k ∧ rAt l a bad m = k + m) := by
  have e : rOk l a bad m = decide (k + m ≤ l.length) := by
    by_cases hk : k ≤ l.length
    · have h3 := h3 hk; subst h3
      have hb : bad = false := by rw [h2]; exact decide_eq_false (by omega)
      rw [hb]
      unfold rOk
      rw [Bool.not_false, Bool.true_and]
      exact decide_eq_decide.2 ⟨fun h => by omega, fun h => by omega⟩
    · have hb : bad = true := by rw [h2]; exact decide_eq_true (by omega)
      rw [hb]
      unfold rOk
      rw [Bool.not_true, Bool.false_and]
      exact (decide_eq_false (by omega)).symm
  refine ⟨e, ?_, fun h => ⟨h3 (by omega), ?_⟩⟩
  · rw [e]
    by_cases h : k + m ≤ l.length
    · rw [decide_eq_true h, decide_eq_false (by omega)]; rfl
    · rw [decide_eq_false h, decide_eq_true (by omega)]; rfl
  · unfold rAt
    rw [e, if_pos (decide_eq_true h), h3 (by omega), Int.toNat_natCast]
theorem rs_bytes {a m : Nat} {bad : Bool} (h2 : bad = decide (l.length < k)) (h3 : k ≤ l.length → a = k) : rBytes l a bad m = if k + m ≤ l.length then (l.drop k).take m else [] := by
  obtain ⟨h4, -, h5⟩ := rs_step (m := m) h2 h3
  unfold rBytes
  rw [h4]
  by_cases h : k + m ≤ l.length
  · rw [if_pos (decide_eq_true h), if_pos h, (h5 h).1, Int.toNat_natCast]
  · rw [if_neg (by simp; omega), if_neg h]
theorem rs_n2 {a : Nat} {bad : Bool} (h2 : bad = decide (l.length < k)) (h3 : k ≤ l.length → a = k) : rNum l a bad 2 = n2 l k := by
  have := rs_bytes (m := 2) h2 h3
  unfold rNum n2
  rw [show ((2 : Nat) : Int) = 2 from rfl] at this
  rw [this]
  by_cases h : k + 2 ≤ l.length
  · rw [if_pos h, if_pos h, take2 h]
    simp only [be, List.foldl_cons, List.foldl_nil]; omega
  · rw [if_neg h, if_neg h]; rfl
theorem rs_n1 {a : Nat} {bad : Bool} (h2 : bad = decide (l.length < k)) (h3 : k ≤ l.length → a = k) : rNum l a bad 1 = l.getD k 0 := by
  have := rs_bytes (m := 1) h2 h3
  unfold rNum
  rw [show ((1 : Nat) : Int) = 1 from rfl] at this
  rw [this]
  by_cases h : k + 1 ≤ l.length
  · rw [if_pos h, List.drop_eq_getElem_cons (by omega), List.take_succ_cons, List.take_zero]
    simp [be, List.getD, show k < l.length by omega]
  · rw [if_neg h]
    simp [be, List.getD, List.getElem?_eq_none (show l.length ≤ k by omega)]
theorem RS.next {v : Value} {a m : Nat} {bad : Bool} (h1 : RdOk l a) (h2 : bad = decide (l.length < k)) (h3 : k ≤ l.length → a = k) (M : Own W0 w (rdE b v l (rAt l a bad m) (!rOk l a bad m) ++ L)) : RS W0 w b l (k + m) L := by
  obtain ⟨h4, h5, h6⟩ := rs_step (m := m) h2 h3
  exact ⟨v, _, _, h1.next bad m, h5, fun h => (h6 h).2, M⟩
theorem RS.U8 (h : RS W0 w b l k L) : Calls Tryd.prog 65 #[.pointer (some ⟨b, 0, none⟩)] w (Ret fun r w' => r = .int .u8 (l.getD k 0) ∧ RS W0 w' b l (k + 1) L) := by
  obtain ⟨v, a, bad, h1, h2, h3, M⟩ := h
  refine (rd_U8 h1 M).mono ?_
  rintro _ w' ⟨r, e, h4, M'⟩
  exact ⟨r, e, by rw [h4, rs_n1 h2 h3], RS.next (m := 1) h1 h2 h3 M'⟩
theorem RS.U16 (h : RS W0 w b l k L) : Calls Tryd.prog 53 #[.pointer (some ⟨b, 0, none⟩)] w (Ret fun r w' => r = .int .u16 (n2 l k) ∧ RS W0 w' b l (k + 2) L) := by
  obtain ⟨v, a, bad, h1, h2, h3, M⟩ := h
  refine (rd_U16 h1 M).mono ?_
  rintro _ w' ⟨r, e, h4, M'⟩
  exact ⟨r, e, by rw [h4, rs_n2 h2 h3], RS.next (m := 2) h1 h2 h3 M'⟩
theorem RS.I16 (h : RS W0 w b l k L) : Calls Tryd.prog 52 #[.pointer (some ⟨b, 0, none⟩)] w (Ret fun r w' => r = .int .i16 (sgn (n2 l k)) ∧ RS W0 w' b l (k + 2) L) := by
  obtain ⟨v, a, bad, h1, h2, h3, M⟩ := h
  refine (rd_I16 h1 M).mono ?_
  rintro _ w' ⟨r, e, h4, M'⟩
  exact ⟨r, e, by rw [h4, rs_n2 h2 h3], RS.next (m := 2) h1 h2 h3 M'⟩
/-- The bytes that are taken. -/
def tkB (l : List Int) (k m : Nat) : List Int := if k + m ≤ l.length then (l.drop k).take m else []
theorem RS.Take (h : RS W0 w b l k L) (m : Nat) (hl : l.length ≤ 140737488355328) : Calls Tryd.prog 56 #[.pointer (some ⟨b, 0, none⟩), .int .i64 m] w (Ret fun r w' =>
    RS W0 w' b l (k + m) (.row 5 1 r (tkB l k m).length (ints .u8 (tkB l k m)) :: L)) := by
  obtain ⟨v, a, bad, h1, h2, h3, M⟩ := h
  refine (rd_Take (n := m) h1.le hl M).mono ?_
  rintro _ w' ⟨r, e, M'⟩
  rw [rs_bytes h2 h3] at M'
  exact ⟨r, e, RS.next (m := m) h1 h2 h3 (M'.perm List.perm_middle.symm)⟩
theorem RS.At (h : RS W0 w b l k L) : Calls Tryd.prog 57 #[.pointer (some ⟨b, 0, none⟩)] w (Ret fun r w' => ∃ a : Nat, (k ≤ l.length → a = k) ∧ r = .int .i64 a ∧ w = w') := by
  obtain ⟨v, a, bad, h1, h2, h3, M⟩ := h
  exact (rd_At M).mono fun _ _ ⟨r, e, h4, h5⟩ => ⟨r, e, a, h3, h4, h5⟩
theorem RS.Bad (h : RS W0 w b l k L) : Calls Tryd.prog 54 #[.pointer (some ⟨b, 0, none⟩)] w (Ret fun r w' => r = .bool (decide (l.length < k)) ∧ w = w') := by
  obtain ⟨v, a, bad, h1, h2, h3, M⟩ := h
  rw [← h2]
  exact rd_Bad M
end
end Go.Proofs.YtiedbfaehndooaaDoor

/- A drawn region under a condition that holds until one operation (a store) comes up: behind it, none. -/
namespace Go.Proofs.YtiedbfaehndooaaDoor
open Go Go.RowKit
section
variable {P : Program} {ops : Array Oper} {Q : Exit → Act → World → Prop} {md : Region.Mode} {S : World → Prop} {st : Nat}

def wpAnyV (P : Program) (md : Region.Mode) (ops : Array Oper) (Q : Exit → Act → World → Prop) (S : World → Prop) (st : Nat) : Nat → Array Bool → Act → World → Prop
  | 0, listed, a, w => Region.ready md ops listed = [] ∧ Q .normal a w
  | fuel + 1, listed, a, w => (Region.ready md ops listed = [] → Q .normal a w) ∧
    ∀ i ∈ Region.ready md ops listed, (i = st → wpOp P ops Q i (fun a' w' => wpAny P md ops Q fuel (listed.setIfInBounds i true) a' w') a w) ∧
      (i ≠ st → wpOp P ops Q i (fun a' w' => S w' ∧ wpAnyV P md ops Q S st fuel (listed.setIfInBounds i true) a' w') a w)

theorem wpAny_of_V : ∀ (fuel : Nat) (listed : Array Bool) (a : Act) (w : World), wpAnyV P md ops Q S st fuel listed a w → wpAny P md ops Q fuel listed a w
  | 0, _, _, _, h => h
  | fuel + 1, _, _, _, h => ⟨h.1, fun i hi => by
      by_cases e : i = st
      · exact (h.2 i hi).1 e
      · exact wpOp_mono (fun a' w' h' => wpAny_of_V fuel _ a' w' h'.2) ((h.2 i hi).2 e)⟩

/-- What has come up had all that it waits for. -/
def closedL (md : Region.Mode) (ops : Array Oper) (listed : Array Bool) : Prop := ∀ (j : Nat) (o : Oper), ops[j]? = some o → listed.getD j false = true → ∀ e ∈ o.after, Region.binds md e = true → listed.getD e.on false = true
def closedB (md : Region.Mode) (ops : Array Oper) (listed : Array Bool) : Bool := (List.range ops.size).all fun j => match ops[j]? with
  | some o => !(listed.getD j false) || o.after.toList.all fun e => !(Region.binds md e) || listed.getD e.on false
  | none => true
theorem closed_of {listed : Array Bool} (h : closedB md ops listed = true) : closedL md ops listed := fun j o ho hl e he hb => by
  have hj : j < ops.size := (Array.getElem?_eq_some_iff.1 ho).1
  have := List.all_eq_true.1 h j (List.mem_range.2 hj)
  simp only [ho, hl, Bool.not_true, Bool.false_or] at this
  have := List.all_eq_true.1 this e (by simpa using he)
  rw [hb] at this
  simpa using this
theorem closed_set {listed : Array Bool} {j : Nat} (h : closedL md ops listed) (hj : j ∈ Region.ready md ops listed) : closedL md ops (listed.setIfInBounds j true) := fun k o ho hl e he hb => by
  by_cases hk : j = k
  · subst hk
    obtain ⟨-, o', ho', hall⟩ := mem_ready.1 hj
    rw [ho] at ho'
    injection ho' with ho'
    subst ho'
    exact getD_set_true (hall e he hb)
  · rw [getD_set_ne false hk] at hl
    exact getD_set_true (h k o ho hl e he hb)
def pathB (md : Region.Mode) (ops : Array Oper) : Nat → List Nat → Nat → Bool
  | s, [], i => Region.waitsFor md ops s i
  | s, c :: l, i => Region.waitsFor md ops s c && pathB md ops c l i
theorem waits_not {s c : Nat} {listed : Array Bool} (hw : Region.waitsFor md ops s c = true) (hcl : closedL md ops listed) (hc : listed.getD c false ≠ true) : s ∉ Region.ready md ops listed ∧ listed.getD s false ≠ true := by
  obtain ⟨os, hos, e, he, hb, heq⟩ := Region.waitsFor_spec hw
  subst heq
  refine ⟨fun hr => ?_, fun hl => hc (hcl s os hos hl e he hb)⟩
  obtain ⟨-, o', ho', hall⟩ := mem_ready.1 hr
  rw [hos] at ho'
  injection ho' with ho'
  subst ho'
  exact hc (hall e he hb)
theorem path_not {i : Nat} {listed : Array Bool} (hcl : closedL md ops listed) (hi : listed.getD i false ≠ true) : ∀ (l : List Nat) (s : Nat), pathB md ops s l i = true → s ∉ Region.ready md ops listed ∧ listed.getD s false ≠ true
  | [], s, h => waits_not h hcl hi
  | c :: l, s, h => by
    simp only [pathB, Bool.and_eq_true] at h
    exact waits_not h.1 hcl (path_not hcl hi l c h.2).2
theorem not_listed {i : Nat} {listed : Array Bool} (h : i ∈ Region.ready md ops listed) : listed.getD i false ≠ true := fun h1 => by
  have h0 := (mem_ready.1 h).1
  rcases Nat.lt_or_ge i listed.size with h' | h'
  · simp [h'] at h0 h1; rw [h0] at h1; cases h1
  · simp [Array.getElem?_eq_none h'] at h1

theorem wpAnyV_first {i : Nat} {oi : Oper} {v : Value} (hi : ops[i]? = some oi) (hsel : ∀ (j : Nat) (o : Oper) cs b, ops[j]? = some o → o.op ≠ .select cs b)
    (hQ : ∀ c a w, Q (.panic c) (a.put oi.dst v) w → Q (.panic c) a w) (l : List Nat) (hwt : pathB md ops st l i = true) (his : i ≠ st) :
    ∀ (fuel : Nat) (listed : Array Bool) (a : Act) (w : World), closedL md ops listed →
      (∀ j oj, ops[j]? = some oj → j ≠ i → listed.getD j true = false → (∀ e ∈ oj.after, Region.binds md e = true → e.on ≠ i) → oi.apart ops oj = true) →
      i ∈ Region.ready md ops listed → YieldsIf P ops S oi v a → S w →
      wpAnyV P md ops Q S st fuel (listed.setIfInBounds i true) (a.put oi.dst v) w → wpAnyV P md ops Q S st (fuel + 1) listed a w := by
  intro fuel
  induction fuel with
  | zero =>
    intro listed a w _ _ hr hy hS H
    refine ⟨fun h => (by rw [h] at hr; cases hr), fun j hj => ?_⟩
    by_cases hji : j = i
    · subst hji; exact ⟨fun e => absurd e his, fun _ => hy.wpOp hi hS ⟨hS, H⟩⟩
    · have := ready_mono hj hji
      rw [H.1] at this
      cases this
  | succ fuel ih =>
    intro listed a w hcl hfree hr hy hS H
    refine ⟨fun h => (by rw [h] at hr; cases hr), fun j hj => ?_⟩
    by_cases hji : j = i
    · subst hji; exact ⟨fun e => absurd e his, fun _ => hy.wpOp hi hS ⟨hS, H⟩⟩
    · obtain ⟨hjun, oj, hoj, hall⟩ := mem_ready.1 hj
      have hnot : ∀ e ∈ oj.after, Region.binds md e = true → e.on ≠ i := fun e he hb heq => by
        have h1 := hall e he hb
        have h0 := (mem_ready.1 hr).1
        rw [heq] at h1
        rcases Nat.lt_or_ge i listed.size with h' | h'
        · simp [h'] at h0 h1; rw [h0] at h1; cases h1
        · simp [Array.getElem?_eq_none h'] at h1
      have hjs : j ≠ st := fun e => (path_not hcl (not_listed hr) l st hwt).1 (e ▸ hj)
      have h1 := (H.2 j (ready_mono hj hji)).2 hjs
      have h2 := wpOp_putIf hoj (hfree j oj hoj hji hjun hnot) (fun cs b => hsel i oi cs b hi) (fun cs b => hsel j oj cs b hoj) hQ hy h1
      have hfree' : ∀ k ok, ops[k]? = some ok → k ≠ i → (listed.setIfInBounds j true).getD k true = false →
          (∀ e ∈ ok.after, Region.binds md e = true → e.on ≠ i) → oi.apart ops ok = true := fun k ok hk hki hun hno => by
        refine hfree k ok hk hki ?_ hno
        by_cases hjk : j = k
        · subst hjk; exact hjun
        · rw [getD_set_ne true hjk] at hun; exact hun
      refine ⟨fun e => absurd e hjs, fun _ => wpOp_mono (fun a' w' h3 => ⟨h3.2.1, ih (listed.setIfInBounds j true) a' w' (closed_set hcl hj) hfree' (ready_mono hr (Ne.symm hji)) h3.1 h3.2.1 ?_⟩) h2⟩
      rw [Array.setIfInBounds_comm _ _ hji]
      exact h3.2.2

theorem wpAnyV_take {i : Nat} {oi : Oper} {v : Value} {fuel : Nat} {listed : Array Bool} {a : Act} {w : World} (hi : ops[i]? = some oi)
    (hs : Region.noSelect ops = true) (hf : Region.free md ops listed i = true) (hr : (Region.ready md ops listed).contains i = true) (l : List Nat) (hwt : pathB md ops st l i = true) (hcl : closedB md ops listed = true) (his : (i == st) = false)
    (hQ : ∀ c a w, Q (.panic c) (a.put oi.dst v) w → Q (.panic c) a w) (hy : YieldsIf P ops S oi v a) (hS : S w)
    (h : wpAnyV P md ops Q S st fuel (listed.setIfInBounds i true) (a.put oi.dst v) w) : wpAnyV P md ops Q S st (fuel + 1) listed a w := by
  exact wpAnyV_first hi (Region.noSelect_spec hs) hQ l hwt (by simpa using his) fuel listed a w (closed_of hcl) (Region.free_spec hi hf) (by simpa using hr) hy hS h

def AllReadyV (P : Program) (md : Region.Mode) (ops : Array Oper) (Q : Exit → Act → World → Prop) (S : World → Prop) (st : Nat) (fuel : Nat) (listed : Array Bool) (a : Act) (w : World) (rs : List Nat) : Prop :=
  ∀ i ∈ rs, (i = st → wpOp P ops Q i (fun a' w' => wpAny P md ops Q fuel (listed.setIfInBounds i true) a' w') a w) ∧ (i ≠ st → wpOp P ops Q i (fun a' w' => S w' ∧ wpAnyV P md ops Q S st fuel (listed.setIfInBounds i true) a' w') a w)
theorem AllReadyV.nil {fuel : Nat} {listed : Array Bool} {a : Act} {w : World} : AllReadyV P md ops Q S st fuel listed a w [] := fun _ h => by cases h
theorem AllReadyV.cons {fuel : Nat} {listed : Array Bool} {a : Act} {w : World} {i : Nat} {o : Oper} {rs : List Nat} (ho : ops[i]? = some o) (his : (i == st) = false)
    (h : ∀ K' : Act → World → Prop, Shut (∀ a w, S w → (S w → wpAnyV P md ops Q S st fuel (listed.setIfInBounds i true) a w) → K' a w) → if Region.wanted o (yielded ops a.tmps) = true then Oper.wp P o a w K' Q else K' (a.put o.dst undef) w)
    (hs : AllReadyV P md ops Q S st fuel listed a w rs) : AllReadyV P md ops Q S st fuel listed a w (i :: rs) := fun j hj => by
  rcases List.mem_cons.1 hj with rfl | hj
  · exact ⟨fun e => by simp [e] at his, fun _ => wpOp_step ho (fun K' hK => h K' (fun a w hS hW => hK a w ⟨hS, hW hS⟩))⟩
  · exact hs j hj
/-- The last one under the condition. -/
theorem AllReadyV.last {fuel : Nat} {listed : Array Bool} {a : Act} {w : World} {o : Oper} (ho : ops[st]? = some o)
    (h : ∀ K' : Act → World → Prop, Shut (∀ a w, (True → wpAnyH P md ops Q (fun _ => True) fuel (listed.setIfInBounds st true) a w) → K' a w) → if Region.wanted o (yielded ops a.tmps) = true then Oper.wp P o a w K' Q else K' (a.put o.dst undef) w) :
    AllReadyV P md ops Q S st fuel listed a w [st] := fun j hj => by
  obtain rfl := List.mem_singleton.1 hj
  exact ⟨fun _ => wpOp_step ho (fun K' hK => h K' (fun a w hW => hK a w (wpAny_of_held _ _ _ _ (hW trivial)))), fun e => absurd rfl e⟩
theorem wpAnyV_ready {rs : List Nat} {fuel : Nat} {listed : Array Bool} {a : Act} {w : World} (hr : Region.ready md ops listed = rs) (hne : rs ≠ [])
    (h : AllReadyV P md ops Q S st fuel listed a w rs) : wpAnyV P md ops Q S st (fuel + 1) listed a w := ⟨fun h0 => absurd (hr ▸ h0) hne, hr ▸ h⟩
theorem wp_region_until {id : Nat} {a : Act} {w : World} (st : Nat) (hm : P.follows .mixedOrders = true) (hS : S w.drew)
    (h : S w.drew → wpAnyV P .any ops Q S st ops.size (Array.replicate ops.size false) a w.drew) : (Code.region id ops true).wp P Q a w :=
  wp_region_any hm (wpAny_of_V _ _ _ _ (h hS))
end
end Go.Proofs.YtiedbfaehndooaaDoor

/- An array as an argument. -/
namespace Go.Proofs.YtiedbfaehndooaaDoor
open Go
theorem okWide_array {P : Program} {w : World} {r : Reach} {base : Nat} {t n e : TypeId} {v : Value} (ht : P.underlying t = some (.array n e)) (h : Value.okWide P w r base t v) : ∃ cs, v = .agg cs ∧ cs.size = P.cellsOf t := by
  simp only [Value.okWide, ht] at h
  obtain ⟨cs, h1, h2, _⟩ := h
  exact ⟨cs, h1, h2⟩
end Go.Proofs.YtiedbfaehndooaaDoor
