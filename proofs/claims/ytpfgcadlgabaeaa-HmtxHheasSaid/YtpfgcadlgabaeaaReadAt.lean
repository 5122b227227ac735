/- A reader of bytes that are laid out: where it stands, and what it reads, if there are so many bytes. -/
import Derived.Test.YtpfgcadlgabaeaaNums
namespace Go.Proofs.Ytpfgcadlgabaeaa
open Go Go.RowKit
set_option linter.unusedVariables false
set_option linter.unusedSimpArgs false

/-- If there are N bytes the reader stands at k, and is not bad. -/
def RdAt (N : Nat) (l : List Int) (k a : Nat) (bad : Bool) : Prop := RdOk l a ∧ (l.length = N → a = k ∧ bad = false)
theorem RdAt.start (N : Nat) {l : List Int} (h : Bytes l) : RdAt N l 0 0 false := ⟨⟨Nat.zero_le _, h⟩, fun _ => ⟨rfl, rfl⟩⟩
theorem RdAt.step2 {N : Nat} {l : List Int} {k a : Nat} {bad : Bool} (h : RdAt N l k a bad) (hk : k + 2 ≤ N) : RdAt N l (k + 2) (rAt l a bad 2) (!rOk l a bad 2) ∧ (l.length = N → rNum l a bad 2 = n2 l k) := by
  refine ⟨⟨h.1.next bad 2, fun hl => ?_⟩, fun hl => ?_⟩
  · obtain ⟨rfl, rfl⟩ := h.2 hl
    exact (read2 (l := l) (a := a) (by omega)).2
  · obtain ⟨rfl, rfl⟩ := h.2 hl
    exact (read2 (l := l) (a := a) (by omega)).1
theorem RdAt.step4 {N : Nat} {l : List Int} {k a : Nat} {bad : Bool} (h : RdAt N l k a bad) (hk : k + 4 ≤ N) : RdAt N l (k + 4) (rAt l a bad 4) (!rOk l a bad 4) ∧ (l.length = N → rNum l a bad 4 = n4 l k) := by
  refine ⟨⟨h.1.next bad 4, fun hl => ?_⟩, fun hl => ?_⟩
  · obtain ⟨rfl, rfl⟩ := h.2 hl
    exact (read4 (l := l) (a := a) (by omega)).2
  · obtain ⟨rfl, rfl⟩ := h.2 hl
    exact (read4 (l := l) (a := a) (by omega)).1
section
variable {W0 w : World} {L : List Ent} {b : Nat} {v : Value} {l : List Int} {N k a : Nat} {bad : Bool}
theorem rdU16_at (hR : RdAt N l k a bad) (hk : k + 2 ≤ N) (M : Own W0 w (rdE b v l a bad ++ L)) : Calls Try.prog 28 #[.pointer (some ⟨b, 0, none⟩)] w (Ret fun r w' =>
    ∃ (x : Int) (a' : Nat) (bad' : Bool), r = .int .u16 x ∧ 0 ≤ x ∧ x < 65536 ∧ (l.length = N → x = n2 l k) ∧ RdAt N l (k + 2) a' bad' ∧ Own W0 w' (rdE b v l a' bad' ++ L)) :=
  (rd_U16 hR.1 M).mono fun _ _ ⟨_, e, h1, h2⟩ => by
    obtain ⟨h3, h4⟩ := hR.step2 hk
    obtain ⟨g0, g1⟩ : 0 ≤ rNum l a bad 2 ∧ rNum l a bad 2 < 65536 := by simpa using rNum_bound (bad := bad) (at_ := a) hR.1.bytes 2 (by omega)
    exact ⟨_, e, _, _, _, h1, g0, g1, h4, h3, h2⟩
theorem rdI16_at (hR : RdAt N l k a bad) (hk : k + 2 ≤ N) (M : Own W0 w (rdE b v l a bad ++ L)) : Calls Try.prog 32 #[.pointer (some ⟨b, 0, none⟩)] w (Ret fun r w' =>
    ∃ (x : Int) (a' : Nat) (bad' : Bool), r = .int .i16 x ∧ -32768 ≤ x ∧ x < 32768 ∧ (l.length = N → x = sgn (n2 l k)) ∧ RdAt N l (k + 2) a' bad' ∧ Own W0 w' (rdE b v l a' bad' ++ L)) :=
  (rd_I16 hR.1 M).mono fun _ _ ⟨_, e, h1, h2⟩ => by
    obtain ⟨h3, h4⟩ := hR.step2 hk
    obtain ⟨g0, g1⟩ : 0 ≤ rNum l a bad 2 ∧ rNum l a bad 2 < 65536 := by simpa using rNum_bound (bad := bad) (at_ := a) hR.1.bytes 2 (by omega)
    refine ⟨_, e, _, _, _, h1, ?_, ?_, fun hl => by rw [h4 hl], h3, h2⟩
    · unfold sgn; split <;> omega
    · unfold sgn; split <;> omega
end
end Go.Proofs.Ytpfgcadlgabaeaa
