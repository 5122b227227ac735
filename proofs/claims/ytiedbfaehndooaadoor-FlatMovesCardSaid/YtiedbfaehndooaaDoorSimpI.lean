/- Package simple: two outlines that are the same. -/
import Derived.Test.YtiedbfaehndooaaDoorSimpH
import Derived.Test.YtiedbfaehndooaaDoorBaseM
import Derived.Shelf.Bytes.SlEqualAll
namespace Go.Proofs.YtiedbfaehndooaaDoor
open Go Go.RowKit
set_option linter.unusedVariables false
set_option linter.unusedSimpArgs false
set_option maxRecDepth 100000

theorem bool_self {P : Program} {e : TypeId} (he : P.underlying e = some .bool) (d : Nat) (a : Bool) (w : World) : (Op.equalIn (d + 1) e (.bool a) (.bool a)).run P w = .ok true w := by
  simp [Op.equalIn, run_underlying he, Sem.run_bind]
theorem spot_eq (x y : Int) (on : Bool) (w : World) : (Op.equalIn 10000 55 (.agg #[.int .i16 x, .int .i16 y, .bool on]) (.agg #[.int .i16 x, .int .i16 y, .bool on])).run Tryd.prog w = .ok true w := by
  have i2 : (Tryd.prog.info? 36).map (·.size) = some 1 := by kernel_rfl
  have h1 : (part 36 #[.int .i16 x, .int .i16 y, .bool on] 0).run Tryd.prog w = .ok (.int .i16 x) w := run_part_one Tryd.underlying36 i2 rfl w
  have h2 : (part 36 #[.int .i16 x, .int .i16 y, .bool on] 1).run Tryd.prog w = .ok (.int .i16 y) w := run_part_one Tryd.underlying36 i2 rfl w
  have h5 : (part 4 #[.int .i16 x, .int .i16 y, .bool on] 2).run Tryd.prog w = .ok (.bool on) w := by kernel_rfl
  have h3 := int_self (P := Tryd.prog) Tryd.underlying36 9998 x w
  have h4 := int_self (P := Tryd.prog) Tryd.underlying36 9998 y w
  have h6 := bool_self (P := Tryd.prog) Tryd.underlying4 9998 on w
  rw [show (10000 : Nat) = 9999 + 1 from rfl, run_equalIn_struct (P := Tryd.prog) w 9999 55 _ _ (by kernel_rfl) (by kernel_rfl)]
  simp [Program.fieldsOf, Tryd.underlying55, Op.eqFields, Sem.run_bind, h1, h2, h3, h4, h5, h6]
theorem SliceAt.str {w : World} {V : Value} {l : List Int} (h : BytesAt w V l) (src e dst : TypeId) {P : Program}
    (hs : P.underlying src = some (.slice e)) (he : P.underlying e = some (.int .u8)) (hd : P.underlying dst = some .string) : (convert src dst V).run P w = .ok (.string (strOfNums l)) w := by
  obtain ⟨A, c, rfl, -, -, -, hr⟩ := h
  refine Go.Lib.BytesIn.convert (xs := l) ?_ rfl c src e dst hs he hd
  intro hn
  obtain ⟨ad, rfl, -, hc⟩ := hr.2 hn
  exact Go.Lib.BytesIn.of_cells (fun i hi => hc i _ (ints_get .u8 l i hi)) hn
end Go.Proofs.YtiedbfaehndooaaDoor
