/- TypesSignatures is true for every text that is none of a list of names, short or long. -/
import Derived.Test.YtnemnoccljalmaaGreatDoorTya
set_option autoImplicit false
set_option linter.unusedVariables false
set_option linter.unusedSimpArgs false

namespace Go.Proofs.YtnemnoccljalmaaGreatDoor
open Go Go.AVM Go.RowKit
noncomputable section

/-- The names that a text may be held against. -/
noncomputable def names : List (List UInt8) :=
  [[],
    [99, 111, 117, 110, 116, 95, 111, 118, 101, 114, 95, 116, 105, 109, 101],
    [115, 117, 109, 95, 111, 118, 101, 114, 95, 116, 105, 109, 101],
    [97, 118, 103, 95, 111, 118, 101, 114, 95, 116, 105, 109, 101],
    [109, 105, 110, 95, 111, 118, 101, 114, 95, 116, 105, 109, 101],
    [109, 97, 120, 95, 111, 118, 101, 114, 95, 116, 105, 109, 101],
    [108, 97, 115, 116, 95, 111, 118, 101, 114, 95, 116, 105, 109, 101],
    [102, 105, 114, 115, 116, 95, 111, 118, 101, 114, 95, 116, 105, 109, 101],
    [105, 110, 99, 114, 101, 97, 115, 101],
    [114, 97, 116, 101],
    [100, 101, 108, 116, 97],
    [99, 104, 97, 110, 103, 101, 115],
    [114, 101, 115, 101, 116, 115],
    [119, 97, 118, 101, 95, 109, 97, 103],
    [119, 97, 118, 101, 95, 116, 117, 114, 110],
    [97, 98, 115],
    [97, 98, 115, 101, 110, 116],
    [99, 108, 97, 109, 112, 95, 109, 97, 120],
    [99, 108, 97, 109, 112, 95, 109, 105, 110],
    [108, 97, 98, 101, 108, 95, 115, 101, 116],
    [115, 99, 97, 108, 97, 114],
    [115, 103, 110],
    [116, 105, 109, 101],
    [118, 101, 99, 116, 111, 114]]

noncomputable def Tc : Mach := machOf Tryz.prog 15 1000000 kind mu (laidSt Tryz.prog Rows.typesSignaturesRow.laid 15) (fun _ => undef) []
noncomputable def Ts (big : Bool) (s : ByteArray) : Mach := machStr Tryz.prog 15 1000000 kind mu (laidSt Tryz.prog Rows.typesSignaturesRow.laid 15) names 1000 big s
noncomputable def runL (T : Mach) (v : AV) (E : Nat → TypeId) : Bool := okM (enterK T (fun _ => false) (hookK 4 (callN T (fun _ => false) 100)) 3 [v] (Go.AVM.start Tryz.prog (tabOf Tryz.prog Rows.typesSignaturesRow.laid) E 15) isTrue)

theorem run_other (s : ByteArray) (E : Nat → TypeId) : runL (Ts false s) (.sym 0) E = true := by kernel_rfl
theorem run_big (s : ByteArray) (E : Nat → TypeId) : runL (Ts true s) (.sym 0) E = true := by kernel_rfl

end
end Go.Proofs.YtnemnoccljalmaaGreatDoor
