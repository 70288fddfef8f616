/- TypesSignatures is true for the next eight names of that list. -/
import Derived.Test.YtnemnoccljalmaaGreatDoorTyb
set_option autoImplicit false
set_option linter.unusedVariables false
set_option linter.unusedSimpArgs false

namespace Go.Proofs.YtnemnoccljalmaaGreatDoor
open Go Go.AVM Go.RowKit
noncomputable section

theorem run8 (E : Nat → TypeId) : runL Tc (.val (.string ⟨⟨[105, 110, 99, 114, 101, 97, 115, 101]⟩⟩)) E = true := by kernel_rfl
theorem run9 (E : Nat → TypeId) : runL Tc (.val (.string ⟨⟨[114, 97, 116, 101]⟩⟩)) E = true := by kernel_rfl
theorem run10 (E : Nat → TypeId) : runL Tc (.val (.string ⟨⟨[100, 101, 108, 116, 97]⟩⟩)) E = true := by kernel_rfl
theorem run11 (E : Nat → TypeId) : runL Tc (.val (.string ⟨⟨[99, 104, 97, 110, 103, 101, 115]⟩⟩)) E = true := by kernel_rfl
theorem run12 (E : Nat → TypeId) : runL Tc (.val (.string ⟨⟨[114, 101, 115, 101, 116, 115]⟩⟩)) E = true := by kernel_rfl
theorem run13 (E : Nat → TypeId) : runL Tc (.val (.string ⟨⟨[119, 97, 118, 101, 95, 109, 97, 103]⟩⟩)) E = true := by kernel_rfl
theorem run14 (E : Nat → TypeId) : runL Tc (.val (.string ⟨⟨[119, 97, 118, 101, 95, 116, 117, 114, 110]⟩⟩)) E = true := by kernel_rfl
theorem run15 (E : Nat → TypeId) : runL Tc (.val (.string ⟨⟨[97, 98, 115]⟩⟩)) E = true := by kernel_rfl

end
end Go.Proofs.YtnemnoccljalmaaGreatDoor
