/- TypesSignatures is true for the first eight names of that list. -/
import Derived.Test.YtnemnoccljalmaaGreatDoorTyb
set_option autoImplicit false
set_option linter.unusedVariables false
set_option linter.unusedSimpArgs false

namespace Go.Proofs.YtnemnoccljalmaaGreatDoor
open Go Go.AVM Go.RowKit
noncomputable section

theorem run0 (E : Nat → TypeId) : runL Tc (.val (.string ⟨⟨[]⟩⟩)) E = true := by kernel_rfl
theorem run1 (E : Nat → TypeId) : runL Tc (.val (.string ⟨⟨[99, 111, 117, 110, 116, 95, 111, 118, 101, 114, 95, 116, 105, 109, 101]⟩⟩)) E = true := by kernel_rfl
theorem run2 (E : Nat → TypeId) : runL Tc (.val (.string ⟨⟨[115, 117, 109, 95, 111, 118, 101, 114, 95, 116, 105, 109, 101]⟩⟩)) E = true := by kernel_rfl
theorem run3 (E : Nat → TypeId) : runL Tc (.val (.string ⟨⟨[97, 118, 103, 95, 111, 118, 101, 114, 95, 116, 105, 109, 101]⟩⟩)) E = true := by kernel_rfl
theorem run4 (E : Nat → TypeId) : runL Tc (.val (.string ⟨⟨[109, 105, 110, 95, 111, 118, 101, 114, 95, 116, 105, 109, 101]⟩⟩)) E = true := by kernel_rfl
theorem run5 (E : Nat → TypeId) : runL Tc (.val (.string ⟨⟨[109, 97, 120, 95, 111, 118, 101, 114, 95, 116, 105, 109, 101]⟩⟩)) E = true := by kernel_rfl
theorem run6 (E : Nat → TypeId) : runL Tc (.val (.string ⟨⟨[108, 97, 115, 116, 95, 111, 118, 101, 114, 95, 116, 105, 109, 101]⟩⟩)) E = true := by kernel_rfl
theorem run7 (E : Nat → TypeId) : runL Tc (.val (.string ⟨⟨[102, 105, 114, 115, 116, 95, 111, 118, 101, 114, 95, 116, 105, 109, 101]⟩⟩)) E = true := by kernel_rfl

end
end Go.Proofs.YtnemnoccljalmaaGreatDoor
