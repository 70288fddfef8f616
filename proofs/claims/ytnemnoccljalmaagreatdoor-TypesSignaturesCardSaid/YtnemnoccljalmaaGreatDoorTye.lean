/- TypesSignatures is true for the last eight names of that list. -/
import Derived.Test.YtnemnoccljalmaaGreatDoorTyb
set_option autoImplicit false
set_option linter.unusedVariables false
set_option linter.unusedSimpArgs false

namespace Go.Proofs.YtnemnoccljalmaaGreatDoor
open Go Go.AVM Go.RowKit
noncomputable section

theorem run16 (E : Nat → TypeId) : runL Tc (.val (.string ⟨⟨[97, 98, 115, 101, 110, 116]⟩⟩)) E = true := by kernel_rfl
theorem run17 (E : Nat → TypeId) : runL Tc (.val (.string ⟨⟨[99, 108, 97, 109, 112, 95, 109, 97, 120]⟩⟩)) E = true := by kernel_rfl
theorem run18 (E : Nat → TypeId) : runL Tc (.val (.string ⟨⟨[99, 108, 97, 109, 112, 95, 109, 105, 110]⟩⟩)) E = true := by kernel_rfl
theorem run19 (E : Nat → TypeId) : runL Tc (.val (.string ⟨⟨[108, 97, 98, 101, 108, 95, 115, 101, 116]⟩⟩)) E = true := by kernel_rfl
theorem run20 (E : Nat → TypeId) : runL Tc (.val (.string ⟨⟨[115, 99, 97, 108, 97, 114]⟩⟩)) E = true := by kernel_rfl
theorem run21 (E : Nat → TypeId) : runL Tc (.val (.string ⟨⟨[115, 103, 110]⟩⟩)) E = true := by kernel_rfl
theorem run22 (E : Nat → TypeId) : runL Tc (.val (.string ⟨⟨[116, 105, 109, 101]⟩⟩)) E = true := by kernel_rfl
theorem run23 (E : Nat → TypeId) : runL Tc (.val (.string ⟨⟨[118, 101, 99, 116, 111, 114]⟩⟩)) E = true := by kernel_rfl

end
end Go.Proofs.YtnemnoccljalmaaGreatDoor
