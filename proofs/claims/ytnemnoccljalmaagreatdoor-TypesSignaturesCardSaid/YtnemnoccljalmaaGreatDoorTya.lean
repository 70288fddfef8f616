/- The reference parser's own examples (known) answer true, once the package-level variables are as the text lays them. -/
import Derived.Test.YtnemnoccljalmaaGreatDoorAvd
import Derived.Test.YtnemnoccljalmaaGreatDoorRows
set_option autoImplicit false
set_option linter.unusedVariables false
set_option linter.unusedSimpArgs false

namespace Go.Proofs.YtnemnoccljalmaaGreatDoor
open Go Go.AVM Go.RowKit

def kind : Nat → Nat
  | 115 => 10
  | 97 => 2
  | 152 => 2
  | 146 => 4
  | 114 => 1
  | _ => 0

theorem extOk : ExtOk Tryz.prog kind where
  plain := by
    intro f e h
    unfold kind at h
    split at h <;> simp only [extRow, Option.some.injEq] at h <;> first | (cases h; done) | subst h
    · exact ⟨Tryz.f115, Tryz.func115, by kernel_rfl, by kernel_rfl, by kernel_rfl, by kernel_rfl⟩
    · exact ⟨Tryz.f97, Tryz.func97, by kernel_rfl, by kernel_rfl, by kernel_rfl, by kernel_rfl⟩
    · exact ⟨Tryz.f152, Tryz.func152, by kernel_rfl, by kernel_rfl, by kernel_rfl, by kernel_rfl⟩
    · exact ⟨Tryz.f146, Tryz.func146, by kernel_rfl, by kernel_rfl, by kernel_rfl, by kernel_rfl⟩
    · exact ⟨Tryz.f114, Tryz.func114, by kernel_rfl, by kernel_rfl, by kernel_rfl, by kernel_rfl⟩
  made := by
    intro f h
    unfold kind at h
    split at h <;> first | (cases h; done) | skip

theorem funcsOk : FuncsOk Tryz.prog fun _ => false := funcsOk_of (by kernel_rfl)
theorem cGlob : Nat.ble Tryz.prog.globals.size 15 = true := by kernel_rfl
theorem cNames : namesOk Tryz.prog = true := by kernel_rfl
theorem cMixed : Tryz.prog.follows .mixedOrders = true := by kernel_rfl

def mu : FuncId → Tmp → Bool := fun f t => match f with
  | 7 => Nat.beq t 3 || Nat.beq t 11 || Nat.beq t 12
  | 140 => Nat.beq t 7
  | _ => false
noncomputable def M0 (σ : Nat → Value) (fs : List Fact) : Mach := machOf Tryz.prog 15 1000000 kind mu (fun _ _ => True) σ fs
theorem m0Ok {σ : Nat → Value} {fs : List Fact} (h : ∀ f, f ∈ fs → FactOk Tryz.prog σ f) : MachOk (M0 σ fs) := machOf_ok cGlob cNames cMixed extOk h
end Go.Proofs.YtnemnoccljalmaaGreatDoor

namespace Go.Proofs.YtnemnoccljalmaaGreatDoor
open Go Go.AVM Go.RowKit
noncomputable section

theorem known_later {B : Nat} {w0 w : World} (h : laidSt Tryz.prog Rows.typesSignaturesRow.laid 15 B w0) (hb : Below B w0 w) :
    (callFunc 4 #[]).run Tryz.prog w = .ok (.enter 4 #[]) w ∧ Calls Tryz.prog 4 #[] w fun e w' => e = .returned (.bool true) ∧ Below w.heap.size w w' :=
  closed_later (T := M0 (fun _ => undef) []) (m0Ok fun _ h => by cases h) funcsOk (n := 100) tabOk_of (fun _ _ => trivial) (fun E => by kernel_rfl) h hb

end
end Go.Proofs.YtnemnoccljalmaaGreatDoor
