/- TypesSignatures is true for every argument and leaves it as it is; the package-level variables that it reads start as the text lays them (the card ties them). -/
import Derived.ProofKit
import Derived.LaidMore
import Derived.OpenShut
import Derived.Stop.Joined
import Derived.Lay
import Derived.ChangeMaps5
import Derived.SevenTiedAt
import Derived.Test.YtnemnoccljalmaaGreatDoorTyc
import Derived.Test.YtnemnoccljalmaaGreatDoorTyd
import Derived.Test.YtnemnoccljalmaaGreatDoorTye
import Derived.Test.YtnemnoccljalmaaGreatDoorTie
import Derived.Test.YtnemnoccljalmaaGreatDoorCards
set_option autoImplicit false
set_option linter.unusedVariables false
set_option linter.unusedSimpArgs false

namespace Go.Proofs.YtnemnoccljalmaaGreatDoor
open Go Go.AVM Go.RowKit
noncomputable section

theorem run_name {l : List UInt8} (h : l ∈ names) (E : Nat → TypeId) : runL Tc (.val (.string ⟨⟨l⟩⟩)) E = true := by
  simp only [names, List.mem_cons, List.not_mem_nil, or_false] at h
  rcases h with rfl | rfl | rfl | rfl | rfl | rfl | rfl | rfl | rfl | rfl | rfl | rfl | rfl | rfl | rfl | rfl | rfl | rfl | rfl | rfl | rfl | rfl | rfl | rfl
  · exact run0 E
  · exact run1 E
  · exact run2 E
  · exact run3 E
  · exact run4 E
  · exact run5 E
  · exact run6 E
  · exact run7 E
  · exact run8 E
  · exact run9 E
  · exact run10 E
  · exact run11 E
  · exact run12 E
  · exact run13 E
  · exact run14 E
  · exact run15 E
  · exact run16 E
  · exact run17 E
  · exact run18 E
  · exact run19 E
  · exact run20 E
  · exact run21 E
  · exact run22 E
  · exact run23 E

end
end Go.Proofs.YtnemnoccljalmaaGreatDoor

namespace Go.Proofs.YtnemnoccljalmaaGreatDoor
open Go Go.AVM Go.RowKit
noncomputable section

theorem walk {s : ByteArray} (hs : s.size ≤ maxLen) {w : World} (hl : laidMet Tryz.prog Rows.typesSignaturesRow.laid w) (hng : 15 ≤ w.heap.size) :
    Calls Tryz.prog 3 #[.string s] w fun e w' => e = .returned (.bool true) ∧ Below w.heap.size w w' := by
  by_cases hK : s.data.toList ∈ names
  · have hM : MachOk Tc := machOf_ok cGlob cNames cMixed extOk (fun _ h => by cases h)
    exact law_true hM funcsOk (hookK_sound (callN_sound hM funcsOk 100) fun B w0 w h hb => known_later h hb) tabOk_of (fun E => run_name hK E) ⟨rfl, hl, hng⟩ hl hng (by simp only [VRL, VR]; exact ⟨_, _, rfl, rfl, rfl⟩)
  · have hx : ∀ w', VRL (G0 (strSig s) w' 15) w' [.sym 0] (#[Value.string s] : Array Value).toList := fun w' => by simp only [VRL, VR]; exact ⟨_, _, rfl, ⟨rfl, rfl⟩, rfl⟩
    by_cases hb : 1000 < s.size
    · have hM : MachOk (Ts true s) := machStr_ok cGlob cNames cMixed extOk hK (by simpa using hb)
      exact law_true hM funcsOk (hookK_sound (callN_sound hM funcsOk 100) fun B w0 w h hb => known_later h hb) tabOk_of (fun E => run_big s E) ⟨rfl, hl, hng⟩ hl hng (hx w)
    · have hM : MachOk (Ts false s) := machStr_ok cGlob cNames cMixed extOk hK (by simpa using hb)
      exact law_true hM funcsOk (hookK_sound (callN_sound hM funcsOk 100) fun B w0 w h hb => known_later h hb) tabOk_of (fun E => run_other s E) ⟨rfl, hl, hng⟩ hl hng (hx w)


end
end Go.Proofs.YtnemnoccljalmaaGreatDoor

namespace Go.Proofs.YtnemnoccljalmaaGreatDoor
open Go Go.AVM Go.ChangeShapes Go.WideShapes Go.ChangeAt Go.RowKit

theorem own : ownKnob Tryz.prog.godebug = none := by kernel_rfl

theorem big {W : World} (hl : laidMet Tryz.prog Rows.typesSignaturesRow.laid W) : 15 ≤ W.heap.size := by
  obtain ⟨ps, hv, _, _⟩ := hl
  obtain ⟨g, t, cs, fuel, p, h1, h2, h3, h4, _⟩ := laidVars_mem hv "math/bits.deBruijn64tab" Rows.laid_math_bits_deBruijn64tab (by simp [Rows.typesSignaturesRow])
  obtain rfl := Option.some.inj ((show Tryz.prog.globalNamed "math/bits.deBruijn64tab" = some 14 by kernel_rfl).symm.trans h1)
  simp only [World.var?, h1, Option.bind_some] at h3
  split at h3
  · rename_i hh
    exact (Array.getElem?_eq_some_iff.1 hh).1
  · cases h3

set_option maxRecDepth 100000 in
theorem lifted (os : Os) (started : os.Started) (H : Type) (enc : TypeId × Value → H) :
    ReturnsInHanded {} Tryz.checked os 3 .any (fun w args => (Rows.typesSignaturesSpec.pre enc Tryz.prog Tryz.f3 [] false w args ∧ laidMetH Tryz.prog Rows.typesSignaturesRow.laid w) ∧ sizedMet enc Tryz.prog Tryz.f3 (OpenSpec.ofChange Rows.typesSignaturesSpec) false w args)
      (Rows.typesSignaturesSpec.post enc Tryz.prog Tryz.f3 false true false false) := by
  refine returnsInHanded_of_change_and (C := Tryz.checked) (X := fun w _ => laidMetH Tryz.prog Rows.typesSignaturesRow.laid w) (fun _ _ _ hh h => h.of_heap hh) own started (by kernel_rfl) Tryz.func3
    ?wit ?_
  case wit =>
    exact ChangeSpec.witness_shaped (enc := enc) (C := Tryz.checked) (os := os) (X := fun w _ => laidMetH Tryz.prog Rows.typesSignaturesRow.laid w) false (World.laidAll Tryz.prog os Rows.typesSignaturesRow.laid) #[.string ⟨#[]⟩] 8 (World.laidAll_os _ _ _)
      (World.shaped_of_ZipB (by kernel_rfl) (by kernel_rfl)) (by kernel_rfl) (by kernel_rfl) (by kernel_rfl)
      (by rw [MakeChecks.laidMetH_plain _ _ _ (by kernel_rfl)]; exact laidMet_laidAll _ (by kernel_rfl) (by kernel_rfl))
  intro W base args ds gs before hval0 hW _ _ hL _
  have hval : ∀ (j : Nat) t v, Tryz.f3.params[j]? = some t → args[j]? = some v → Value.okWide Tryz.prog W .any base t v := hval0
  have hW' := hW
  obtain ⟨p, q, hA0, hV, rfl, hfz, hnd⟩ := hW
  have hA : DataW.TrodAll enc Tryz.prog W 0 (fun _ => true) true Tryz.f3.params.toList args.toList ds p := hA0
  rw [Tryz.params3] at hA hval
  obtain ⟨v0, vs0, d0, ds0, p0, q0, hargs, rfl, rfl, h0, r0⟩ := trodAll_cons hA
  obtain ⟨rfl, rfl, rfl⟩ := trodAll_nil r0
  obtain rfl : args = #[v0] := by cases args; simp_all
  obtain ⟨rfl, rfl⟩ := trodVars_none hV
  obtain ⟨a0, rfl, rfl, rfl, w0⟩ := ChangeMaps.open_string Tryz.underlying9 (hval 0 9 v0 rfl rfl) h0
  clear hA0 hval0
  simp only [List.append_nil] at hW'
  have hl : laidMet Tryz.prog Rows.typesSignaturesRow.laid W := by
    rw [MakeChecks.laidMetH_plain _ _ _ (by kernel_rfl)] at hL
    exact hL
  refine (walk w0 hl (big hl)).mono fun e W' ⟨he, hb⟩ => ?_
  subst he
  exact ⟨_, rfl, _, _, _, [], _, [], hW', trodAll_cons_mk (shut_bool Tryz.underlying4 _) trodAll_mk0, (trodAll_cons_mk (ChangeMaps.shut_string Tryz.underlying9 w0) trodAll_mk0), rfl, hb.frame _, fun h => by cases h⟩

theorem row_holds : Rows.TypesSignaturesSaid :=
  OpenClaim.holds_of_wide 3 Tryz.f3 rfl rfl rfl rfl rfl rfl rfl ⟨rfl, rfl, rfl, rfl, rfl⟩ rfl rfl rfl rfl rfl (by kernel_rfl) Tryz.func3 (by kernel_rfl)
    (of_decide_eq_true (by kernel_rfl)) (by unfold Func.isWrapper; first | (rw [if_pos (by decide +kernel)]; kernel_rfl) | (rw [if_neg (by decide +kernel)]; exact ⟨rfl, rfl⟩))
    (fun os started H enc _ => lifted os started H enc)

theorem card_holds : Rows.TypesSignaturesCardSaid :=
  Claim7.holds_tied_plain_at .later [] [.data, .data, .widerDeep, .widerDeep, .data, .data, .data, .data, .data, .sentinel, .sentinel, .pinned, .pinned] true (true, "0ba4bb706a0d8cb57fef1ba433a01822bb2bc3605537e71e8c519ab875b1a4e9") true
    row_holds (fun _ h => by cases h) (by kernel_rfl) (fun _ h => by cases h) typesSignatures_row_tie rfl ⟨rfl, rfl⟩ (by kernel_rfl) rfl
    (fun f fn hf hfn => by
      obtain rfl : f = 3 := Option.some.inj ((show Tryz.prog.funcNamed "isobar/isobarlaw19.TypesSignatures" = some 3 by kernel_rfl).symm.trans hf) |>.symm
      obtain rfl : fn = Tryz.f3 := (Option.some.inj (Tryz.func3.symm.trans hfn)).symm
      exact ⟨by kernel_rfl, fun j t ht => by
        rw [Tryz.params3] at ht
        have h3 : t = 9 := by
          rcases j with _ | j
          · exact by simpa using ht.symm
          · simp at ht
        rcases h3 with rfl
        exact (show Tryz.prog.wantsStandIn 9 = false by kernel_rfl)⟩)
    (by kernel_rfl)
end Go.Proofs.YtnemnoccljalmaaGreatDoor
