/- FvalPairs is true for every argument and leaves them as they are; the package-level variables that it reads start as the text lays them (the card ties them). -/
import Derived.ProofKit
import Derived.LaidMore
import Derived.OpenShut
import Derived.Stop.Joined
import Derived.Lay
import Derived.SevenTiedAt
import Derived.Test.YtkdemeekbjdlnaaGreatDoorFps
import Derived.Test.YtkdemeekbjdlnaaGreatDoorAvc
import Derived.Test.YtkdemeekbjdlnaaGreatDoorTie
import Derived.Test.YtkdemeekbjdlnaaGreatDoorCards
set_option autoImplicit false
set_option linter.unusedVariables false
set_option linter.unusedSimpArgs false

namespace Go.Proofs.YtkdemeekbjdlnaaGreatDoor
open Go Go.AVM Go.RowKit

/-- What the symbols stand for. -/
def sl (x y n m : Int) : Nat → Value
  | 0 => .int .u64 x
  | 1 => .int .u64 y
  | 2 => .float .f64 x.toNat
  | 3 => .float .f64 y.toNat
  | 10 => .int .i64 n
  | 12 => .int .i64 m
  | 4 => .float .f64 (opF n x.toNat y.toNat).1
  | 11 => .bool (opF n x.toNat y.toNat).2
  | 13 => .float .f64 (fnF m x.toNat y.toNat).1
  | 14 => .bool (fnF m x.toNat y.toNat).2
  | 15 => .bool (holdsF n x.toNat y.toNat)
  | 16 => .bool (beforeF x.toNat y.toNat)
  | 20 => .int .u64 (opF n x.toNat y.toNat).1
  | 21 => .int .u64 (fnF m x.toNat y.toNat).1
  | 22 => .int .u64 x.toNat
  | 23 => .int .u64 y.toNat
  | 24 => .bool ((x.toNat : Int) == 9218868437227405314)
  | 25 => .bool ((x.toNat : Int) == (y.toNat : Int))
  | 26 => .bool ((9221120237041090561 : Int) == (y.toNat : Int))
  | 27 => .bool ((x.toNat : Int) == (9221120237041090561 : Int))
  | _ => undef

section
variable {x y n m : Int}

theorem l_from (i j : Nat) (h : (i = 0 ∧ j = 2) ∨ (i = 1 ∧ j = 3)) : FactOk Tryz.prog (sl x y n m) ⟨kVal, [.fn (.func 5) [] [], S i], S j⟩ := by
  rcases h with ⟨rfl, rfl⟩ | ⟨rfl, rfl⟩
  · exact fact_call (x := .int .u64 x) (z := .float .f64 x.toNat) (means_sym rfl) (fun w => ext_run extOk (f := 5) rfl rfl w) (vr_sym rfl rfl)
  · exact fact_call (x := .int .u64 y) (z := .float .f64 y.toNat) (means_sym rfl) (fun w => ext_run extOk (f := 5) rfl rfl w) (vr_sym rfl rfl)

theorem l_bits (i j v : Nat) (hi : sl x y n m i = .float .f64 v) (hj : sl x y n m j = .int .u64 v) : FactOk Tryz.prog (sl x y n m) ⟨kVal, [.fn (.func 20) [] [], S i], S j⟩ :=
  fact_call (x := .float .f64 v) (z := .int .u64 v) (means_sym hi) (fun w => ext_run extOk (f := 20) rfl rfl w) (vr_sym hj rfl)

theorem l_neq (i v : Nat) (hi : sl x y n m i = .float .f64 v) {r : Bool} (hr : (ord v v != some .eq) = r) : FactOk Tryz.prog (sl x y n m) ⟨kBin .neq, [S i, S i], .val (.bool r)⟩ :=
  fact_cmp (means_sym hi) (means_sym hi) (by rw [← hr]; rfl)

theorem l_eql (i : Nat) (v : Int) (hi : sl x y n m i = .int .u64 v) : FactOk Tryz.prog (sl x y n m) ⟨kBin .eql, [S i, S i], tt⟩ :=
  fact_icmp (means_sym hi) (means_sym hi) (by simp [icmpB])

theorem l_bool (i : Nat) (v : Bool) (hi : sl x y n m i = .bool v) : FactOk Tryz.prog (sl x y n m) ⟨kBinT .neq 4, [S i, S i], ff⟩ ∧ FactOk Tryz.prog (sl x y n m) ⟨kBinT .eql 4, [S i, S i], tt⟩ := by
  constructor
  · exact fact_boolT (a := v) (fun ox oy => by cases v <;> kernel_rfl) (means_sym hi)
  · exact fact_boolT (a := v) (fun ox oy => by cases v <;> kernel_rfl) (means_sym hi)

theorem l_cmp : FactOk Tryz.prog (sl x y n m) ⟨kBin .eql, [S 22, .val (.int .u64 9218868437227405314)], S 24⟩ ∧ FactOk Tryz.prog (sl x y n m) ⟨kBin .eql, [S 22, S 23], S 25⟩ ∧
    FactOk Tryz.prog (sl x y n m) ⟨kBin .eql, [.val (.int .u64 9221120237041090561), S 23], S 26⟩ ∧ FactOk Tryz.prog (sl x y n m) ⟨kBin .eql, [S 22, .val (.int .u64 9221120237041090561)], S 27⟩ :=
  ⟨fact_pure (means_sym rfl) means_val (fun t ox oy => rfl) (vr_sym rfl rfl), fact_pure (means_sym rfl) (means_sym rfl) (fun t ox oy => rfl) (vr_sym rfl rfl),
    fact_pure means_val (means_sym rfl) (fun t ox oy => rfl) (vr_sym rfl rfl), fact_pure (means_sym rfl) means_val (fun t ox oy => rfl) (vr_sym rfl rfl)⟩

def vb (b : Bool) : AV := .val (.bool b)
def badI : AV := .val (.int .u64 9221120237041090561)
def lf (rA rB rO rF : Bool) : List Fact :=
  [⟨kVal, [.fn (.func 5) [] [], S 0], S 2⟩, ⟨kVal, [.fn (.func 5) [] [], S 1], S 3⟩, ⟨kBin .neq, [S 2, S 2], vb rA⟩, ⟨kBin .neq, [S 3, S 3], vb rB⟩, ⟨kBin .neq, [S 4, S 4], vb rO⟩, ⟨kBin .neq, [S 13, S 13], vb rF⟩,
    ⟨kVal, [.fn (.func 20) [] [], S 4], S 20⟩, ⟨kVal, [.fn (.func 20) [] [], S 13], S 21⟩, ⟨kVal, [.fn (.func 20) [] [], S 2], S 22⟩, ⟨kVal, [.fn (.func 20) [] [], S 3], S 23⟩,
    ⟨kBin .eql, [S 20, S 20], tt⟩, ⟨kBin .eql, [S 21, S 21], tt⟩, ⟨kBin .eql, [S 22, S 22], tt⟩,
    ⟨kBinT .neq 4, [S 11, S 11], ff⟩, ⟨kBinT .neq 4, [S 14, S 14], ff⟩, ⟨kBinT .neq 4, [S 15, S 15], ff⟩, ⟨kBinT .eql 4, [S 16, S 16], tt⟩, ⟨kBinT .eql 4, [S 24, S 24], tt⟩, ⟨kBinT .eql 4, [S 25, S 25], tt⟩, ⟨kBinT .eql 4, [S 26, S 26], tt⟩, ⟨kBinT .eql 4, [S 27, S 27], tt⟩,
    ⟨kBin .eql, [S 22, .val (.int .u64 9218868437227405314)], S 24⟩, ⟨kBin .eql, [S 22, S 23], S 25⟩, ⟨kBin .eql, [badI, S 23], S 26⟩, ⟨kBin .eql, [S 22, badI], S 27⟩] ++
  (if rO = true then [⟨kBin .eql, [S 20, badI], tt⟩] else []) ++ (if rF = true then [⟨kBin .eql, [S 21, badI], tt⟩] else [])

def hks : List Hook := [⟨6, [S 10, S 2, S 3], .tup [S 4, S 11]⟩, ⟨7, [S 10, S 2, S 3], .tup [S 4, S 11]⟩, ⟨8, [S 12, S 2, S 3], .tup [S 13, S 14]⟩, ⟨9, [S 12, S 2, S 3], .tup [S 13, S 14]⟩,
  ⟨11, [S 10, S 2, S 3], S 15⟩, ⟨12, [S 10, S 2, S 3], S 15⟩, ⟨18, [S 2, S 3], S 16⟩, ⟨19, [S 2, S 3], S 16⟩]

noncomputable abbrev ML (σ : Nat → Value) (fs : List Fact) : Mach := machOf Tryz.prog 14 1000000 kind (laidSt Tryz.prog Rows.fvalPairsRow.laid 14) σ fs

theorem law_run (σ : Nat → Value) (E : Nat → TypeId) (rA rB rO rF : Bool) :
    okM (enterK (ML σ (lf rA rB rO rF)) sk (hookT hks (hookK 4 (callN (ML σ (lf rA rB rO rF)) sk 100))) 3 [S 0, S 1, S 10, S 12] (AVM.start Tryz.prog (tabOf Tryz.prog Rows.fvalPairsRow.laid) E 14) isTrue) = true := by
  cases rA <;> cases rB <;> cases rO <;> cases rF <;> kernel_rfl

end
end Go.Proofs.YtkdemeekbjdlnaaGreatDoor

namespace Go.Proofs.YtkdemeekbjdlnaaGreatDoor
open Go Go.AVM Go.RowKit

/-- One NaN alone. -/
def canonical (v : Nat) : Prop := isN v = true → v = bad

theorem canonical_cn (o : Option Nat) : canonical (cn o) := by
  intro h
  cases o with
  | none => rfl
  | some r =>
    rcases isN_cases r with ⟨_, h2⟩ | ⟨h1, h2⟩
    · exact cn_bad h2
    · rw [cn_same h2, h1] at h; cases h

theorem isN_num {v : Nat} (h : isN v = false) : canonical v := fun h1 => by rw [h] at h1; cases h1

theorem one_num : isN one = false := by decide +kernel
theorem mone_num : isN mone = false := by decide +kernel
theorem zero_num : isN 0 = false := by decide +kernel

theorem op_canon (n : Int) (x y : Nat) : canonical (opF n x y).1 := by
  unfold opF
  repeat' split
  all_goals first
    | exact canonical_cn _
    | exact isN_num one_num
    | exact isN_num zero_num
    | (simp only; split <;> first | exact isN_num one_num | exact isN_num zero_num)

theorem fn_canon (n : Int) (x y : Nat) : canonical (fnF n x y).1 := by
  have bad_bad : canonical bad := fun _ => rfl
  unfold fnF
  split
  · exact canonical_cn (some (absF x))
  split
  · exact canonical_cn (some (negF x))
  split
  · show canonical (sgnF x)
    unfold sgnF
    split
    · exact isN_num one_num
    · split
      · exact isN_num mone_num
      · exact canonical_cn _
  split
  · show canonical (minF x y)
    unfold minF
    by_cases h1 : isN x = true
    · rw [if_pos h1]; exact bad_bad
    · rw [if_neg h1]
      by_cases h2 : isN y = true
      · rw [if_pos h2]; exact bad_bad
      · rw [if_neg h2]; split
        · exact isN_num (by simpa using h2)
        · exact isN_num (by simpa using h1)
  split
  · show canonical (maxF x y)
    unfold maxF
    by_cases h1 : isN x = true
    · rw [if_pos h1]; exact bad_bad
    · rw [if_neg h1]
      by_cases h2 : isN y = true
      · rw [if_pos h2]; exact bad_bad
      · rw [if_neg h2]; split
        · exact isN_num (by simpa using h2)
        · exact isN_num (by simpa using h1)
  · exact isN_num zero_num

end Go.Proofs.YtkdemeekbjdlnaaGreatDoor

namespace Go.Proofs.YtkdemeekbjdlnaaGreatDoor
open Go Go.AVM Go.RowKit

theorem isN_ne (v : Nat) : (ord v v != some .eq) = isN v := by
  rcases isN_cases v with ⟨h1, h2⟩ | ⟨h1, h2⟩ <;> rw [h1, h2] <;> rfl

theorem lf_ok (x y n m : Int) : ∀ f, f ∈ lf (isN x.toNat) (isN y.toNat) (isN (opF n x.toNat y.toNat).1) (isN (fnF m x.toNat y.toNat).1) → FactOk Tryz.prog (sl x y n m) f := by
  intro f hf
  unfold lf at hf
  rw [List.mem_append, List.mem_append] at hf
  rcases hf with (hf | hf) | hf
  · simp only [List.mem_cons, List.not_mem_nil, or_false] at hf
    rcases hf with rfl | rfl | rfl | rfl | rfl | rfl | rfl | rfl | rfl | rfl | rfl | rfl | rfl | rfl | rfl | rfl | rfl | rfl | rfl | rfl | rfl | rfl | rfl | rfl | rfl
    · exact l_from 0 2 (by simp)
    · exact l_from 1 3 (by simp)
    · exact l_neq 2 _ rfl (isN_ne _)
    · exact l_neq 3 _ rfl (isN_ne _)
    · exact l_neq 4 _ rfl (isN_ne _)
    · exact l_neq 13 _ rfl (isN_ne _)
    · exact l_bits 4 20 _ rfl rfl
    · exact l_bits 13 21 _ rfl rfl
    · exact l_bits 2 22 _ rfl rfl
    · exact l_bits 3 23 _ rfl rfl
    · exact l_eql 20 _ rfl
    · exact l_eql 21 _ rfl
    · exact l_eql 22 _ rfl
    · exact (l_bool 11 _ rfl).1
    · exact (l_bool 14 _ rfl).1
    · exact (l_bool 15 _ rfl).1
    · exact (l_bool 16 _ rfl).2
    · exact (l_bool 24 _ rfl).2
    · exact (l_bool 25 _ rfl).2
    · exact (l_bool 26 _ rfl).2
    · exact (l_bool 27 _ rfl).2
    · exact l_cmp.1
    · exact l_cmp.2.1
    · exact l_cmp.2.2.1
    · exact l_cmp.2.2.2
  · split at hf
    · rename_i h
      simp only [List.mem_cons, List.not_mem_nil, or_false] at hf
      subst hf
      have := op_canon n x.toNat y.toNat h
      exact fact_icmp (m := (opF n x.toNat y.toNat).1) (means_sym rfl) means_val (by rw [this]; rfl)
    · cases hf
  · split at hf
    · rename_i h
      simp only [List.mem_cons, List.not_mem_nil, or_false] at hf
      subst hf
      have := fn_canon m x.toNat y.toNat h
      exact fact_icmp (m := (fnF m x.toNat y.toNat).1) (means_sym rfl) means_val (by rw [this]; rfl)
    · cases hf

end Go.Proofs.YtkdemeekbjdlnaaGreatDoor

namespace Go.Proofs.YtkdemeekbjdlnaaGreatDoor
open Go Go.AVM Go.RowKit

theorem hks_ok {x y n m : Int} (hx : x.toNat < 18446744073709551616) (hy : y.toNat < 18446744073709551616) (fs : List Fact) : ∀ h, h ∈ hks → HookOk (ML (sl x y n m) fs) h := by
  intro h hh
  simp only [hks, List.mem_cons, List.not_mem_nil, or_false] at hh
  have hres : ∀ (v : AV), symsOk (sl x y n m) [v] → ∀ (G : Ctx) (w : World), G.σ = sl x y n m → VR G w v (den (sl x y n m) v) := fun v hv G w hσ => by
    have := symsOk_VRL (G := G) (w := w) [v] (by rw [hσ]; exact hv)
    simp only [VRL, denL] at this
    obtain ⟨_, _, h1, h2, _⟩ := this
    simp only [List.cons.injEq] at h1
    rw [← hσ, h1.1]
    exact h2
  have htup : ∀ (i j : Nat), symsOk (sl x y n m) [S i, S j] → ∀ (G : Ctx) (w : World), G.σ = sl x y n m → VR G w (.tup [S i, S j]) (den (sl x y n m) (.tup [S i, S j])) := fun i j hv G w hσ => by
    have := symsOk_VRL (G := G) (w := w) [S i, S j] (by rw [hσ]; exact hv)
    simp only [VR, den]
    exact ⟨_, rfl, by rw [List.toList_toArray, ← hσ]; exact this⟩
  rcases hh with rfl | rfl | rfl | rfl | rfl | rfl | rfl | rfl
  · exact hook_of Tryz.func6 (by kernel_rfl) rfl rfl (htup 4 11 ⟨rfl, rfl, trivial⟩) fun w hw => op_is (.inl rfl) n _ _ hw
  · exact hook_of Tryz.func7 (by kernel_rfl) rfl rfl (htup 4 11 ⟨rfl, rfl, trivial⟩) fun w hw => op_is (.inr rfl) n _ _ hw
  · exact hook_of Tryz.func8 (by kernel_rfl) rfl rfl (htup 13 14 ⟨rfl, rfl, trivial⟩) fun w hw => fn_is (.inl rfl) m hx _ hw
  · exact hook_of Tryz.func9 (by kernel_rfl) rfl rfl (htup 13 14 ⟨rfl, rfl, trivial⟩) fun w hw => fn_is (.inr rfl) m hx _ hw
  · exact hook_of Tryz.func11 (by kernel_rfl) rfl rfl (hres (S 15) ⟨rfl, trivial⟩) fun w hw => holds_is (.inl rfl) n _ _ hw
  · exact hook_of Tryz.func12 (by kernel_rfl) rfl rfl (hres (S 15) ⟨rfl, trivial⟩) fun w hw => holds_is (.inr rfl) n _ _ hw
  · exact hook_of Tryz.func18 (by kernel_rfl) rfl rfl (hres (S 16) ⟨rfl, trivial⟩) fun w hw => before_is (.inl rfl) hx hy hw
  · exact hook_of Tryz.func19 (by kernel_rfl) rfl rfl (hres (S 16) ⟨rfl, trivial⟩) fun w hw => before_is (.inr rfl) hx hy hw

end Go.Proofs.YtkdemeekbjdlnaaGreatDoor

namespace Go.Proofs.YtkdemeekbjdlnaaGreatDoor
open Go Go.AVM Go.RowKit

theorem known_later {B : Nat} {w0 w : World} (h : laidSt Tryz.prog Rows.fvalPairsRow.laid 14 B w0) (hb : Below B w0 w) :
    (callFunc 4 #[]).run Tryz.prog w = .ok (.enter 4 #[]) w ∧ Calls Tryz.prog 4 #[] w fun e w' => e = .returned (.bool true) ∧ Below w.heap.size w w' :=
  closed_later (T := M0 (fun _ => undef) []) (m0Ok fun _ h => by cases h) funcsOk (n := 100) tabOk_of (fun _ _ => trivial) (fun E => by kernel_rfl) h hb

theorem walk {x y n m : Int} (hx : x.toNat < 18446744073709551616) (hy : y.toNat < 18446744073709551616) {w : World} (hl : laidMet Tryz.prog Rows.fvalPairsRow.laid w) (hng : 14 ≤ w.heap.size) :
    Calls Tryz.prog 3 #[.int .u64 x, .int .u64 y, .int .i64 n, .int .i64 m] w fun e w' => e = .returned (.bool true) ∧ Below w.heap.size w w' := by
  have hM := machOf_ok (fuel := 1000000) (st := laidSt Tryz.prog Rows.fvalPairsRow.laid 14) cGlob cNames cMixed extOk (lf_ok x y n m)
  exact law_true hM funcsOk (hookT_sound (hookK_sound (callN_sound hM funcsOk 100) fun B w0 w h hb => known_later h hb) hks (hks_ok hx hy _)) tabOk_of (fun E => law_run _ E _ _ _ _) ⟨rfl, hl, hng⟩ hl hng
    (symsOk_VRL (G := G0 (sl x y n m) w 14) [S 0, S 1, S 10, S 12] ⟨rfl, rfl, rfl, rfl, trivial⟩)

end Go.Proofs.YtkdemeekbjdlnaaGreatDoor

namespace Go.Proofs.YtkdemeekbjdlnaaGreatDoor
open Go Go.AVM Go.ChangeShapes Go.WideShapes Go.ChangeAt Go.RowKit

theorem own : ownKnob Tryz.prog.godebug = none := by kernel_rfl

theorem u64_lt {a : Int} (h : (Lit.int .u64 a).wf = true) : a.toNat < 18446744073709551616 := by
  simp [Lit.wf, IntKind.min, IntKind.max, IntKind.signed, IntKind.bits] at h
  omega

theorem big {W : World} (hl : laidMet Tryz.prog Rows.fvalPairsRow.laid W) : 14 ≤ W.heap.size := by
  obtain ⟨ps, hv, _, _⟩ := hl
  obtain ⟨g, t, cs, fuel, p, h1, h2, h3, _⟩ := laidVars_mem hv "math/bits.deBruijn64tab" Rows.laid_math_bits_deBruijn64tab (by simp [Rows.fvalPairsRow])
  obtain rfl := Option.some.inj ((show Tryz.prog.globalNamed "math/bits.deBruijn64tab" = some 13 by kernel_rfl).symm.trans h1)
  simp only [World.var?, h1, Option.bind_some] at h3
  split at h3
  · rename_i hh
    exact (Array.getElem?_eq_some_iff.1 hh).1
  · cases h3

set_option maxRecDepth 100000 in
theorem lifted (os : Os) (started : os.Started) (H : Type) (enc : TypeId × Value → H) :
    ReturnsInHanded {} Tryz.checked os 3 .any (fun w args => (Rows.fvalPairsSpec.pre enc Tryz.prog Tryz.f3 [] false w args ∧ laidMetH Tryz.prog Rows.fvalPairsRow.laid w) ∧ sizedMet enc Tryz.prog Tryz.f3 (OpenSpec.ofChange Rows.fvalPairsSpec) false w args)
      (Rows.fvalPairsSpec.post enc Tryz.prog Tryz.f3 false true false false) := by
  refine returnsInHanded_of_change_and (C := Tryz.checked) (X := fun w _ => laidMetH Tryz.prog Rows.fvalPairsRow.laid w) (fun _ _ _ hh h => h.of_heap hh) own started (by kernel_rfl) Tryz.func3
    ?wit ?_
  case wit =>
    exact ChangeSpec.witness_shaped (enc := enc) (C := Tryz.checked) (os := os) (X := fun w _ => laidMetH Tryz.prog Rows.fvalPairsRow.laid w) false (World.laidAll Tryz.prog os Rows.fvalPairsRow.laid) #[.int .u64 0, .int .u64 0, .int .i64 0, .int .i64 0] 8 (World.laidAll_os _ _ _)
      (World.shaped_of_ZipB (by kernel_rfl) (by kernel_rfl)) (by kernel_rfl) (by kernel_rfl) (by kernel_rfl)
      (by rw [MakeChecks.laidMetH_plain _ _ _ (by kernel_rfl)]; exact laidMet_laidAll _ (by kernel_rfl) (by kernel_rfl))
  intro W base args ds gs before hval0 hW _ _ hL _
  have hval : ∀ (j : Nat) t v, Tryz.f3.params[j]? = some t → args[j]? = some v → Value.okWide Tryz.prog W .any base t v := hval0
  have hW' := hW
  obtain ⟨p, q, hA0, hV, rfl, hfz, hnd⟩ := hW
  have hA : DataW.TrodAll enc Tryz.prog W 0 (fun _ => true) true Tryz.f3.params.toList args.toList ds p := hA0
  rw [Tryz.params3] at hA hval
  obtain ⟨v0, vs0, d0, ds0, p0, q0, hargs, rfl, rfl, h0, r0⟩ := trodAll_cons hA
  obtain ⟨v1, vs1, d1, ds1, p1, q1, rfl, rfl, rfl, h1, r1⟩ := trodAll_cons r0
  obtain ⟨v2, vs2, d2, ds2, p2, q2, rfl, rfl, rfl, h2, r2⟩ := trodAll_cons r1
  obtain ⟨v3, vs3, d3, ds3, p3, q3, rfl, rfl, rfl, h3, r3⟩ := trodAll_cons r2
  obtain ⟨rfl, rfl, rfl⟩ := trodAll_nil r3
  obtain rfl : args = #[v0, v1, v2, v3] := by cases args; simp_all
  obtain ⟨rfl, rfl⟩ := trodVars_none hV
  obtain ⟨a0, rfl, rfl, rfl, w0⟩ := open_int Tryz.underlying22 (hval 0 22 v0 rfl rfl) h0
  obtain ⟨a1, rfl, rfl, rfl, w1⟩ := open_int Tryz.underlying22 (hval 1 22 v1 rfl rfl) h1
  obtain ⟨a2, rfl, rfl, rfl, w2⟩ := open_int Tryz.underlying3 (hval 2 3 v2 rfl rfl) h2
  obtain ⟨a3, rfl, rfl, rfl, w3⟩ := open_int Tryz.underlying3 (hval 3 3 v3 rfl rfl) h3
  clear hA0 hval0
  simp only [List.append_nil] at hW'
  have hl : laidMet Tryz.prog Rows.fvalPairsRow.laid W := by
    rw [MakeChecks.laidMetH_plain _ _ _ (by kernel_rfl)] at hL
    exact hL
  refine (walk (x := a0) (y := a1) (n := a2) (m := a3) (u64_lt w0) (u64_lt w1) hl (big hl)).mono fun e W' ⟨he, hb⟩ => ?_
  subst he
  exact ⟨_, rfl, _, _, _, [], _, [], hW', trodAll_cons_mk (shut_bool Tryz.underlying4 _) trodAll_mk0, trodAll_cons_mk (shut_int Tryz.underlying22 w0) (trodAll_cons_mk (shut_int Tryz.underlying22 w1) (trodAll_cons_mk (shut_int Tryz.underlying3 w2) (trodAll_cons_mk (shut_int Tryz.underlying3 w3) trodAll_mk0))), rfl, hb.frame _, fun h => by cases h⟩

end Go.Proofs.YtkdemeekbjdlnaaGreatDoor

namespace Go.Proofs.YtkdemeekbjdlnaaGreatDoor
open Go Go.ChangeShapes Go.WideShapes Go.ChangeAt Go.RowKit

theorem fvalPairs_holds : Rows.FvalPairsSaid :=
  OpenClaim.holds_of_wide 3 Tryz.f3 rfl rfl rfl rfl rfl rfl rfl ⟨rfl, rfl, rfl, rfl, rfl⟩ rfl rfl rfl rfl rfl (by kernel_rfl) Tryz.func3 (by kernel_rfl)
    (of_decide_eq_true (by kernel_rfl)) (by unfold Func.isWrapper; first | (rw [if_pos (by decide +kernel)]; kernel_rfl) | (rw [if_neg (by decide +kernel)]; exact ⟨rfl, rfl⟩))
    (fun os started H enc _ => lifted os started H enc)

theorem card_holds : Rows.FvalPairsCardSaid :=
  Claim7.holds_tied_plain_at .later [] [.data, .data, .widerDeep, .widerDeep, .data, .data, .data, .data, .data, .sentinel, .sentinel, .pinned, .pinned] true (true, "f128fa7b46507626e184c77e95bf9f6a44e64724815dbd114f9a4cd943b6c543") true
    fvalPairs_holds (fun _ h => by cases h) (by kernel_rfl) (fun _ h => by cases h) fvalPairs_row_tie rfl ⟨rfl, rfl⟩ (by kernel_rfl) rfl
    (fun f fn hf hfn => by
      obtain rfl : f = 3 := Option.some.inj ((show Tryz.prog.funcNamed "isobar/isobarlaw1.FvalPairs" = some 3 by kernel_rfl).symm.trans hf) |>.symm
      obtain rfl : fn = Tryz.f3 := (Option.some.inj (Tryz.func3.symm.trans hfn)).symm
      exact ⟨by kernel_rfl, fun j t ht => by
        rw [Tryz.params3] at ht
        have h3 : t = 22 ∨ t = 3 := by
          rcases j with _ | _ | _ | _ | j
          · exact .inl (by simpa using ht.symm)
          · exact .inl (by simpa using ht.symm)
          · exact .inr (by simpa using ht.symm)
          · exact .inr (by simpa using ht.symm)
          · simp at ht
        rcases h3 with rfl | rfl
        · exact (show Tryz.prog.wantsStandIn 22 = false by kernel_rfl)
        · exact (show Tryz.prog.wantsStandIn 3 = false by kernel_rfl)⟩)
    (by kernel_rfl)
end Go.Proofs.YtkdemeekbjdlnaaGreatDoor
