/- What Op, Holds, Before and Fn of fval and of its reference answer, for every two values. -/
import Derived.Test.YtkdemeekbjdlnaaGreatDoorAvc
import Derived.Test.YtkdemeekbjdlnaaGreatDoorRows
set_option autoImplicit false
set_option linter.unusedVariables false
set_option linter.unusedSimpArgs false

namespace Go.Proofs.YtkdemeekbjdlnaaGreatDoor
open Go Go.AVM Go.RowKit

def kind : Nat → Nat
  | 5 => 2
  | 20 => 1
  | 53 => 3
  | 54 => 1
  | 72 => 4
  | 78 => 2
  | _ => 0

theorem extOk : ExtOk Tryz.prog kind := by
  intro f e h
  unfold kind at h
  split at h <;> simp only [extRow, Option.some.injEq] at h <;> first | (cases h; done) | subst h
  · exact ⟨Tryz.f5, Tryz.func5, by kernel_rfl, by kernel_rfl, by kernel_rfl, by kernel_rfl⟩
  · exact ⟨Tryz.f20, Tryz.func20, by kernel_rfl, by kernel_rfl, by kernel_rfl, by kernel_rfl⟩
  · exact ⟨Tryz.f53, Tryz.func53, by kernel_rfl, by kernel_rfl, by kernel_rfl, by kernel_rfl⟩
  · exact ⟨Tryz.f54, Tryz.func54, by kernel_rfl, by kernel_rfl, by kernel_rfl, by kernel_rfl⟩
  · exact ⟨Tryz.f72, Tryz.func72, by kernel_rfl, by kernel_rfl, by kernel_rfl, by kernel_rfl⟩
  · exact ⟨Tryz.f78, Tryz.func78, by kernel_rfl, by kernel_rfl, by kernel_rfl, by kernel_rfl⟩

def sk : FuncId → Bool := fun _ => false
theorem funcsOk : FuncsOk Tryz.prog sk := funcsOk_of (by kernel_rfl)
theorem cGlob : Nat.ble Tryz.prog.globals.size 14 = true := by kernel_rfl
theorem cNames : namesOk Tryz.prog = true := by kernel_rfl
theorem cMixed : Tryz.prog.follows .mixedOrders = true := by kernel_rfl

noncomputable abbrev M0 (σ : Nat → Value) (fs : List Fact) : Mach := machOf Tryz.prog 14 1000000 kind (fun _ _ => True) σ fs

theorem m0Ok {σ : Nat → Value} {fs : List Fact} (h : ∀ f, f ∈ fs → FactOk Tryz.prog σ f) : MachOk (M0 σ fs) := machOf_ok cGlob cNames cMixed extOk h

theorem ask {σ : Nat → Value} {fs : List Fact} (hfs : ∀ f, f ∈ fs → FactOk Tryz.prog σ f) {f : Nat} {args : List AV} {v : AV} (hv : plainA v = true) (hs : symsOk σ args)
    (hrun : okM (enterK (M0 σ fs) sk (callN (M0 σ fs) sk 100) f args (AVM.start Tryz.prog [] (fun _ => 0) 14) (isA v)) = true) {w : World} (hng : 14 ≤ w.heap.size) :
    Calls Tryz.prog f (denL σ args).toArray w fun e w' => e = .returned (den σ v) ∧ Below w.heap.size w w' :=
  call_is (T := M0 σ fs) (m0Ok hfs) funcsOk (callN_sound (m0Ok hfs) funcsOk 100) hv hs hrun trivial hng

abbrev D := FloatKind.format .f64
def bad : Nat := 9221120237041090561
def S (i : Nat) : AV := .sym i
def I (n : Int) : AV := .val (.int .i64 n)
def fl (n : Nat) : AV := .val (.float .f64 n)
def tt : AV := .val (.bool true)
def ff : AV := .val (.bool false)

def cn : Option Nat → Nat
  | some r => if D.order r r = some .eq then r else bad
  | none => bad

def sg (a b r : Nat) : Nat → Value
  | 2 => .float .f64 a
  | 3 => .float .f64 b
  | 4 => .float .f64 r
  | _ => undef

/-- + - * / -/
theorem op_arith {f : Nat} {n : Int} {b : BinOp} (x y : Nat) {w : World} (hng : 14 ≤ w.heap.size) (hb : b = .add ∨ b = .sub ∨ b = .mul ∨ b = .quo)
    (h1 : ∀ σ, okM (enterK (M0 σ [⟨kBin b, [S 2, S 3], S 4⟩, ⟨kBin .neq, [S 4, S 4], ff⟩]) sk (callN (M0 σ [⟨kBin b, [S 2, S 3], S 4⟩, ⟨kBin .neq, [S 4, S 4], ff⟩]) sk 100) f [I n, S 2, S 3] (AVM.start Tryz.prog [] (fun _ => 0) 14) (isA (.tup [S 4, tt]))) = true)
    (h2 : ∀ σ, okM (enterK (M0 σ [⟨kBin b, [S 2, S 3], S 4⟩, ⟨kBin .neq, [S 4, S 4], tt⟩]) sk (callN (M0 σ [⟨kBin b, [S 2, S 3], S 4⟩, ⟨kBin .neq, [S 4, S 4], tt⟩]) sk 100) f [I n, S 2, S 3] (AVM.start Tryz.prog [] (fun _ => 0) 14) (isA (.tup [fl bad, tt]))) = true)
    (h3 : ∀ σ, okM (enterK (M0 σ [⟨kBin b, [S 2, S 3], .nan .f64⟩, ⟨kBin .neq, [.nan .f64, .nan .f64], tt⟩]) sk (callN (M0 σ [⟨kBin b, [S 2, S 3], .nan .f64⟩, ⟨kBin .neq, [.nan .f64, .nan .f64], tt⟩]) sk 100) f [I n, S 2, S 3] (AVM.start Tryz.prog [] (fun _ => 0) 14) (isA (.tup [fl bad, tt]))) = true) :
    Calls Tryz.prog f #[.int .i64 n, .float .f64 x, .float .f64 y] w fun e w' => e = .returned (.tuple #[.float .f64 (cn (floatBits b .f64 x y)), .bool true]) ∧ Below w.heap.size w w' := by
  have hsy : ∀ r, symsOk (sg x y r) [I n, S 2, S 3] := fun r => ⟨trivial, rfl, rfl, trivial⟩
  cases hr : floatBits b .f64 x y with
  | none =>
    refine (ask (σ := sg x y 0) ?_ (by rfl) (hsy 0) (h3 _) hng).mono fun e w' h => ⟨h.1, h.2⟩
    intro g hg
    simp only [List.mem_cons, List.not_mem_nil, or_false] at hg
    rcases hg with rfl | rfl
    · exact fact_nan hb (means_sym rfl) (means_sym rfl) hr
    · exact fact_nan_cmp rfl
  | some r =>
    rcases order_self (f := D) (b := r) with ho | ho
    · have hcn : cn (some r) = bad := by simp [cn, ho]
      rw [hcn]
      refine (ask (σ := sg x y r) ?_ (by rfl) (hsy r) (h2 _) hng).mono fun e w' h => ⟨h.1, h.2⟩
      intro g hg
      simp only [List.mem_cons, List.not_mem_nil, or_false] at hg
      rcases hg with rfl | rfl
      · exact fact_arith (means_sym rfl) (means_sym rfl) hr (vr_sym rfl rfl)
      · exact fact_cmp (means_sym rfl) (means_sym rfl) (by rw [ho]; rfl)
    · have hcn : cn (some r) = r := by simp [cn, ho]
      rw [hcn]
      refine (ask (σ := sg x y r) ?_ (by rfl) (hsy r) (h1 _) hng).mono fun e w' h => ⟨h.1, h.2⟩
      intro g hg
      simp only [List.mem_cons, List.not_mem_nil, or_false] at hg
      rcases hg with rfl | rfl
      · exact fact_arith (means_sym rfl) (means_sym rfl) hr (vr_sym rfl rfl)
      · exact fact_cmp (means_sym rfl) (means_sym rfl) (by rw [ho]; rfl)

theorem op_add {f : Nat} (hf : f = 6 ∨ f = 7) (x y : Nat) {w : World} (hng : 14 ≤ w.heap.size) : Calls Tryz.prog f #[.int .i64 1, .float .f64 x, .float .f64 y] w fun e w' => e = .returned (.tuple #[.float .f64 (cn (floatBits .add .f64 x y)), .bool true]) ∧ Below w.heap.size w w' := by
  rcases hf with rfl | rfl <;> exact op_arith x y hng (by simp) (fun σ => by kernel_rfl) (fun σ => by kernel_rfl) (fun σ => by kernel_rfl)
theorem op_sub {f : Nat} (hf : f = 6 ∨ f = 7) (x y : Nat) {w : World} (hng : 14 ≤ w.heap.size) : Calls Tryz.prog f #[.int .i64 2, .float .f64 x, .float .f64 y] w fun e w' => e = .returned (.tuple #[.float .f64 (cn (floatBits .sub .f64 x y)), .bool true]) ∧ Below w.heap.size w w' := by
  rcases hf with rfl | rfl <;> exact op_arith x y hng (by simp) (fun σ => by kernel_rfl) (fun σ => by kernel_rfl) (fun σ => by kernel_rfl)
theorem op_mul {f : Nat} (hf : f = 6 ∨ f = 7) (x y : Nat) {w : World} (hng : 14 ≤ w.heap.size) : Calls Tryz.prog f #[.int .i64 3, .float .f64 x, .float .f64 y] w fun e w' => e = .returned (.tuple #[.float .f64 (cn (floatBits .mul .f64 x y)), .bool true]) ∧ Below w.heap.size w w' := by
  rcases hf with rfl | rfl <;> exact op_arith x y hng (by simp) (fun σ => by kernel_rfl) (fun σ => by kernel_rfl) (fun σ => by kernel_rfl)
theorem op_quo {f : Nat} (hf : f = 6 ∨ f = 7) (x y : Nat) {w : World} (hng : 14 ≤ w.heap.size) : Calls Tryz.prog f #[.int .i64 4, .float .f64 x, .float .f64 y] w fun e w' => e = .returned (.tuple #[.float .f64 (cn (floatBits .quo .f64 x y)), .bool true]) ∧ Below w.heap.size w w' := by
  rcases hf with rfl | rfl <;> exact op_arith x y hng (by simp) (fun σ => by kernel_rfl) (fun σ => by kernel_rfl) (fun σ => by kernel_rfl)

/-- The comparisons by their numbers. -/
def cmpOf : Int → Option BinOp
  | 5 => some .eql
  | 6 => some .neq
  | 7 => some .gtr
  | 8 => some .lss
  | 9 => some .geq
  | 10 => some .leq
  | _ => none

theorem one_cmp {f : Nat} {n : Int} {b : BinOp} {v : Bool → AV} (hv : ∀ r, plainA (v r) = true) (x y : Nat) {w : World} (hng : 14 ≤ w.heap.size) {r : Bool} (hr : cmpB b (D.order x y) = some r)
    (h1 : ∀ σ, okM (enterK (M0 σ [⟨kBin b, [S 2, S 3], tt⟩]) sk (callN (M0 σ [⟨kBin b, [S 2, S 3], tt⟩]) sk 100) f [I n, S 2, S 3] (AVM.start Tryz.prog [] (fun _ => 0) 14) (isA (v true))) = true)
    (h2 : ∀ σ, okM (enterK (M0 σ [⟨kBin b, [S 2, S 3], ff⟩]) sk (callN (M0 σ [⟨kBin b, [S 2, S 3], ff⟩]) sk 100) f [I n, S 2, S 3] (AVM.start Tryz.prog [] (fun _ => 0) 14) (isA (v false))) = true) :
    Calls Tryz.prog f #[.int .i64 n, .float .f64 x, .float .f64 y] w fun e w' => e = .returned (den (sg x y 0) (v r)) ∧ Below w.heap.size w w' := by
  have hsy : symsOk (sg x y 0) [I n, S 2, S 3] := ⟨trivial, rfl, rfl, trivial⟩
  cases r with
  | true =>
    refine ask (σ := sg x y 0) ?_ (hv true) hsy (h1 _) hng
    intro g hg
    simp only [List.mem_cons, List.not_mem_nil, or_false] at hg
    subst hg
    exact fact_cmp (means_sym rfl) (means_sym rfl) hr
  | false =>
    refine ask (σ := sg x y 0) ?_ (hv false) hsy (h2 _) hng
    intro g hg
    simp only [List.mem_cons, List.not_mem_nil, or_false] at hg
    subst hg
    exact fact_cmp (means_sym rfl) (means_sym rfl) hr

/-- Holds, and Op at a comparison. -/
def one : Nat := 4607182418800017408
theorem holds_at {f : Nat} (hf : f = 11 ∨ f = 12) {n : Int} {b : BinOp} (hn : cmpOf n = some b) (x y : Nat) {w : World} (hng : 14 ≤ w.heap.size) {r : Bool} (hr : cmpB b (D.order x y) = some r) :
    Calls Tryz.prog f #[.int .i64 n, .float .f64 x, .float .f64 y] w fun e w' => e = .returned (.bool r) ∧ Below w.heap.size w w' := by
  unfold cmpOf at hn
  split at hn <;> first | (cases hn; done) | (cases hn; rcases hf with rfl | rfl <;> exact one_cmp (v := fun r => .val (.bool r)) (fun _ => rfl) x y hng hr (fun σ => by kernel_rfl) (fun σ => by kernel_rfl))

theorem op_at {f : Nat} (hf : f = 6 ∨ f = 7) {n : Int} {b : BinOp} (hn : cmpOf n = some b) (x y : Nat) {w : World} (hng : 14 ≤ w.heap.size) {r : Bool} (hr : cmpB b (D.order x y) = some r) :
    Calls Tryz.prog f #[.int .i64 n, .float .f64 x, .float .f64 y] w fun e w' => e = .returned (.tuple #[.float .f64 (if r = true then one else 0), .bool true]) ∧ Below w.heap.size w w' := by
  unfold cmpOf at hn
  split at hn <;> first | (cases hn; done) | (cases hn; rcases hf with rfl | rfl <;> cases r <;> exact one_cmp (v := fun r => .tup [.val (.float .f64 (match r with | true => one | false => 0)), tt]) (fun _ => rfl) x y hng hr (fun σ => by kernel_rfl) (fun σ => by kernel_rfl))

end Go.Proofs.YtkdemeekbjdlnaaGreatDoor

namespace Go.Proofs.YtkdemeekbjdlnaaGreatDoor
open Go Go.AVM Go.RowKit

def sn (n : Int) (a b : Nat) : Nat → Value
  | 2 => .float .f64 a
  | 3 => .float .f64 b
  | 5 => .int .i64 n
  | _ => undef

abbrev eqs (l : List Int) : List Fact := l.map fun k => ⟨kBin .eql, [S 5, I k], ff⟩

theorem eqs_ok {n : Int} {a b : Nat} {l : List Int} (h : ∀ k, k ∈ l → n ≠ k) : ∀ f, f ∈ eqs l → FactOk Tryz.prog (sn n a b) f := by
  intro f hf
  obtain ⟨k, hk, rfl⟩ := List.mem_map.1 hf
  exact fact_icmp (means_sym rfl) means_val (by simp [icmpB, h k hk])

theorem holds_other {f : Nat} (hf : f = 11 ∨ f = 12) {n : Int} (hn : n < 5 ∨ 10 < n) (x y : Nat) {w : World} (hng : 14 ≤ w.heap.size) :
    Calls Tryz.prog f #[.int .i64 n, .float .f64 x, .float .f64 y] w fun e w' => e = .returned (.bool false) ∧ Below w.heap.size w w' := by
  have hsy : symsOk (sn n x y) [S 5, S 2, S 3] := ⟨rfl, rfl, rfl, trivial⟩
  have hfs : ∀ g, g ∈ eqs [5, 6, 7, 8, 9, 10] → FactOk Tryz.prog (sn n x y) g := eqs_ok fun k hk => by
    simp at hk
    omega
  rcases hf with rfl | rfl
  · exact ask (σ := sn n x y) (v := ff) hfs (by rfl) hsy (by kernel_rfl) hng
  · exact ask (σ := sn n x y) (v := ff) hfs (by rfl) hsy (by kernel_rfl) hng

theorem op_other {f : Nat} (hf : f = 6 ∨ f = 7) {n : Int} (hn : n < 1 ∨ 10 < n) (x y : Nat) {w : World} (hng : 14 ≤ w.heap.size) :
    Calls Tryz.prog f #[.int .i64 n, .float .f64 x, .float .f64 y] w fun e w' => e = .returned (.tuple #[.float .f64 0, .bool false]) ∧ Below w.heap.size w w' := by
  have hsy : symsOk (sn n x y) [S 5, S 2, S 3] := ⟨rfl, rfl, rfl, trivial⟩
  have hfs : ∀ g, g ∈ eqs [1, 2, 3, 4] → FactOk Tryz.prog (sn n x y) g := eqs_ok fun k hk => by
    simp at hk
    omega
  rcases hn with hn | hn
  · have hall : ∀ g, g ∈ (⟨kBin .lss, [S 5, I 5], tt⟩ : Fact) :: eqs [1, 2, 3, 4] → FactOk Tryz.prog (sn n x y) g := fun g hg => by
      rcases List.mem_cons.1 hg with rfl | hg
      · exact fact_icmp (means_sym rfl) means_val (by simp [icmpB]; omega)
      · exact hfs g hg
    rcases hf with rfl | rfl
    · exact ask (σ := sn n x y) (v := .tup [fl 0, ff]) hall (by rfl) hsy (by kernel_rfl) hng
    · exact ask (σ := sn n x y) (v := .tup [fl 0, ff]) hall (by rfl) hsy (by kernel_rfl) hng
  · have hall : ∀ g, g ∈ (⟨kBin .lss, [S 5, I 5], ff⟩ : Fact) :: ⟨kBin .gtr, [S 5, I 10], tt⟩ :: eqs [1, 2, 3, 4] → FactOk Tryz.prog (sn n x y) g := fun g hg => by
      rcases List.mem_cons.1 hg with rfl | hg
      · exact fact_icmp (means_sym rfl) means_val (by simp [icmpB]; omega)
      rcases List.mem_cons.1 hg with rfl | hg
      · exact fact_icmp (means_sym rfl) means_val (by simp [icmpB]; omega)
      · exact hfs g hg
    rcases hf with rfl | rfl
    · exact ask (σ := sn n x y) (v := .tup [fl 0, ff]) hall (by rfl) hsy (by kernel_rfl) hng
    · exact ask (σ := sn n x y) (v := .tup [fl 0, ff]) hall (by rfl) hsy (by kernel_rfl) hng

end Go.Proofs.YtkdemeekbjdlnaaGreatDoor

namespace Go.Proofs.YtkdemeekbjdlnaaGreatDoor
open Go Go.AVM Go.RowKit

def ord (a b : Nat) : Option Ordering := D.order a b
def isN (a : Nat) : Bool := ord a a == none

def beforeF (a b : Nat) : Bool :=
  if isN a = true then !isN b else if isN b = true then false else
  if ord a 0 == some .eq && ord b 0 == some .eq then (decide (a = 9223372036854775808) && !decide (b = 9223372036854775808)) else ord a b == some .lt

theorem isN_cases (a : Nat) : (isN a = true ∧ ord a a = none) ∨ (isN a = false ∧ ord a a = some .eq) := by
  rcases order_self (f := D) (b := a) with h | h
  · exact .inl ⟨by simp [isN, ord, h], h⟩
  · exact .inr ⟨by simp [isN, ord, h], h⟩

theorem facts2 {p : Fact → Prop} {a b : Fact} (ha : p a) (hb : p b) : ∀ f, f ∈ [a, b] → p f := fun f hf => by
  simp only [List.mem_cons, List.not_mem_nil, or_false] at hf
  rcases hf with rfl | rfl <;> assumption
theorem facts3 {p : Fact → Prop} {a b c : Fact} (ha : p a) (hb : p b) (hc : p c) : ∀ f, f ∈ [a, b, c] → p f := fun f hf => by
  simp only [List.mem_cons, List.not_mem_nil, or_false] at hf
  rcases hf with rfl | rfl | rfl <;> assumption
theorem facts4 {p : Fact → Prop} {a b c d : Fact} (ha : p a) (hb : p b) (hc : p c) (hd : p d) : ∀ f, f ∈ [a, b, c, d] → p f := fun f hf => by
  simp only [List.mem_cons, List.not_mem_nil, or_false] at hf
  rcases hf with rfl | rfl | rfl | rfl <;> assumption
theorem facts5 {p : Fact → Prop} {a b c d e : Fact} (ha : p a) (hb : p b) (hc : p c) (hd : p d) (he : p e) : ∀ f, f ∈ [a, b, c, d, e] → p f := fun f hf => by
  simp only [List.mem_cons, List.not_mem_nil, or_false] at hf
  rcases hf with rfl | rfl | rfl | rfl | rfl <;> assumption

theorem before_is {f : Nat} (hf : f = 18 ∨ f = 19) {x y : Nat} (hx : x < 18446744073709551616) (hy : y < 18446744073709551616) {w : World} (hng : 14 ≤ w.heap.size) :
    Calls Tryz.prog f #[.float .f64 x, .float .f64 y] w fun e w' => e = .returned (.bool (beforeF x y)) ∧ Below w.heap.size w w' := by
  have hsy : symsOk (sg x y 0) [S 2, S 3] := ⟨rfl, rfl, trivial⟩
  have cmp2 : ∀ {b : BinOp} {r : Bool}, cmpB b (ord x x) = some r → FactOk Tryz.prog (sg x y 0) ⟨kBin b, [S 2, S 2], .val (.bool r)⟩ := fun h => fact_cmp (means_sym rfl) (means_sym rfl) h
  have cmp3 : ∀ {b : BinOp} {r : Bool}, cmpB b (ord y y) = some r → FactOk Tryz.prog (sg x y 0) ⟨kBin b, [S 3, S 3], .val (.bool r)⟩ := fun h => fact_cmp (means_sym rfl) (means_sym rfl) h
  rcases isN_cases x with ⟨a1, a2⟩ | ⟨a1, a2⟩
  · rcases isN_cases y with ⟨b1, b2⟩ | ⟨b1, b2⟩
    · have hr : beforeF x y = false := by simp [beforeF, a1, b1]
      rw [hr]
      have hfs := facts3 (cmp2 (b := .neq) (r := true) (by rw [a2]; rfl)) (cmp3 (b := .neq) (r := true) (by rw [b2]; rfl)) (cmp3 (b := .eql) (r := false) (by rw [b2]; rfl))
      rcases hf with rfl | rfl
      · exact ask (σ := sg x y 0) (v := ff) hfs (by rfl) hsy (by kernel_rfl) hng
      · exact ask (σ := sg x y 0) (v := ff) hfs (by rfl) hsy (by kernel_rfl) hng
    · have hr : beforeF x y = true := by simp [beforeF, a1, b1]
      rw [hr]
      have hfs := facts3 (cmp2 (b := .neq) (r := true) (by rw [a2]; rfl)) (cmp3 (b := .neq) (r := false) (by rw [b2]; rfl)) (cmp3 (b := .eql) (r := true) (by rw [b2]; rfl))
      rcases hf with rfl | rfl
      · exact ask (σ := sg x y 0) (v := tt) hfs (by rfl) hsy (by kernel_rfl) hng
      · exact ask (σ := sg x y 0) (v := tt) hfs (by rfl) hsy (by kernel_rfl) hng
  · rcases isN_cases y with ⟨b1, b2⟩ | ⟨b1, b2⟩
    · have hr : beforeF x y = false := by simp [beforeF, a1, b1]
      rw [hr]
      have hfs := facts3 (cmp2 (b := .neq) (r := false) (by rw [a2]; rfl)) (cmp3 (b := .neq) (r := true) (by rw [b2]; rfl)) (cmp3 (b := .eql) (r := false) (by rw [b2]; rfl))
      rcases hf with rfl | rfl
      · exact ask (σ := sg x y 0) (v := ff) hfs (by rfl) hsy (by kernel_rfl) hng
      · exact ask (σ := sg x y 0) (v := ff) hfs (by rfl) hsy (by kernel_rfl) hng
    · have n2 := cmp2 (b := .neq) (r := false) (by rw [a2]; rfl)
      have n3 := cmp3 (b := .neq) (r := false) (by rw [b2]; rfl)
      by_cases hz : ord x 0 = some .eq ∧ ord y 0 = some .eq
      · rcases zero_bits hx hz.1 with rfl | rfl <;> rcases zero_bits hy hz.2 with rfl | rfl <;> rcases hf with rfl | rfl
        all_goals
          refine (ask (σ := fun _ => undef) (fs := []) (args := [fl _, fl _]) (v := .val (.bool _)) (fun _ h => by cases h) (by rfl) ⟨trivial, trivial, trivial⟩ (by kernel_rfl) hng)
      · have hr : beforeF x y = (ord x y == some .lt) := by
          simp only [beforeF, a1, b1]
          rw [if_neg (by simp), if_neg (by simp), if_neg (by simpa using hz)]
        rw [hr]
        have z2 : ∀ r : Bool, (ord x 0 == some .eq) = r → FactOk Tryz.prog (sg x y 0) ⟨kBin .eql, [S 2, fl 0], .val (.bool r)⟩ := fun r h => fact_cmp (means_sym rfl) means_val (by rw [← h]; rfl)
        have z3 : ∀ r : Bool, (ord y 0 == some .eq) = r → FactOk Tryz.prog (sg x y 0) ⟨kBin .eql, [S 3, fl 0], .val (.bool r)⟩ := fun r h => fact_cmp (means_sym rfl) means_val (by rw [← h]; rfl)
        have l : ∀ r : Bool, (ord x y == some .lt) = r → FactOk Tryz.prog (sg x y 0) ⟨kBin .lss, [S 2, S 3], .val (.bool r)⟩ := fun r h => fact_cmp (means_sym rfl) (means_sym rfl) (by rw [← h]; rfl)
        have hnot : ¬ ((ord x 0 == some .eq) = true ∧ (ord y 0 == some .eq) = true) := by simpa using hz
        generalize hr1 : (ord x 0 == some .eq) = r1 at hnot
        generalize hr2 : (ord y 0 == some .eq) = r2 at hnot
        generalize hr3 : (ord x y == some .lt) = r3
        have hfs := facts5 n2 n3 (z2 r1 hr1) (z3 r2 hr2) (l r3 hr3)
        rcases hf with rfl | rfl <;> cases r1 <;> cases r2 <;> cases r3 <;> first
          | exact absurd ⟨rfl, rfl⟩ hnot
          | exact ask (σ := sg x y 0) (v := tt) hfs (by rfl) hsy (by kernel_rfl) hng
          | exact ask (σ := sg x y 0) (v := ff) hfs (by rfl) hsy (by kernel_rfl) hng

end Go.Proofs.YtkdemeekbjdlnaaGreatDoor

namespace Go.Proofs.YtkdemeekbjdlnaaGreatDoor
open Go Go.AVM Go.RowKit

def absI (v : Nat) : Int := bits .andNot .u64 v 9223372036854775808
def absF (v : Nat) : Nat := (absI v).toNat

def sf (v g : Nat) (i : Int) : Nat → Value
  | 2 => .float .f64 v
  | 3 => .float .f64 g
  | 6 => .int .u64 v
  | 7 => .int .u64 i
  | 8 => .float .f64 i.toNat
  | _ => undef

theorem f_bits {v g : Nat} {i : Int} : FactOk Tryz.prog (sf v g i) ⟨kVal, [.fn (.func 20) [] [], S 2], S 6⟩ :=
  fact_call (x := .float .f64 v) (z := .int .u64 v) (means_sym rfl) (fun w => ext_run extOk (f := 20) rfl rfl w) (vr_sym rfl rfl)
theorem f_back {v g : Nat} {i : Int} : FactOk Tryz.prog (sf v g i) ⟨kVal, [.fn (.func 5) [] [], S 7], S 8⟩ :=
  fact_call (x := .int .u64 i) (z := .float .f64 i.toNat) (means_sym rfl) (fun w => ext_run extOk (f := 5) rfl rfl w) (vr_sym rfl rfl)

theorem fn_abs {f : Nat} (hf : f = 8 ∨ f = 9) (v g : Nat) {w : World} (hng : 14 ≤ w.heap.size) :
    Calls Tryz.prog f #[.int .i64 1, .float .f64 v, .float .f64 g] w fun e w' => e = .returned (.tuple #[.float .f64 (cn (some (absF v))), .bool true]) ∧ Below w.heap.size w w' := by
  have hsy : symsOk (sf v g (absI v)) [I 1, S 2, S 3] := ⟨trivial, rfl, rfl, trivial⟩
  have fa : FactOk Tryz.prog (sf v g (absI v)) ⟨kBin .andNot, [S 6, .val (.int .u64 9223372036854775808)], S 7⟩ := fact_pure (means_sym rfl) means_val (fun t ox oy => rfl) (vr_sym rfl rfl)
  rcases isN_cases (absF v) with ⟨a1, a2⟩ | ⟨a1, a2⟩
  · have hcn : cn (some (absF v)) = bad := by simp [cn, show D.order (absF v) (absF v) = none from a2]
    rw [hcn]
    have fc : FactOk Tryz.prog (sf v g (absI v)) ⟨kBin .neq, [S 8, S 8], tt⟩ := fact_cmp (k := .f64) (m := absF v) (n := absF v) (means_sym rfl) (means_sym rfl) (by rw [show D.order (absF v) (absF v) = none from a2]; rfl)
    have hfs := facts4 f_bits fa f_back fc
    rcases hf with rfl | rfl
    · exact ask (σ := sf v g (absI v)) (v := .tup [fl bad, tt]) hfs (by rfl) hsy (by kernel_rfl) hng
    · exact ask (σ := sf v g (absI v)) (v := .tup [fl bad, tt]) hfs (by rfl) hsy (by kernel_rfl) hng
  · have hcn : cn (some (absF v)) = absF v := by simp [cn, show D.order (absF v) (absF v) = some .eq from a2]
    rw [hcn]
    have fc : FactOk Tryz.prog (sf v g (absI v)) ⟨kBin .neq, [S 8, S 8], ff⟩ := fact_cmp (k := .f64) (m := absF v) (n := absF v) (means_sym rfl) (means_sym rfl) (by rw [show D.order (absF v) (absF v) = some .eq from a2]; rfl)
    have hfs := facts4 f_bits fa f_back fc
    rcases hf with rfl | rfl
    · exact ask (σ := sf v g (absI v)) (v := .tup [S 8, tt]) hfs (by rfl) hsy (by kernel_rfl) hng
    · exact ask (σ := sf v g (absI v)) (v := .tup [S 8, tt]) hfs (by rfl) hsy (by kernel_rfl) hng

end Go.Proofs.YtkdemeekbjdlnaaGreatDoor

namespace Go.Proofs.YtkdemeekbjdlnaaGreatDoor
open Go Go.AVM Go.RowKit

def negI (v : Nat) : Int := bits .xor .u64 v 9223372036854775808
def negF (v : Nat) : Nat := (negI v).toNat

theorem neg_eq {v : Nat} (hv : v < 18446744073709551616) : Op.negFloat .f64 v = negF v := by
  have hs : (2 : Nat) ^ ((FloatKind.format .f64).exponentBits + (FloatKind.format .f64).fractionBits) = 9223372036854775808 := by decide +kernel
  have hlt : v ^^^ 9223372036854775808 < 2 ^ 64 := Nat.xor_lt_two_pow (by omega) (by omega)
  have h1 : (BitVec.ofInt 64 (v : Int)).toNat = v := by simp; omega
  have h2 : (BitVec.ofInt 64 (9223372036854775808 : Int)).toNat = 9223372036854775808 := by decide +kernel
  unfold Op.negFloat
  rw [hs]
  have h3 : negI v = IntKind.wrap .u64 ((BitVec.ofInt 64 (v : Int) ^^^ BitVec.ofInt 64 (9223372036854775808 : Int)).toNat : Int) := rfl
  unfold negF
  rw [h3, BitVec.toNat_xor, h1, h2]
  generalize v ^^^ 9223372036854775808 = z at hlt
  simp [IntKind.wrap, IntKind.signed, IntKind.bits]
  omega

end Go.Proofs.YtkdemeekbjdlnaaGreatDoor

namespace Go.Proofs.YtkdemeekbjdlnaaGreatDoor
open Go Go.AVM Go.RowKit

theorem cn_bad {v : Nat} (h : ord v v = none) : cn (some v) = bad := by simp [cn, show D.order v v = none from h]
theorem cn_same {v : Nat} (h : ord v v = some .eq) : cn (some v) = v := by simp [cn, show D.order v v = some .eq from h]

theorem fn_neg {f : Nat} (hf : f = 8 ∨ f = 9) {v : Nat} (hv : v < 18446744073709551616) (g : Nat) {w : World} (hng : 14 ≤ w.heap.size) :
    Calls Tryz.prog f #[.int .i64 2, .float .f64 v, .float .f64 g] w fun e w' => e = .returned (.tuple #[.float .f64 (cn (some (negF v))), .bool true]) ∧ Below w.heap.size w w' := by
  have hsy : symsOk (sf v g (negI v)) [I 2, S 2, S 3] := ⟨trivial, rfl, rfl, trivial⟩
  have fu : FactOk Tryz.prog (sf v g (negI v)) ⟨kUn .neg, [S 2], S 8⟩ := fact_un (x := .float .f64 v) (z := .float .f64 (negF v)) (means_sym rfl) (by rw [← neg_eq hv]; rfl) (vr_sym rfl rfl)
  have fx : FactOk Tryz.prog (sf v g (negI v)) ⟨kBin .xor, [S 6, .val (.int .u64 9223372036854775808)], S 7⟩ := fact_pure (means_sym rfl) means_val (fun t ox oy => rfl) (vr_sym rfl rfl)
  have fc : ∀ r : Bool, (ord (negF v) (negF v) != some .eq) = r → FactOk Tryz.prog (sf v g (negI v)) ⟨kBin .neq, [S 8, S 8], .val (.bool r)⟩ := fun r h => fact_cmp (k := .f64) (m := negF v) (n := negF v) (means_sym rfl) (means_sym rfl) (by rw [← h]; rfl)
  rcases isN_cases (negF v) with ⟨_, a2⟩ | ⟨_, a2⟩
  · rw [cn_bad a2]
    have hfs := facts5 fu f_bits fx f_back (fc true (by rw [a2]; rfl))
    rcases hf with rfl | rfl
    · exact ask (σ := sf v g (negI v)) (v := .tup [fl bad, tt]) hfs (by rfl) hsy (by kernel_rfl) hng
    · exact ask (σ := sf v g (negI v)) (v := .tup [fl bad, tt]) hfs (by rfl) hsy (by kernel_rfl) hng
  · rw [cn_same a2]
    have hfs := facts5 fu f_bits fx f_back (fc false (by rw [a2]; rfl))
    rcases hf with rfl | rfl
    · exact ask (σ := sf v g (negI v)) (v := .tup [S 8, tt]) hfs (by rfl) hsy (by kernel_rfl) hng
    · exact ask (σ := sf v g (negI v)) (v := .tup [S 8, tt]) hfs (by rfl) hsy (by kernel_rfl) hng

def mone : Nat := 13830554455654793216
def sgnF (v : Nat) : Nat := if (ord v 0 == some .gt) = true then one else if (ord v 0 == some .lt) = true then mone else cn (some v)

theorem fn_sgn {f : Nat} (hf : f = 8 ∨ f = 9) (v g : Nat) {w : World} (hng : 14 ≤ w.heap.size) :
    Calls Tryz.prog f #[.int .i64 3, .float .f64 v, .float .f64 g] w fun e w' => e = .returned (.tuple #[.float .f64 (sgnF v), .bool true]) ∧ Below w.heap.size w w' := by
  have hsy : symsOk (sf v g 0) [I 3, S 2, S 3] := ⟨trivial, rfl, rfl, trivial⟩
  have f1 : ∀ r : Bool, (ord v 0 == some .gt) = r → FactOk Tryz.prog (sf v g 0) ⟨kBin .gtr, [S 2, fl 0], .val (.bool r)⟩ := fun r h => fact_cmp (means_sym rfl) means_val (by rw [← h]; rfl)
  have f2 : ∀ r : Bool, (ord v 0 == some .lt) = r → FactOk Tryz.prog (sf v g 0) ⟨kBin .lss, [S 2, fl 0], .val (.bool r)⟩ := fun r h => fact_cmp (means_sym rfl) means_val (by rw [← h]; rfl)
  have f3 : ∀ r : Bool, (ord v v != some .eq) = r → FactOk Tryz.prog (sf v g 0) ⟨kBin .neq, [S 2, S 2], .val (.bool r)⟩ := fun r h => fact_cmp (means_sym rfl) (means_sym rfl) (by rw [← h]; rfl)
  unfold sgnF
  generalize hr1 : (ord v 0 == some .gt) = r1
  generalize hr2 : (ord v 0 == some .lt) = r2
  rcases isN_cases v with ⟨_, a2⟩ | ⟨_, a2⟩
  · rw [cn_bad a2]
    have hfs := facts3 (f1 r1 hr1) (f2 r2 hr2) (f3 true (by rw [a2]; rfl))
    rcases hf with rfl | rfl <;> cases r1 <;> cases r2 <;> first
      | exact ask (σ := sf v g 0) (v := .tup [fl one, tt]) hfs (by rfl) hsy (by kernel_rfl) hng
      | exact ask (σ := sf v g 0) (v := .tup [fl mone, tt]) hfs (by rfl) hsy (by kernel_rfl) hng
      | exact ask (σ := sf v g 0) (v := .tup [fl bad, tt]) hfs (by rfl) hsy (by kernel_rfl) hng
  · rw [cn_same a2]
    have hfs := facts3 (f1 r1 hr1) (f2 r2 hr2) (f3 false (by rw [a2]; rfl))
    rcases hf with rfl | rfl <;> cases r1 <;> cases r2 <;> first
      | exact ask (σ := sf v g 0) (v := .tup [fl one, tt]) hfs (by rfl) hsy (by kernel_rfl) hng
      | exact ask (σ := sf v g 0) (v := .tup [fl mone, tt]) hfs (by rfl) hsy (by kernel_rfl) hng
      | exact ask (σ := sf v g 0) (v := .tup [S 2, tt]) hfs (by rfl) hsy (by kernel_rfl) hng

end Go.Proofs.YtkdemeekbjdlnaaGreatDoor

namespace Go.Proofs.YtkdemeekbjdlnaaGreatDoor
open Go Go.AVM Go.RowKit

theorem sum_nan {v g : Nat} (h : ord v v = none ∨ ord g g = none) : floatBits .add .f64 v g = none := by
  show D.add v g = none
  unfold Ieee.Format.add
  rcases h with h | h
  · obtain ⟨s, t, hr⟩ := nan_of_order (f := D) h
    rw [hr]; rfl
  · obtain ⟨s, t, hr⟩ := nan_of_order (f := D) h
    rw [hr]
    cases Ieee.Format.read D v <;> rfl

def minF (v g : Nat) : Nat := if isN v = true then bad else if isN g = true then bad else if (ord v g == some .lt) = true then g else v
def maxF (v g : Nat) : Nat := if isN v = true then bad else if isN g = true then bad else if (ord v g == some .gt) = true then g else v

theorem facts6 {p : Fact → Prop} {a b c d e x : Fact} (ha : p a) (hb : p b) (hc : p c) (hd : p d) (he : p e) (hx : p x) : ∀ f, f ∈ [a, b, c, d, e, x] → p f := fun f hf => by
  simp only [List.mem_cons, List.not_mem_nil, or_false] at hf
  rcases hf with rfl | rfl | rfl | rfl | rfl | rfl <;> assumption

theorem fn_mm {f : Nat} (hf : f = 8 ∨ f = 9) (v g : Nat) {w : World} (hng : 14 ≤ w.heap.size) :
    (Calls Tryz.prog f #[.int .i64 4, .float .f64 v, .float .f64 g] w fun e w' => e = .returned (.tuple #[.float .f64 (minF v g), .bool true]) ∧ Below w.heap.size w w') ∧
    (Calls Tryz.prog f #[.int .i64 5, .float .f64 v, .float .f64 g] w fun e w' => e = .returned (.tuple #[.float .f64 (maxF v g), .bool true]) ∧ Below w.heap.size w w') := by
  have hsy4 : symsOk (sf v g 0) [I 4, S 2, S 3] := ⟨trivial, rfl, rfl, trivial⟩
  have hsy5 : symsOk (sf v g 0) [I 5, S 2, S 3] := ⟨trivial, rfl, rfl, trivial⟩
  have f2 : ∀ r : Bool, (ord v v != some .eq) = r → FactOk Tryz.prog (sf v g 0) ⟨kBin .neq, [S 2, S 2], .val (.bool r)⟩ := fun r h => fact_cmp (means_sym rfl) (means_sym rfl) (by rw [← h]; rfl)
  have f3 : ∀ r : Bool, (ord g g != some .eq) = r → FactOk Tryz.prog (sf v g 0) ⟨kBin .neq, [S 3, S 3], .val (.bool r)⟩ := fun r h => fact_cmp (means_sym rfl) (means_sym rfl) (by rw [← h]; rfl)
  have fa : floatBits .add .f64 v g = none → FactOk Tryz.prog (sf v g 0) ⟨kBin .add, [S 2, S 3], .nan .f64⟩ := fun h => fact_nan (by simp) (means_sym rfl) (means_sym rfl) h
  have fn : FactOk Tryz.prog (sf v g 0) ⟨kBin .neq, [.nan .f64, .nan .f64], tt⟩ := fact_nan_cmp rfl
  have fl' : ∀ r : Bool, (ord v g == some .lt) = r → FactOk Tryz.prog (sf v g 0) ⟨kBin .lss, [S 2, S 3], .val (.bool r)⟩ := fun r h => fact_cmp (means_sym rfl) (means_sym rfl) (by rw [← h]; rfl)
  have fg' : ∀ r : Bool, (ord v g == some .gt) = r → FactOk Tryz.prog (sf v g 0) ⟨kBin .gtr, [S 2, S 3], .val (.bool r)⟩ := fun r h => fact_cmp (means_sym rfl) (means_sym rfl) (by rw [← h]; rfl)
  rcases isN_cases v with ⟨a1, a2⟩ | ⟨a1, a2⟩
  · have hm : minF v g = bad ∧ maxF v g = bad := by simp [minF, maxF, a1]
    rw [hm.1, hm.2]
    have hr3 : ∃ r, (ord g g != some .eq) = r := ⟨_, rfl⟩
    obtain ⟨r3, hr3⟩ := hr3
    have hfs := facts4 (f2 true (by rw [a2]; rfl)) (f3 r3 hr3) (fa (sum_nan (.inl a2))) fn
    rcases hf with rfl | rfl <;> cases r3 <;> exact ⟨ask (σ := sf v g 0) (v := .tup [fl bad, tt]) hfs (by rfl) hsy4 (by kernel_rfl) hng, ask (σ := sf v g 0) (v := .tup [fl bad, tt]) hfs (by rfl) hsy5 (by kernel_rfl) hng⟩
  · rcases isN_cases g with ⟨b1, b2⟩ | ⟨b1, b2⟩
    · have hm : minF v g = bad ∧ maxF v g = bad := by simp [minF, maxF, a1, b1]
      rw [hm.1, hm.2]
      have hfs := facts4 (f2 false (by rw [a2]; rfl)) (f3 true (by rw [b2]; rfl)) (fa (sum_nan (.inr b2))) fn
      rcases hf with rfl | rfl <;> exact ⟨ask (σ := sf v g 0) (v := .tup [fl bad, tt]) hfs (by rfl) hsy4 (by kernel_rfl) hng, ask (σ := sf v g 0) (v := .tup [fl bad, tt]) hfs (by rfl) hsy5 (by kernel_rfl) hng⟩
    · have hm : minF v g = (if (ord v g == some .lt) = true then g else v) ∧ maxF v g = (if (ord v g == some .gt) = true then g else v) := by simp [minF, maxF, a1, b1]
      rw [hm.1, hm.2]
      generalize hr1 : (ord v g == some .lt) = r1
      generalize hr2 : (ord v g == some .gt) = r2
      have hfs := facts4 (f2 false (by rw [a2]; rfl)) (f3 false (by rw [b2]; rfl)) (fl' r1 hr1) (fg' r2 hr2)
      rcases hf with rfl | rfl <;> cases r1 <;> cases r2
      · exact ⟨ask (σ := sf v g 0) (v := .tup [S 2, tt]) hfs (by rfl) hsy4 (by kernel_rfl) hng, ask (σ := sf v g 0) (v := .tup [S 2, tt]) hfs (by rfl) hsy5 (by kernel_rfl) hng⟩
      · exact ⟨ask (σ := sf v g 0) (v := .tup [S 2, tt]) hfs (by rfl) hsy4 (by kernel_rfl) hng, ask (σ := sf v g 0) (v := .tup [S 3, tt]) hfs (by rfl) hsy5 (by kernel_rfl) hng⟩
      · exact ⟨ask (σ := sf v g 0) (v := .tup [S 3, tt]) hfs (by rfl) hsy4 (by kernel_rfl) hng, ask (σ := sf v g 0) (v := .tup [S 2, tt]) hfs (by rfl) hsy5 (by kernel_rfl) hng⟩
      · exact ⟨ask (σ := sf v g 0) (v := .tup [S 3, tt]) hfs (by rfl) hsy4 (by kernel_rfl) hng, ask (σ := sf v g 0) (v := .tup [S 3, tt]) hfs (by rfl) hsy5 (by kernel_rfl) hng⟩
      · exact ⟨ask (σ := sf v g 0) (v := .tup [S 2, tt]) hfs (by rfl) hsy4 (by kernel_rfl) hng, ask (σ := sf v g 0) (v := .tup [S 2, tt]) hfs (by rfl) hsy5 (by kernel_rfl) hng⟩
      · exact ⟨ask (σ := sf v g 0) (v := .tup [S 2, tt]) hfs (by rfl) hsy4 (by kernel_rfl) hng, ask (σ := sf v g 0) (v := .tup [S 3, tt]) hfs (by rfl) hsy5 (by kernel_rfl) hng⟩
      · exact ⟨ask (σ := sf v g 0) (v := .tup [S 3, tt]) hfs (by rfl) hsy4 (by kernel_rfl) hng, ask (σ := sf v g 0) (v := .tup [S 2, tt]) hfs (by rfl) hsy5 (by kernel_rfl) hng⟩
      · exact ⟨ask (σ := sf v g 0) (v := .tup [S 3, tt]) hfs (by rfl) hsy4 (by kernel_rfl) hng, ask (σ := sf v g 0) (v := .tup [S 3, tt]) hfs (by rfl) hsy5 (by kernel_rfl) hng⟩

theorem fn_other {f : Nat} (hf : f = 8 ∨ f = 9) {n : Int} (hn : n < 1 ∨ 5 < n) (x y : Nat) {w : World} (hng : 14 ≤ w.heap.size) :
    Calls Tryz.prog f #[.int .i64 n, .float .f64 x, .float .f64 y] w fun e w' => e = .returned (.tuple #[.float .f64 0, .bool false]) ∧ Below w.heap.size w w' := by
  have hsy : symsOk (sn n x y) [S 5, S 2, S 3] := ⟨rfl, rfl, rfl, trivial⟩
  have hfs : ∀ g, g ∈ eqs [1, 2, 3, 4, 5] → FactOk Tryz.prog (sn n x y) g := eqs_ok fun k hk => by
    simp at hk
    omega
  rcases hf with rfl | rfl
  · exact ask (σ := sn n x y) (v := .tup [fl 0, ff]) hfs (by rfl) hsy (by kernel_rfl) hng
  · exact ask (σ := sn n x y) (v := .tup [fl 0, ff]) hfs (by rfl) hsy (by kernel_rfl) hng

end Go.Proofs.YtkdemeekbjdlnaaGreatDoor

namespace Go.Proofs.YtkdemeekbjdlnaaGreatDoor
open Go Go.AVM Go.RowKit

def opF (n : Int) (x y : Nat) : Nat × Bool :=
  if n = 1 then (cn (floatBits .add .f64 x y), true) else if n = 2 then (cn (floatBits .sub .f64 x y), true) else if n = 3 then (cn (floatBits .mul .f64 x y), true) else if n = 4 then (cn (floatBits .quo .f64 x y), true) else
  match cmpOf n with
  | some b => match cmpB b (ord x y) with
    | some r => (if r = true then one else 0, true)
    | none => (0, false)
  | none => (0, false)

def holdsF (n : Int) (x y : Nat) : Bool :=
  match cmpOf n with
  | some b => match cmpB b (ord x y) with
    | some r => r
    | none => false
  | none => false

theorem cmpOf_none {n : Int} (h : cmpOf n = none) : n < 5 ∨ 10 < n := by
  by_cases h5 : n = 5
  · subst h5; cases h
  by_cases h6 : n = 6
  · subst h6; cases h
  by_cases h7 : n = 7
  · subst h7; cases h
  by_cases h8 : n = 8
  · subst h8; cases h
  by_cases h9 : n = 9
  · subst h9; cases h
  by_cases h10 : n = 10
  · subst h10; cases h
  omega

theorem cmpOf_cmp {n : Int} {b : BinOp} (h : cmpOf n = some b) (c : Option Ordering) : ∃ r, cmpB b c = some r := by
  unfold cmpOf at h
  split at h <;> cases h <;> exact ⟨_, rfl⟩

theorem op_is {f : Nat} (hf : f = 6 ∨ f = 7) (n : Int) (x y : Nat) {w : World} (hng : 14 ≤ w.heap.size) :
    Calls Tryz.prog f #[.int .i64 n, .float .f64 x, .float .f64 y] w fun e w' => e = .returned (.tuple #[.float .f64 (opF n x y).1, .bool (opF n x y).2]) ∧ Below w.heap.size w w' := by
  unfold opF
  by_cases h1 : n = 1
  · subst h1; exact op_add hf x y hng
  rw [if_neg h1]
  by_cases h2 : n = 2
  · subst h2; exact op_sub hf x y hng
  rw [if_neg h2]
  by_cases h3 : n = 3
  · subst h3; exact op_mul hf x y hng
  rw [if_neg h3]
  by_cases h4 : n = 4
  · subst h4; exact op_quo hf x y hng
  rw [if_neg h4]
  cases hc : cmpOf n with
  | none =>
    have := cmpOf_none hc
    exact op_other hf (by omega) x y hng
  | some b =>
    obtain ⟨r, hr⟩ := cmpOf_cmp hc (ord x y)
    simp only [hr]
    exact op_at hf hc x y hng hr

theorem holds_is {f : Nat} (hf : f = 11 ∨ f = 12) (n : Int) (x y : Nat) {w : World} (hng : 14 ≤ w.heap.size) :
    Calls Tryz.prog f #[.int .i64 n, .float .f64 x, .float .f64 y] w fun e w' => e = .returned (.bool (holdsF n x y)) ∧ Below w.heap.size w w' := by
  unfold holdsF
  cases hc : cmpOf n with
  | none => exact holds_other hf (cmpOf_none hc) x y hng
  | some b =>
    obtain ⟨r, hr⟩ := cmpOf_cmp hc (ord x y)
    simp only [hr]
    exact holds_at hf hc x y hng hr

def fnF (n : Int) (x y : Nat) : Nat × Bool :=
  if n = 1 then (cn (some (absF x)), true) else if n = 2 then (cn (some (negF x)), true) else if n = 3 then (sgnF x, true) else if n = 4 then (minF x y, true) else if n = 5 then (maxF x y, true) else (0, false)

theorem fn_is {f : Nat} (hf : f = 8 ∨ f = 9) (n : Int) {x : Nat} (hx : x < 18446744073709551616) (y : Nat) {w : World} (hng : 14 ≤ w.heap.size) :
    Calls Tryz.prog f #[.int .i64 n, .float .f64 x, .float .f64 y] w fun e w' => e = .returned (.tuple #[.float .f64 (fnF n x y).1, .bool (fnF n x y).2]) ∧ Below w.heap.size w w' := by
  unfold fnF
  by_cases h1 : n = 1
  · subst h1; exact fn_abs hf x y hng
  rw [if_neg h1]
  by_cases h2 : n = 2
  · subst h2; exact fn_neg hf hx y hng
  rw [if_neg h2]
  by_cases h3 : n = 3
  · subst h3; exact fn_sgn hf x y hng
  rw [if_neg h3]
  by_cases h4 : n = 4
  · subst h4; exact (fn_mm hf x y hng).1
  rw [if_neg h4]
  by_cases h5 : n = 5
  · subst h5; exact (fn_mm hf x y hng).2
  rw [if_neg h5]
  exact fn_other hf (by omega) x y hng

end Go.Proofs.YtkdemeekbjdlnaaGreatDoor
