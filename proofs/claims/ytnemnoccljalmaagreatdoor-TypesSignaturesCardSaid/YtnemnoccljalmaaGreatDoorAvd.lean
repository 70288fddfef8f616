/- An interpreter of the model over abstract values, proved sound for every program. The start, facts on symbols. -/
import Derived.DataReads
import Derived.ChangeArms
import Derived.OpenShut
import Derived.KernelRfl
import Derived.Laws.FloatArith
import Derived.Test.YtnemnoccljalmaaGreatDoorAvc
set_option autoImplicit false
set_option linter.unusedVariables false
set_option linter.unusedSimpArgs false

namespace Go.AVM
open Go.RowKit
noncomputable section

/-! ### the functions without a body that the kit knows -/
def extF (kind : FuncId → Nat) (f : FuncId) (args : List AV) : Option AV :=
  match kind f with
  | 1 => match args with
    | [.val (.float .f64 b)] => some (.val (.int .u64 (Int.ofNat b)))
    | _ => none
  | 2 => match args with
    | [.val (.int .u64 n)] => some (.val (.float .f64 n.toNat))
    | _ => none
  | 3 => match args with
    | [.val (.float .f32 b)] => some (.val (.int .u32 (Int.ofNat b)))
    | _ => none
  | 4 => match args with
    | [.val (.int .u32 n)] => some (.val (.float .f32 n.toNat))
    | _ => none
  | 5 => match args with
    | [v] => some v
    | _ => none
  | _ => none

def extRow : Nat → Option (Array Value → Sem Value)
  | 1 => some Extern.MathFloatBits.float64bits
  | 2 => some Extern.MathFloatBits.float64frombits
  | 3 => some Extern.MathFloatBits.float32bits
  | 4 => some Extern.MathFloatBits.float32frombits
  | 5 => some Extern.AbiNoEscape.same
  | 10 => some Extern.BytealgIndexByte.indexByte
  | 11 => some Extern.BytealgCount.count
  | 12 => some Extern.BytealgCompare.compare
  | _ => none

/-- A function without a body, and what stands for it. -/
def ExtIs (P : Program) (f : FuncId) (e : Func → Array Value → Sem Value) : Prop :=
  ∃ fn, P.funcs[f]? = some fn ∧ (fn.name == "runtime.NumGoroutine") = false ∧ fn.body.isNone = true ∧ (Extern.findNext fn).isNone = true ∧ Extern.find fn = some (e fn)

/-- The kinds are told as the program has them. -/
structure ExtOk (P : Program) (kind : FuncId → Nat) : Prop where
  plain : ∀ (f : FuncId) (e : Array Value → Sem Value), extRow (kind f) = some e → ExtIs P f fun _ => e
  made : ∀ f : FuncId, kind f = 20 → ExtIs P f fun fn => Extern.BytealgMakeNoZero.makeNoZero fn.params fn.resultTypes

theorem ext_call {P : Program} {f : FuncId} {e : Func → Array Value → Sem Value} (h : ExtIs P f e) (xs : Array Value) (w : World) :
    ∃ fn, P.funcs[f]? = some fn ∧ (callFunc f xs).run P w = (do pure (.value (← e fn xs)) : Sem Next).run P w := by
  obtain ⟨fn, h1, h2, h3, h4, h5⟩ := h
  have h2' : fn.name ≠ "runtime.NumGoroutine" := by simpa using h2
  have h3' : fn.body = none := by simpa using h3
  have h4' : Extern.findNext fn = none := by simpa using h4
  exact ⟨fn, h1, by simp [callFunc, h1, h2', h3', h4', h5]⟩

theorem extF_sound {P : Program} {kind : FuncId → Nat} (h : ExtOk P kind) : ∀ f args v, extF kind f args = some v → ∀ (G : Ctx) (w : World) (xs : Array Value), VRL G w args xs.toList → ∃ y, (callFunc f xs).run P w = .ok (.value y) w ∧ VR G w v y := by
  intro f args v hq G w xs hx
  have one : ∀ u, args = [.val u] → xs = #[u] := fun u hu => by
    subst hu
    simp only [VRL, VR] at hx
    obtain ⟨y, r, h1, rfl, rfl⟩ := hx
    cases xs
    simp at h1
    rw [h1]
  have run : ∀ (e : Array Value → Sem Value) (u y : Value), extRow (kind f) = some e → xs = #[u] → e #[u] = pure y → (callFunc f xs).run P w = .ok (.value y) w := fun e u y he hxs hr => by
    obtain ⟨fn, _, h2⟩ := ext_call (h.plain f e he) xs w
    rw [h2]
    simp [hxs, hr]
  unfold extF at hq
  split at hq <;> rename_i hk
  case h_5 =>
    split at hq
    · rename_i u
      cases hq
      simp only [VRL] at hx
      obtain ⟨y, r, h1, h2, rfl⟩ := hx
      have hxs : xs = #[y] := by cases xs; simp at h1; rw [h1]
      exact ⟨y, run _ y _ (by rw [hk]; rfl) hxs rfl, h2⟩
    · cases hq
  all_goals first
    | cases hq
    | (split at hq
       · rename_i b
         cases hq
         exact ⟨_, run _ _ _ (by rw [hk]; rfl) (one _ rfl) rfl, by simp [VR]⟩
       · cases hq)

/-- Those that read, or act. -/
def extG (P : Program) (kind : FuncId → Nat) (f : FuncId) (args : List AV) (s : St) : Option (AV × St) :=
  match kind f with
  | 20 => match P.funcs[f]? with
    | some fn => eMakeNoZero P fn.resultTypes s args
    | none => none
  | k => match extRow k, toVL args with
    | some e, some vs => match flat P (e vs.toArray) with
      | some y => match fromV y with
        | some v => some (v, s)
        | none => none
      | none => none
    | _, _ => none

theorem extG_sound {P : Program} {kind : FuncId → Nat} (h : ExtOk P kind) {ng : Nat} : ∀ f args s v s', extG P kind f args s = some (v, s') → ∀ (B : Nat) (w0 : World) (G : Ctx) (w : World) (xs : Array Value), WRel ng B w0 G w s → VRL G w args xs.toList → Does P ng B w0 G w (callFunc f xs) v s' := by
  intro f args s v s' hq B w0 G w xs hw hx
  unfold extG at hq
  split at hq
  · rename_i hk
    split at hq
    · rename_i fn hfn
      obtain ⟨fn', h1, h2⟩ := ext_call (h.made f hk) xs w
      rw [hfn] at h1
      cases h1
      obtain ⟨y, w', G', h3, h4, h5, h6⟩ := eMakeNoZero_sound (ps := fn.params) hw hx hq
      exact ⟨_, y, w', G', by rw [h2]; exact run_val h3, .inl rfl, h4, h5, h6⟩
    · cases hq
  · split at hq
    · rename_i e vs he hvs
      split at hq
      · rename_i y hy
        split at hq
        · rename_i u hu
          cases hq
          obtain ⟨fn, _, h2⟩ := ext_call (h.plain f e he) xs w
          have hxs : xs = vs.toArray := by
            have := toVL_eq args _ _ hvs hx
            cases xs
            simp at this
            rw [this]
          subst hxs
          exact ⟨_, y, w, G, by rw [h2]; exact run_val (flat_run w _ hy), .inl rfl, fromV_VR y _ hu, Ext.refl _ _, hw⟩
        · cases hq
      · cases hq
    · cases hq

end
end Go.AVM

namespace Go.AVM
open Go.RowKit
noncomputable section

/-! ### a datum that a variable reads as -/
mutual
def layA (P : Program) (t : TypeId) : DataW Unit → Option (List AV)
  | .lit l => match und P t, l with
    | some .bool, .bool b => some [.val (.bool b)]
    | some (.int _), .int k n => some [.val (.int k n)]
    | some (.float _), .float k b => some [.val (.float k b)]
    | some .string, .string s => some [.val (.string ⟨s.toArray⟩)]
    | _, _ => none
  | .nil => match und P t with
    | some (.pointer _) => some [.val (.pointer none)]
    | some (.slice e) => match inf P e with | some i => some [.sl [] i.size .nil] | none => none
    | some (.interface _) => some [.val .nilIface]
    | some (.map _ _) => some [.val (.map none)]
    | some (.func _ _ _) => some [.val .nilFunc]
    | _ => none
  | .ptr d => match und P t with
    | some (.pointer e) => match inf P e with
      | some i => match i.size with
        | 0 => some [.any]
        | _ + 1 => match layA P e d with
          | some cs => some [.ep cs 0]
          | none => none
      | none => none
    | _ => none
  | .slice es _ => match und P t with
    | some (.slice e) => match inf P e with
      | some i => match i.size with
        | 0 => some [.any]
        | m + 1 => match layE P e es with
          | some [] => some [.any]
          | some l => some [.sl l (m + 1) .no]
          | none => none
      | none => none
    | _ => none
  | .agg ps => match und P t with
    | some (.struct fs) => match inf P t, layF P 0 fs.toList ps with
      | some i, some l => match Nat.beq l.length i.size with | true => some l | false => none
      | _, _ => none
    | some (.array _ e) => match inf P t, inf P e with
      | some i, some j => match layL P e j.size ps with
        | some l => match Nat.beq l.length i.size with | true => some l | false => none
        | none => none
      | _, _ => none
    | _ => none
  | .iface _ _ => match und P t with
    | some (.interface _) => some [.any]
    | _ => none
  | .map _ => match und P t with
    | some (.map _ _) => some [.any]
    | _ => none
  | .held _ => none
def layE (P : Program) (t : TypeId) : List (DataW Unit) → Option (List (List AV))
  | [] => some []
  | d :: ds => match layA P t d, layE P t ds with
    | some a, some b => some (a :: b)
    | _, _ => none
def layL (P : Program) (t : TypeId) (sz : Nat) : List (DataW Unit) → Option (List AV)
  | [] => some []
  | d :: ds => match layA P t d, layL P t sz ds with
    | some a, some b => match Nat.beq a.length sz with | true => some (a ++ b) | false => none
    | _, _ => none
def layF (P : Program) (off : Nat) (fs : List Field) : List (DataW Unit) → Option (List AV)
  | [] => match fs with | [] => some [] | _ => none
  | d :: ds => match fs with
    | f :: fs => match layA P f.type d with
      | some a => match layF P (off + a.length) fs ds with
        | some b => match Nat.beq f.offset off with | true => some (a ++ b) | false => none
        | none => none
      | none => none
    | [] => none
end

theorem beq_of {a b : Nat} (h : Nat.beq a b = true) : a = b := Nat.eq_of_beq_eq_true h

theorem VRL_len {G : Ctx} {w : World} {l : List AV} {xs : List Value} (h : VRL G w l xs) : l.length = xs.length := ((VRL_iff l xs).1 h).1

theorem inf_cells {P : Program} {t : TypeId} {i : TypeInfo} (h : inf P t = some i) : P.cellsOf t = i.size := by
  unfold Program.cellsOf
  rw [inf_sound h]
  rfl

section
variable {P : Program} {G : Ctx} {w : World}

theorem clr_of_cells (hI : ∀ b o, b < w.heap.size → G.I b o) {a : Addr} {n : Nat} {cs : List Value} {l : List AV} (h : w.cells? 0 a (n + 1) = some cs) (hv : VRL G w l cs) :
    ∃ b o, a = ⟨b, o, none⟩ ∧ ClR G w b o l ∧ ∃ c e fz, w.heap[b]? = some (Obj.cells c e fz) ∧ o + (n + 1) ≤ c.size := by
  obtain ⟨_, h2, h3⟩ := World.cells?_some h
  have h0 := h3 0 (by omega)
  have hn := h3 n (by omega)
  obtain ⟨b, o, sp⟩ := a
  have hc0 : cs[0]? = some (cs[0]'(by omega)) := List.getElem?_eq_getElem (by omega)
  have hcn : cs[n]? = some (cs[n]'(by omega)) := List.getElem?_eq_getElem (by omega)
  rw [hc0] at h0
  rw [hcn] at hn
  have hsp : sp = none := by
    simp only [Addr.add, if_pos, World.cell?] at h0
    split at h0
    · split at h0
      · cases h0
      · rename_i hs; simpa using hs
    · cases h0
  subst hsp
  have hadd : ∀ i, (Addr.add ⟨b, o, none⟩ i) = ⟨b, o + i, none⟩ := fun i => by
    unfold Addr.add
    split
    · rename_i hi; subst hi; rfl
    · rfl
  obtain ⟨c, e, fz, hh⟩ : ∃ c e fz, w.heap[b]? = some (Obj.cells c e fz) := by
    simp only [Addr.add, if_pos, World.cell?] at h0
    split at h0
    · rename_i c e fz hh; exact ⟨c, e, fz, hh⟩
    · cases h0
  have hlt : b < w.heap.size := (Array.getElem?_eq_some_iff.1 hh).1
  refine ⟨b, o, rfl, (ClR_iff l b o).2 fun j d hj => ⟨hI _ _ hlt, ?_⟩, c, e, fz, hh, ?_⟩
  · obtain ⟨x, hx, hxv⟩ := hv.get hj
    have hjn : j < n + 1 := by rw [← h2]; exact (List.getElem?_eq_some_iff.1 hx).1
    have := h3 j hjn
    rw [hadd, hx] at this
    exact ⟨x, this, hxv⟩
  · rw [hadd] at hn
    simp only [World.cell?, hh, Option.isSome_none, Bool.false_eq_true, if_false] at hn
    have := (Array.getElem?_eq_some_iff.1 hn).1
    omega

theorem layL_sound {t : TypeId} {sz : Nat} {cs : List Value} : ∀ (ds : List (DataW Unit)) (i : Nat) (l : List AV), layL P t sz ds = some l → i * sz + l.length = cs.length →
    (∀ (j : Nat) (d : DataW Unit) (a : List AV), ds[j]? = some d → layA P t d = some a → VRL G w a ((cs.drop ((i + j) * sz)).take sz)) → VRL G w l (cs.drop (i * sz))
  | [], i, l, h, hl, _ => by
    simp only [layL, Option.some.injEq] at h
    subst h
    simp only [VRL]
    exact List.drop_eq_nil_of_le (by simp at hl; omega)
  | d :: ds, i, l, h, hl, hp => by
    simp only [layL] at h
    split at h
    · rename_i a b ha hb
      split at h
      · rename_i hb2
        have hsz := beq_of hb2
        cases h
        have h1 := hp 0 d a (by simp) ha
        rw [Nat.add_zero] at h1
        have h2 := layL_sound (cs := cs) ds (i + 1) b hb (by rw [List.length_append] at hl; rw [Nat.succ_mul]; omega) fun j d' a' hj ha' => by
          have := hp (j + 1) d' a' (by simpa using hj) ha'
          rwa [show i + (j + 1) = i + 1 + j by omega] at this
        have := h1.append h2
        rw [Nat.succ_mul, ← List.drop_drop] at this
        rwa [List.take_append_drop] at this
      · cases h
    · cases h

theorem layF_sound {cs : List Value} : ∀ (ds : List (DataW Unit)) (fs : List Field) (off : Nat) (l : List AV), layF P off fs ds = some l → off + l.length = cs.length →
    (∀ (j : Nat) (d : DataW Unit) (f : Field) (a : List AV), ds[j]? = some d → fs[j]? = some f → layA P f.type d = some a → VRL G w a ((cs.drop f.offset).take (P.cellsOf f.type))) → VRL G w l (cs.drop off)
  | [], fs, off, l, h, hl, _ => by
    simp only [layF] at h
    split at h
    · simp only [Option.some.injEq] at h
      subst h
      simp only [VRL]
      exact List.drop_eq_nil_of_le (by simp at hl; omega)
    · cases h
  | d :: ds, [], off, l, h, hl, hp => by simp [layF] at h
  | d :: ds, f :: fs, off, l, h, hl, hp => by
    simp only [layF] at h
    split at h
    · rename_i a ha
      split at h
      · rename_i b hb
        split at h
        · rename_i ho
          have ho := beq_of ho
          cases h
          have h1 := hp 0 d f a (by simp) (by simp) ha
          rw [ho] at h1
          have hlen := VRL_len h1
          have h2 := layF_sound (cs := cs) ds fs (off + a.length) b hb (by rw [List.length_append] at hl; omega) fun j d' f' a' hj hf ha' => hp (j + 1) d' f' a' (by simpa using hj) (by simpa using hf) ha'
          have := h1.append h2
          have hcut : (cs.drop off).take (P.cellsOf f.type) ++ cs.drop (off + a.length) = cs.drop off := by
            rw [hlen, ← List.drop_drop]
            have : (List.take (P.cellsOf f.type) (List.drop off cs)).length = min (P.cellsOf f.type) (cs.drop off).length := List.length_take
            rw [this]
            by_cases hle : P.cellsOf f.type ≤ (cs.drop off).length
            · rw [Nat.min_eq_left hle, List.take_append_drop]
            · rw [Nat.min_eq_right (by omega), List.take_of_length_le (by omega), List.drop_of_length_le (Nat.le_refl _), List.append_nil]
          rwa [hcut] at this
        · cases h
      · cases h
    · cases h

theorem layE_get {t : TypeId} : ∀ (ds : List (DataW Unit)) (l : List (List AV)), layE P t ds = some l → l.length = ds.length ∧ ∀ (j : Nat) (c : List AV), l[j]? = some c → ∃ d, ds[j]? = some d ∧ layA P t d = some c
  | [], l, h => by simp only [layE, Option.some.injEq] at h; subst h; simp
  | d :: ds, l, h => by
    simp only [layE] at h
    split at h
    · rename_i a b ha hb
      cases h
      obtain ⟨h1, h2⟩ := layE_get ds b hb
      refine ⟨by simp [h1], fun j c hj => ?_⟩
      cases j with
      | zero => simp at hj; subst hj; exact ⟨d, by simp, ha⟩
      | succ j => simpa using h2 j c (by simpa using hj)
    · cases h

theorem ElR_of {b sz : Nat} : ∀ (l : List (List AV)) (o : Nat), (∀ (j : Nat) (c : List AV), l[j]? = some c → c.length = sz ∧ ClR G w b (o + j * sz) c) → ElR G w b o sz l
  | [], o, _ => by simp [ElR]
  | c :: l, o, h => by
    simp only [ElR]
    refine ⟨(h 0 c (by simp)).1, by simpa using (h 0 c (by simp)).2, ElR_of l (o + sz) fun j d hj => ?_⟩
    have := h (j + 1) d (by simpa using hj)
    rwa [Nat.succ_mul, show o + (j * sz + sz) = o + sz + j * sz by omega] at this

theorem trod_float' {k : FloatKind} {fuel : Nat} {t : TypeId} {cs : List Value} {x : DataW Unit × List MemPlace} (ht : P.underlying t = some (.float k)) (h : DataW.trod (fun _ => ()) P w 0 (fun _ => true) false fuel t cs = some x) :
    ∃ b, cs = [.float k b] ∧ x = (.lit (.float k b), []) := by
  cases fuel with
  | zero => simp [DataW.trod] at h
  | succ n =>
    unfold DataW.trod at h
    rw [ht] at h
    split at h <;> simp_all

theorem trod_iface' {m : Array (String × TypeId)} {fuel : Nat} {t : TypeId} {cs : List Value} {x : DataW Unit × List MemPlace} (ht : P.underlying t = some (.interface m)) (h : DataW.trod (fun _ => ()) P w 0 (fun _ => true) false fuel t cs = some x) :
    (cs = [.nilIface] ∧ x = (.nil, [])) ∨ (∃ v, cs = [v] ∧ x.1 ≠ .nil) := by
  cases fuel with
  | zero => simp [DataW.trod] at h
  | succ n =>
    unfold DataW.trod at h
    rw [ht] at h
    split at h <;> first | (simp_all; done) | skip
    split at h
    · simp at h; subst h; simp
    · rw [Option.map_eq_some_iff] at h
      obtain ⟨y, _, rfl⟩ := h
      simp
    · cases h

theorem trod_map' {k e : TypeId} {fuel : Nat} {t : TypeId} {cs : List Value} {x : DataW Unit × List MemPlace} (ht : P.underlying t = some (.map k e)) (h : DataW.trod (fun _ => ()) P w 0 (fun _ => true) false fuel t cs = some x) :
    (cs = [.map none] ∧ x = (.nil, [])) ∨ (∃ v, cs = [v] ∧ x.1 ≠ .nil) := by
  cases fuel with
  | zero => simp [DataW.trod] at h
  | succ n =>
    unfold DataW.trod at h
    rw [ht] at h
    split at h <;> simp_all
    rename_i b _ _ _ _
    split at h
    · split at h
      · rw [Option.bind_eq_some_iff] at h
        obtain ⟨a, _, h⟩ := h
        split at h
        · cases h; simp
        · cases h
      · cases h
    · cases h

theorem trod_func' {ps rs : Array TypeId} {vd : Bool} {fuel : Nat} {t : TypeId} {cs : List Value} {p : List MemPlace} (ht : P.underlying t = some (.func ps rs vd)) (h : DataW.trod (fun _ => ()) P w 0 (fun _ => true) false fuel t cs = some (.nil, p)) :
    cs = [.nilFunc] := by
  cases fuel with
  | zero => simp [DataW.trod] at h
  | succ n =>
    unfold DataW.trod at h
    rw [ht] at h
    split at h <;> simp_all

theorem layA_sound (hI : ∀ b o, b < w.heap.size → G.I b o) : ∀ (fuel : Nat) (t : TypeId) (cs : List Value) (d : DataW Unit) (p : List MemPlace) (l : List AV),
    DataW.trod (fun _ => ()) P w 0 (fun _ => true) false fuel t cs = some (d, p) → layA P t d = some l → VRL G w l cs := by
  intro fuel
  induction fuel with
  | zero => intro t cs d p l h; simp [DataW.trod] at h
  | succ fuel ih =>
    intro t cs d p l h hl
    cases d with
    | lit x =>
      simp only [layA] at hl
      split at hl
      · rename_i hu
        cases hl
        obtain ⟨b, rfl, hx⟩ := DataW.trod_bool (und_sound hu) h
        simp at hx
        simp [VRL, VR, hx]
      · rename_i hu
        cases hl
        obtain ⟨b, rfl, hx, _⟩ := DataW.trod_int (und_sound hu) h
        simp at hx
        simp [VRL, VR, hx]
      · rename_i hu
        cases hl
        obtain ⟨b, rfl, hx⟩ := trod_float' (und_sound hu) h
        simp at hx
        simp [VRL, VR, hx]
      · rename_i hu
        cases hl
        obtain ⟨b, rfl, hx, _⟩ := DataW.trod_string (und_sound hu) h
        obtain ⟨⟨b⟩⟩ := b
        simp at hx
        simp [VRL, VR, hx]
      · cases hl
    | nil =>
      simp only [layA] at hl
      split at hl
      · rename_i hu
        cases hl
        rcases DataW.trod_pointer (und_sound hu) h with ⟨rfl, _⟩ | ⟨a, cs', y, n, _, _, hx, _⟩
        · simp [VRL, VR]
        · cases hx
      · rename_i hu
        split at hl
        · cases hl
          rcases DataW.trod_slice (und_sound hu) h with ⟨rfl, _⟩ | ⟨a, len, cap, elems, rest, n, _, _, hx, _⟩
          · simp [VRL, VR]
          · cases hx
        · cases hl
      · rename_i hu
        cases hl
        rcases trod_iface' (und_sound hu) h with ⟨rfl, _⟩ | ⟨v, _, hx⟩
        · simp [VRL, VR]
        · exact absurd rfl hx
      · rename_i hu
        cases hl
        rcases trod_map' (und_sound hu) h with ⟨rfl, _⟩ | ⟨v, _, hx⟩
        · simp [VRL, VR]
        · exact absurd rfl hx
      · rename_i hu
        cases hl
        rw [trod_func' (und_sound hu) h]
        simp [VRL, VR]
      · cases hl
    | ptr d =>
      simp only [layA] at hl
      split at hl
      · rename_i e hu
        rcases DataW.trod_pointer (und_sound hu) h with ⟨_, hx⟩ | ⟨a, cs', y, n, hn, rfl, hx, hc, hy⟩
        · cases hx
        · split at hl
          · rename_i i hi
            split at hl
            · cases hl; simp [VRL, VR]
            · rename_i m hm
              split at hl
              · rename_i l' hl'
                cases hl
                simp only [Prod.mk.injEq, DataW.ptr.injEq] at hx
                rw [inf_cells hi, hm] at hc
                have hn : fuel = n := by omega
                subst hn
                have hv := ih e cs' d y.2 l' (by rw [hy, hx.1]) hl'
                obtain ⟨b, o, rfl, hcl, _⟩ := clr_of_cells hI hc hv
                simp only [VRL, VR]
                exact ⟨_, _, rfl, ⟨b, o, rfl, hcl⟩, rfl⟩
              · cases hl
          · cases hl
      · cases hl
    | slice es sp =>
      simp only [layA] at hl
      split at hl
      · rename_i e hu
        rcases DataW.trod_slice (und_sound hu) h with ⟨_, hx⟩ | ⟨a, len, cap, elems, rest, n, hn, rfl, hx, _, hle, _, hlen, hel, hrest⟩
        · cases hx
        · split at hl
          · rename_i i hi
            split at hl
            · cases hl; simp [VRL, VR]
            · rename_i m hm
              split at hl
              · cases hl; simp [VRL, VR]
              · rename_i l' hne hl'
                cases hl
                obtain ⟨g1, g2⟩ := layE_get es l' hl'
                simp only [Prod.mk.injEq, DataW.slice.injEq] at hx
                obtain ⟨⟨hes, hsp⟩, _⟩ := hx
                have hn : fuel = n := by omega
                subst hn
                rw [inf_cells hi, hm] at hel hrest
                have hll : l'.length = len := by rw [g1, hes, List.length_map, hlen]
                -- each element
                have one : ∀ (j : Nat) (c : List AV), l'[j]? = some c → ∃ b o, a.add (j * (m + 1)) = ⟨b, o, none⟩ ∧ c.length = m + 1 ∧ ClR G w b o c := fun j c hj => by
                  obtain ⟨d, hd, hd'⟩ := g2 j c hj
                  have hjl : j < len := by rw [← hll]; exact (List.getElem?_eq_some_iff.1 hj).1
                  have := hel j hjl
                  rw [hes, List.getElem?_map] at hd
                  obtain ⟨y, hy, hyd⟩ := Option.map_eq_some_iff.1 hd
                  rw [hy, Option.bind_eq_some_iff] at this
                  obtain ⟨cs', hc, ht⟩ := this
                  have hv := ih e cs' d y.2 c (by rw [ht, ← hyd]) hd'
                  obtain ⟨b, o, hab, hcl, _⟩ := clr_of_cells hI hc hv
                  exact ⟨b, o, hab, by rw [VRL_len hv]; exact (World.cells?_some hc).2.1, hcl⟩
                have hpos : 0 < l'.length := by cases l' with | nil => exact (hne rfl).elim | cons => simp
                obtain ⟨b, o, hab, _, _⟩ := one 0 l'[0] (List.getElem?_eq_getElem hpos)
                rw [Nat.zero_mul] at hab
                have ha : a = ⟨b, o, none⟩ := by simpa [Addr.add] using hab
                subst ha
                have hadd : ∀ i, (Addr.add ⟨b, o, none⟩ i) = ⟨b, o + i, none⟩ := fun i => by
                  unfold Addr.add
                  split
                  · rename_i hi; subst hi; rfl
                  · rfl
                -- the last one
                have hlast : ∃ cs', w.cells? 0 (Addr.add ⟨b, o, none⟩ ((cap - 1) * (m + 1))) (m + 1) = some cs' := by
                  by_cases hc : cap = len
                  · have := hel (cap - 1) (by omega)
                    rw [List.getElem?_eq_getElem (by omega), Option.bind_eq_some_iff] at this
                    exact ⟨_, this.choose_spec.1⟩
                  · obtain ⟨r1, r2⟩ := hrest.1 rfl
                    have := r2 (cap - len - 1) (by omega)
                    rw [List.getElem?_eq_getElem (by omega), Option.bind_eq_some_iff, show len + (cap - len - 1) = cap - 1 by omega] at this
                    exact ⟨_, this.choose_spec.1⟩
                obtain ⟨cs', hcs'⟩ := hlast
                obtain ⟨b2, o2, hb2, _, c, e2, fz, hh, hsz⟩ := clr_of_cells (G := G) hI hcs' (l := cs'.map fun _ => .any) ((VRL_iff _ _).2 ⟨by simp, fun j c x h1 h2 => by
                  rw [List.getElem?_map] at h1
                  obtain ⟨_, _, rfl⟩ := Option.map_eq_some_iff.1 h1
                  simp [VR]⟩)
                rw [hadd] at hb2
                simp only [Addr.mk.injEq] at hb2
                obtain ⟨rfl, rfl, _⟩ := hb2
                simp only [VRL, VR]
                refine ⟨_, _, rfl, .inr ⟨by simp, b, o, cap, by rw [hll], by omega, ⟨c, e2, fz, hh, ?_⟩, ElR_of _ _ fun j d hj => ?_, fun r el' hr => by cases hr⟩, rfl⟩
                · have : cap = cap - 1 + 1 := by omega
                  rw [this, Nat.succ_mul]
                  omega
                · obtain ⟨b3, o3, hab3, h1, h2⟩ := one j d hj
                  rw [hadd] at hab3
                  simp only [Addr.mk.injEq] at hab3
                  obtain ⟨rfl, rfl, _⟩ := hab3
                  exact ⟨h1, h2⟩
              · cases hl
          · cases hl
      · cases hl
    | agg ps =>
      simp only [layA] at hl
      split at hl
      · rename_i fs hu
        obtain ⟨xs, n, hn, hx, hcl, hlen, hf⟩ := DataW.trod_struct (und_sound hu) h
        have hn : fuel = n := by omega
        subst hn
        simp only [Prod.mk.injEq, DataW.agg.injEq] at hx
        split at hl
        · rename_i i l' hi hl'
          split at hl
          · rename_i hb
            cases hl
            have hb := beq_of hb
            have := layF_sound (P := P) (G := G) (w := w) (cs := cs) ps fs.toList 0 l hl' (by rw [hcl, inf_cells hi, hb]; omega) fun j d f a hj hjf ha => by
              have h1 := hf j f (by simpa using hjf)
              rw [hx.1, List.getElem?_map] at hj
              obtain ⟨y, hy, hyd⟩ := Option.map_eq_some_iff.1 hj
              rw [hy] at h1
              exact ih f.type _ d y.2 a (by rw [h1, ← hyd]) ha
            simpa using this
          · cases hl
        · cases hl
      · rename_i k e hu
        obtain ⟨xs, n, hn, hx, hcl, hlen, hf⟩ := DataW.trod_array (und_sound hu) h
        have hn : fuel = n := by omega
        subst hn
        simp only [Prod.mk.injEq, DataW.agg.injEq] at hx
        split at hl
        · rename_i i j hi hj
          split at hl
          · rename_i l' hl'
            split at hl
            · rename_i hb
              cases hl
              have hb := beq_of hb
              have := layL_sound (P := P) (G := G) (w := w) (cs := cs) ps 0 l hl' (by rw [hcl, inf_cells hi, hb]; omega) fun q d a hq ha => by
                rw [hx.1, List.getElem?_map] at hq
                obtain ⟨y, hy, hyd⟩ := Option.map_eq_some_iff.1 hq
                have h1 := hf q (by rw [← hlen]; exact (List.getElem?_eq_some_iff.1 hy).1)
                rw [hy, inf_cells hj] at h1
                rw [Nat.zero_add]
                exact ih e _ d y.2 a (by rw [h1, ← hyd]) ha
              simpa using this
            · cases hl
          · cases hl
        · cases hl
      · cases hl
    | iface n d =>
      simp only [layA] at hl
      split at hl
      · rename_i hu
        cases hl
        rcases trod_iface' (und_sound hu) h with ⟨rfl, _⟩ | ⟨v, rfl, hx⟩ <;> simp [VRL, VR]
      · cases hl
    | map es =>
      simp only [layA] at hl
      split at hl
      · rename_i hu
        cases hl
        rcases trod_map' (und_sound hu) h with ⟨rfl, _⟩ | ⟨v, rfl, hx⟩ <;> simp [VRL, VR]
      · cases hl
    | held x => simp [layA] at hl

end
end
end Go.AVM

namespace Go.AVM
open Go.RowKit
noncomputable section

/-! ### no names in a datum -/
mutual
theorem layA_hi {P : Program} : ∀ (t : TypeId) (d : DataW Unit) (l : List AV), layA P t d = some l → hiL l = 0
  | t, .lit x, l, h => by
    simp only [layA] at h
    split at h <;> cases h <;> rfl
  | t, .nil, l, h => by
    simp only [layA] at h
    split at h
    case h_2 => split at h <;> cases h; rfl
    all_goals (cases h <;> rfl)
  | t, .ptr d, l, h => by
    simp only [layA] at h
    split at h
    · split at h
      · split at h
        · cases h; rfl
        · split at h
          · rename_i cs hcs
            cases h
            simp [hiL, AV.hi, layA_hi _ d cs hcs]
          · cases h
      · cases h
    · cases h
  | t, .slice es sp, l, h => by
    simp only [layA] at h
    split at h
    · split at h
      · split at h
        · cases h; rfl
        · split at h
          · cases h; rfl
          · rename_i l' _ hl'
            cases h
            simp [hiL, AV.hi, layE_hi _ es l' hl']
          · cases h
      · cases h
    · cases h
  | t, .agg ps, l, h => by
    simp only [layA] at h
    split at h
    · split at h
      · rename_i hl'
        split at h
        · cases h; exact layF_hi _ _ ps _ hl'
        · cases h
      · cases h
    · split at h
      · split at h
        · rename_i hl'
          split at h
          · cases h; exact layL_hi _ _ ps _ hl'
          · cases h
        · cases h
      · cases h
    · cases h
  | t, .iface n d, l, h => by
    simp only [layA] at h
    split at h <;> cases h
    rfl
  | t, .map es, l, h => by
    simp only [layA] at h
    split at h <;> cases h
    rfl
  | t, .held x, l, h => by simp [layA] at h
theorem layE_hi {P : Program} : ∀ (t : TypeId) (ds : List (DataW Unit)) (l : List (List AV)), layE P t ds = some l → hiE l = 0
  | t, [], l, h => by simp only [layE, Option.some.injEq] at h; subst h; rfl
  | t, d :: ds, l, h => by
    simp only [layE] at h
    split at h
    · rename_i a b ha hb
      cases h
      simp [hiE, layA_hi t d a ha, layE_hi t ds b hb]
    · cases h
theorem layL_hi {P : Program} : ∀ (t : TypeId) (sz : Nat) (ds : List (DataW Unit)) (l : List AV), layL P t sz ds = some l → hiL l = 0
  | t, sz, [], l, h => by simp only [layL, Option.some.injEq] at h; subst h; rfl
  | t, sz, d :: ds, l, h => by
    simp only [layL] at h
    split at h
    · rename_i a b ha hb
      split at h
      · cases h
        have := layA_hi t d a ha
        have := layL_hi t sz ds b hb
        exact hiL_app a b (by assumption) (by assumption)
      · cases h
    · cases h
theorem layF_hi {P : Program} : ∀ (off : Nat) (fs : List Field) (ds : List (DataW Unit)) (l : List AV), layF P off fs ds = some l → hiL l = 0
  | off, [], [], l, h => by simp only [layF, Option.some.injEq] at h; subst h; rfl
  | off, _ :: _, [], l, h => by simp [layF] at h
  | off, [], _ :: _, l, h => by simp [layF] at h
  | off, f :: fs, d :: ds, l, h => by
    simp only [layF] at h
    split at h
    · rename_i a ha
      split at h
      · rename_i b hb
        split at h
        · cases h
          have := layA_hi f.type d a ha
          have := layF_hi _ fs ds b hb
          exact hiL_app a b (by assumption) (by assumption)
        · cases h
      · cases h
    · cases h
theorem hiL_app : ∀ (a b : List AV), hiL a = 0 → hiL b = 0 → hiL (a ++ b) = 0
  | [], b, _, h => h
  | c :: a, b, h1, h2 => by
    simp only [hiL, List.cons_append] at h1 ⊢
    have h3 : c.hi = 0 := Nat.le_zero.1 (Nat.le_trans (Nat.le_max_left _ _) (Nat.le_of_eq h1))
    have h4 : hiL a = 0 := Nat.le_zero.1 (Nat.le_trans (Nat.le_max_right _ _) (Nat.le_of_eq h1))
    rw [h3, hiL_app a b h4 h2]
    rfl
end

/-! ### the start -/
def tabGet : List (Nat × TypeId × DataW Unit) → Nat → Option (TypeId × DataW Unit)
  | [], _ => none
  | (h, t, d) :: r, g => match Nat.beq h g with
    | true => some (t, d)
    | false => tabGet r g

def objOf (P : Program) (tab : List (Nat × TypeId × DataW Unit)) (E : Nat → TypeId) (g : Nat) : AO :=
  match tabGet tab g with
  | some (t, d) => match layA P t d with
    | some l => .cells l (E g)
    | none => .dead
  | none => .dead

def downFrom : Nat → (Nat → AO) → List AO
  | 0, _ => []
  | n + 1, f => f n :: downFrom n f

def start (P : Program) (tab : List (Nat × TypeId × DataW Unit)) (E : Nat → TypeId) (ng : Nat) : St :=
  { heap := downFrom ng (objOf P tab E), next := ng, tok := 0, live := [], wm := 0 }

theorem downFrom_len (f : Nat → AO) : ∀ n, (downFrom n f).length = n
  | 0 => rfl
  | n + 1 => by simp [downFrom, downFrom_len f n]

theorem downFrom_get (f : Nat → AO) : ∀ (n b : Nat), b < n → (downFrom n f).getD (n - 1 - b) .dead = f b
  | 0, b, h => by omega
  | n + 1, b, h => by
    simp only [downFrom]
    by_cases hb : b = n
    · subst hb; simp
    · rw [show n + 1 - 1 - b = (n - 1 - b) + 1 by omega, List.getD_cons_succ]
      exact downFrom_get f n b (by omega)

theorem start_get (P : Program) (tab : List (Nat × TypeId × DataW Unit)) (E : Nat → TypeId) (ng b : Nat) : (start P tab E ng).get b = if b < ng then objOf P tab E b else .dead := by
  rw [St.get_def]
  unfold start
  simp only
  split
  · rename_i h; exact downFrom_get _ ng b h
  · rfl

theorem objOf_hi (P : Program) (tab : List (Nat × TypeId × DataW Unit)) (E : Nat → TypeId) (g : Nat) : (objOf P tab E g).hi = 0 := by
  unfold objOf
  split
  · split
    · rename_i l hl
      exact layA_hi _ _ _ hl
    · rfl
  · rfl

def G0 (σ : Nat → Value) (w : World) (ng : Nat) : Ctx := { σ := σ, ρ := fun b => b, N := ng, τ := fun _ => (0, 0), M := 0, I := fun b _ => b < w.heap.size }

/-- The table is told as the laid list has it. -/
def TabOk (P : Program) (laid : List (String × DataW Unit)) (tab : List (Nat × TypeId × DataW Unit)) : Prop :=
  ∀ g t d, tabGet tab g = some (t, d) → ∃ n, (n, d) ∈ laid ∧ P.globalNamed n = some g ∧ (P.globals[g]?).map (·.type) = some t

theorem laidVars_mem {P : Program} {w : World} : ∀ {laid : List (String × DataW Unit)} {ps : List MemPlace}, DataW.LaidVars P w laid ps → ∀ n d, (n, d) ∈ laid →
    ∃ g t cs fuel p, P.globalNamed n = some g ∧ (P.globals[g]?).map (·.type) = some t ∧ w.var? P n = some cs ∧ DataW.trod (fun _ => ()) P w 0 (fun _ => true) false fuel t cs.toList = some (d, p) ∧ ∀ x, x ∈ MemPlace.row ⟨g, 0, none⟩ cs.size → x ∈ ps
  | [], _, _, _, _, h => by simp at h
  | (m, e) :: r, ps, h, n, d, hm => by
    obtain ⟨g, t, cs, fuel, p, q, h1, h2, h3, h4, h5, rfl⟩ := h
    rcases List.mem_cons.1 hm with he | hm
    · cases he
      exact ⟨g, t, cs, fuel, p, h1, h2, h3, h4, fun x hx => by simp [hx]⟩
    · obtain ⟨g', t', cs', fuel', p', k1, k2, k3, k4, k5⟩ := laidVars_mem h5 n d hm
      exact ⟨g', t', cs', fuel', p', k1, k2, k3, k4, fun x hx => by simp [k5 x hx]⟩

def elemOf (w : World) (g : Nat) : TypeId := match w.heap[g]? with
  | some (.cells _ e _) => e
  | _ => 0

theorem start_rel {P : Program} {laid : List (String × DataW Unit)} {tab : List (Nat × TypeId × DataW Unit)} {w : World} {ng : Nat} (σ : Nat → Value) (hl : laidMet P laid w) (ht : TabOk P laid tab) (hng : ng ≤ w.heap.size) :
    WRel ng w.heap.size w (G0 σ w ng) w (start P tab (elemOf w) ng) := by
  obtain ⟨ps, hv, _, hps⟩ := hl
  have hdead : ∀ b, ng ≤ b → (start P tab (elemOf w) ng).get b = .dead := fun b hb => by rw [start_get, if_neg (by omega)]
  constructor
  · exact Below.refl _ _
  · exact Nat.le_refl _
  · rfl
  · rfl
  · exact downFrom_len _ _
  · exact Nat.le_refl _
  · exact hng
  · exact fun _ _ => rfl
  · intro b hb
    have hbn : b < ng := by
      rcases Nat.lt_or_ge b ng with h | h
      · exact h
      · exact absurd (hdead b h) hb
    rw [start_get, if_pos hbn] at hb ⊢
    unfold objOf at hb ⊢
    split at hb
    · rename_i t d hg
      split at hb
      · rename_i l hla
        obtain ⟨n, hm, hn, hty⟩ := ht b t d hg
        obtain ⟨g', t', cs, fuel, p, h1, h2, h3, h4, h5⟩ := laidVars_mem hv n d hm
        rw [hn] at h1
        cases h1
        rw [hty] at h2
        cases h2
        simp only [World.var?, hn, Option.bind_some] at h3
        split at h3
        · rename_i c e fz hh
          cases h3
          have hel : elemOf w b = e := by unfold elemOf; rw [hh]
          refine ⟨_, hh, cs, fz, by rw [hel], layA_sound (G := G0 σ w ng) (fun _ _ h => h) _ _ _ _ _ _ h4 hla, fun j hj => ?_⟩
          · have := (hps b j (h5 _ (by simp only [MemPlace.row, List.mem_map, List.mem_range]; exact ⟨j, hj, by simp⟩))).1
            obtain ⟨c', t', hc⟩ := this
            rw [hh] at hc
            cases hc
            simp
        · cases h3
      · exact absurd rfl hb
    · exact absurd rfl hb
  · intro b hb hd; exact absurd (hdead b hb) hd
  · intro b c hb hc hd; exact absurd (hdead b hb) hd
  · intro r hr; cases hr
  · exact List.Pairwise.nil
  · intro b o h; exact h
  · intro b hb; rw [hdead b hb]; exact Nat.zero_le _
  · intro b hb; rw [start_get, if_pos hb]; exact objOf_hi _ _ _ _
  · trivial

/-! ### closed calls -/
def okM {α : Type} : M α → Bool
  | .ret _ => true
  | .pick n k => (List.range n).all fun i => okM (k i)
  | _ => false

theorem okM_all {α : Type} : ∀ (m : M α), okM m = true → m.all fun _ => True
  | .ret a, _ => trivial
  | .pick n k, h => fun i hi => by
    simp only [okM, List.all_eq_true, List.mem_range] at h
    exact okM_all (k i) (h i hi)
  | .fail, h => by simp [okM] at h
  | .stop _ _, h => by simp [okM] at h

def isTrue (v : AV) (s : St) : Ans := match v with
  | .val (.bool true) => .ret (v, s)
  | _ => .fail

/-- A call without arguments that the interpreter answers with true. -/
theorem closed_true {T : Mach} (hT : MachOk T) {skip : FuncId → Bool} (hF : FuncsOk T.P skip) {laid : List (String × DataW Unit)} {tab : List (Nat × TypeId × DataW Unit)} (ht : TabOk T.P laid tab) {f n : Nat}
    (hrun : ∀ E, okM (callN T skip n f [] (start T.P tab E T.ng) isTrue) = true) {w : World} (hst : T.st w.heap.size w) (hl : laidMet T.P laid w) (hng : T.ng ≤ w.heap.size) :
    Calls T.P f #[] w fun e w' => e = .returned (.bool true) ∧ Below w.heap.size w w' := by
  have hw := start_rel T.σ hl ht hng
  have := (callN_sound hT hF n f [] _ isTrue _ _ _ _ _ #[] (okM_all _ (hrun (elemOf w))) ⟨rfl, hst⟩ hw (by simp [VRL])).2
  refine this.mono fun e w' h => ?_
  obtain ⟨y, G', v, s', rfl, h1, h2, h3, _⟩ := h
  unfold isTrue at h1
  split at h1
  · simp only [VR] at h2
    subst h2
    exact ⟨rfl, h3.below⟩
  · exact h1.elim

end
end Go.AVM

namespace Go.AVM
open Go.RowKit
noncomputable section

/-! ### the closed facts of a program, as Bools -/
def namesOk (P : Program) : Bool := P.funcs.toList.all fun f => !(f.name == "runtime.NumGoroutine")

def okFrom (skip : FuncId → Bool) : Nat → List Func → Bool
  | _, [] => true
  | i, f :: r => (match skip i with | true => true | false => match f.body with | some c => okCode f.ntmps c | none => true) && okFrom skip (i + 1) r

theorem okFrom_get {skip : FuncId → Bool} : ∀ (l : List Func) (i : Nat), okFrom skip i l = true → ∀ (j : Nat) (fn : Func) (c : Code), l[j]? = some fn → skip (i + j) = false → fn.body = some c → okCode fn.ntmps c = true
  | [], _, _, j, fn, c, h, _, _ => by simp at h
  | f :: r, i, h, j, fn, c, hj, hs, hb => by
    simp only [okFrom, Bool.and_eq_true] at h
    cases j with
    | zero =>
      simp at hj
      subst hj
      have := h.1
      rw [Nat.add_zero] at hs
      rw [hs, hb] at this
      exact this
    | succ j => exact okFrom_get r (i + 1) h.2 j fn c (by simpa using hj) (by rw [show i + 1 + j = i + (j + 1) by omega]; exact hs) hb

theorem funcsOk_of {P : Program} {skip : FuncId → Bool} (h : okFrom skip 0 P.funcs.toList = true) : FuncsOk P skip := fun f fn c hf hs hb =>
  okFrom_get _ 0 h f fn c (by simpa using hf) (by rw [Nat.zero_add]; exact hs) hb

theorem machOk_of {P : Program} {ng fuel : Nat} {kind : FuncId → Nat} {mu : FuncId → Tmp → Bool} {keep : FuncId → Nat → Option (List Tmp)} {pops : FuncId → Bool} {frc : Bool}
    (h1 : Nat.ble P.globals.size ng = true) (h2 : namesOk P = true) (h3 : P.follows .mixedOrders = true) (h4 : ExtOk P kind) :
    MachOk { P := P, ng := ng, ext := extF kind, extE := extG P kind, mu := mu, keep := keep, pops := pops, fuel := fuel, frc := frc, σ := fun _ => undef, st := fun _ _ => True, ora := fun _ _ => none } where
  ng := Nat.le_of_ble_eq_true h1
  ext := extF_sound h4
  extE := extG_sound h4
  ends f hf := by
    simp only [namesOk, List.all_eq_true, Bool.not_eq_true'] at h2
    exact h2 f hf
  mixed := h3
  ora := fun _ _ _ h => by cases h

/-- The table, by the names. -/
def tabOf (P : Program) : List (String × DataW Unit) → List (Nat × TypeId × DataW Unit)
  | [] => []
  | (n, d) :: r => match P.globalNamed n with
    | some g => match (P.globals[g]?).map (·.type) with
      | some t => (g, t, d) :: tabOf P r
      | none => tabOf P r
    | none => tabOf P r

theorem tabGet_mem : ∀ (tab : List (Nat × TypeId × DataW Unit)) (g t : Nat) (d : DataW Unit), tabGet tab g = some (t, d) → (g, t, d) ∈ tab
  | (h, t', d') :: r, g, t, d, hg => by
    simp only [tabGet] at hg
    split at hg
    · rename_i hb
      have := Nat.eq_of_beq_eq_true hb
      subst this
      cases hg
      simp
    · exact List.mem_cons_of_mem _ (tabGet_mem r g t d hg)

theorem tabOf_mem {P : Program} : ∀ (laid : List (String × DataW Unit)) (g t : Nat) (d : DataW Unit), (g, t, d) ∈ tabOf P laid → ∃ n, (n, d) ∈ laid ∧ P.globalNamed n = some g ∧ (P.globals[g]?).map (·.type) = some t
  | [], _, _, _, h => by simp [tabOf] at h
  | (n, d') :: r, g, t, d, h => by
    have next : (g, t, d) ∈ tabOf P r → ∃ m, (m, d) ∈ (n, d') :: r ∧ P.globalNamed m = some g ∧ (P.globals[g]?).map (·.type) = some t := fun h => by
      obtain ⟨m, h1, h2⟩ := tabOf_mem r g t d h
      exact ⟨m, List.mem_cons_of_mem _ h1, h2⟩
    simp only [tabOf] at h
    split at h
    · rename_i g' hg
      split at h
      · rename_i t' ht
        rcases List.mem_cons.1 h with he | h
        · cases he
          exact ⟨n, by simp, hg, ht⟩
        · exact next h
      · exact next h
    · exact next h

theorem tabOk_of {P : Program} {laid : List (String × DataW Unit)} : TabOk P laid (tabOf P laid) := fun g t d h => tabOf_mem laid g t d (tabGet_mem _ g t d h)

end
end Go.AVM

namespace Go.AVM
open Go.RowKit
noncomputable section

/-! ### a world that has grown -/
theorem Ext.grow {ng B : Nat} {w0 w w' : World} {G : Ctx} {s : St} (h : WRel ng B w0 G w s) (b : Below w.heap.size w w') : Ext G w G w' where
  n := Nat.le_refl _
  m := Nat.le_refl _
  ρ _ _ := rfl
  τ _ _ := rfl
  i _ _ h := h
  cell k o hi := by simp only [World.cell?, b.block k (h.ib k o hi)]
  size k c e fz hh := ⟨c, fz, by rw [b.block k (Array.getElem?_eq_some_iff.1 hh).1]; exact hh, rfl⟩

theorem WRel.grow {ng B : Nat} {w0 w w' : World} {G : Ctx} {s : St} (h : WRel ng B w0 G w s) (b : Below w.heap.size w w') : WRel ng B w0 G w' s := by
  have e := Ext.grow h b
  have same : ∀ (k : Nat) (o : Obj), w.heap[k]? = some o → w'.heap[k]? = some o := fun k o hk => by rw [b.block k (Array.getElem?_eq_some_iff.1 hk).1]; exact hk
  constructor
  · exact h.below.trans (b.mono h.base)
  · exact Nat.le_trans h.base b.size
  · exact h.n
  · exact h.m
  · exact h.len
  · exact h.ngle
  · exact h.ngB
  · exact h.glob
  · intro k hk
    obtain ⟨o, h1, h2⟩ := h.obj k hk
    exact ⟨o, same _ _ h1, OR.ext e _ _ h2⟩
  · exact h.own
  · exact h.inj
  · intro r hr
    obtain ⟨h1, h2, h3, ⟨c, el, fz, h4, h5⟩, h6⟩ := h.live r hr
    exact ⟨h1, h2, h3, ⟨c, el, fz, same _ _ h4, h5⟩, h6⟩
  · exact h.apart
  · intro k o hi; exact Nat.lt_of_lt_of_le (h.ib k o hi) b.size
  · exact h.wm
  · exact h.gwm
  · exact DoneR.ext e _ h.done

/-- The start, seen from a later world. -/
theorem start_later {P : Program} {laid : List (String × DataW Unit)} {tab : List (Nat × TypeId × DataW Unit)} {w0 w : World} {ng : Nat} (σ : Nat → Value) (hl : laidMet P laid w0) (ht : TabOk P laid tab) (hng : ng ≤ w0.heap.size) (b : Below w0.heap.size w0 w) :
    WRel ng w.heap.size w (G0 σ w0 ng) w (start P tab (elemOf w0) ng) := by
  have h := (start_rel σ hl ht hng).grow b
  have hdead : ∀ k, ng ≤ k → (start P tab (elemOf w0) ng).get k = .dead := fun k hk => by rw [start_get, if_neg (by omega)]
  constructor
  · exact Below.refl _ _
  · exact Nat.le_refl _
  · exact h.n
  · exact h.m
  · exact h.len
  · exact h.ngle
  · exact Nat.le_trans hng b.size
  · exact h.glob
  · exact h.obj
  · intro k hk hd; exact absurd (hdead k hk) hd
  · exact h.inj
  · intro r hr; cases hr
  · exact h.apart
  · exact h.ib
  · exact h.wm
  · exact h.gwm
  · trivial

/-! ### a call that is known to answer true -/
def hookK (kn : Nat) (C : Oracle) : Oracle := fun f args s k => match Nat.beq f kn with
  | true => match args with
    | [] => k (.val (.bool true)) s
    | _ => .fail
  | false => C f args s k

/-- Where all starts: the laid variables. -/
def laidSt (P : Program) (laid : List (String × DataW Unit)) (ng : Nat) (B : Nat) (w0 : World) : Prop := B = w0.heap.size ∧ laidMet P laid w0 ∧ ng ≤ w0.heap.size

theorem closed_later {T : Mach} (hT : MachOk T) {skip : FuncId → Bool} (hF : FuncsOk T.P skip) {laid : List (String × DataW Unit)} {tab : List (Nat × TypeId × DataW Unit)} (ht : TabOk T.P laid tab) (hst : ∀ B w, T.st B w) {f n : Nat}
    (hrun : ∀ E, okM (callN T skip n f [] (start T.P tab E T.ng) isTrue) = true) {B : Nat} {w0 w : World} (hl : laidSt T.P laid T.ng B w0) (hb : Below B w0 w) :
    (callFunc f #[]).run T.P w = .ok (.enter f #[]) w ∧ Calls T.P f #[] w fun e w' => e = .returned (.bool true) ∧ Below w.heap.size w w' := by
  obtain ⟨rfl, hl1, hl2⟩ := hl
  have hw := start_later T.σ hl1 ht hl2 hb
  obtain ⟨h1, h2⟩ := callN_sound hT hF n f [] _ isTrue _ _ _ _ _ #[] (okM_all _ (hrun (elemOf w0))) ⟨rfl, hst _ _⟩ hw (by simp [VRL])
  refine ⟨h1, h2.mono fun e w' h => ?_⟩
  obtain ⟨y, G', v, s', rfl, h1, h2, h3, _⟩ := h
  unfold isTrue at h1
  split at h1
  · simp only [VR] at h2
    subst h2
    exact ⟨rfl, h3.below⟩
  · exact h1.elim

theorem hookK_sound {T : Mach} {C : Oracle} (hC : OracleOk T C) {kn : Nat}
    (hk : ∀ B w0 w, T.st B w0 → Below B w0 w → (callFunc kn #[]).run T.P w = .ok (.enter kn #[]) w ∧ Calls T.P kn #[] w fun e w' => e = .returned (.bool true) ∧ Below w.heap.size w w') : OracleOk T (hookK kn C) := by
  intro f args s k R B w0 G w xs hq hfit hw hx
  unfold hookK at hq
  split at hq
  · rename_i hb
    have := Nat.eq_of_beq_eq_true hb
    subst this
    split at hq
    · simp only [VRL] at hx
      have : xs = #[] := by cases xs; simp at hx; rw [hx]
      subst this
      obtain ⟨h1, h2⟩ := hk B w0 w hfit.2 hw.below
      refine ⟨h1, h2.mono fun e w' h => ?_⟩
      obtain ⟨rfl, hbl⟩ := h
      exact ⟨_, G, _, s, rfl, hq, by simp [VR], hw.grow hbl, Ext.grow hw hbl⟩
    · exact hq.elim
  · exact hC f args s k R B w0 G w xs hq hfit hw hx

/-- The law: a call whose answer is true, whatever the symbolic scalars are. -/
theorem law_true {T : Mach} (hT : MachOk T) {skip : FuncId → Bool} (hF : FuncsOk T.P skip) {C : Oracle} (hC : OracleOk T C) {laid : List (String × DataW Unit)} {tab : List (Nat × TypeId × DataW Unit)} (ht : TabOk T.P laid tab) {f : Nat} {args : List AV}
    (hrun : ∀ E, okM (enterK T skip C f args (start T.P tab E T.ng) isTrue) = true) {w : World} (hst : T.st w.heap.size w) (hl : laidMet T.P laid w) (hng : T.ng ≤ w.heap.size) {xs : Array Value} (hx : VRL (G0 T.σ w T.ng) w args xs.toList) :
    Calls T.P f xs w fun e w' => e = .returned (.bool true) ∧ Below w.heap.size w w' := by
  have hw := start_rel T.σ hl ht hng
  refine (enterK_sound hT hF hC f args _ isTrue _ _ _ _ _ xs (okM_all _ (hrun (elemOf w))) ⟨rfl, hst⟩ hw hx).2.mono fun e w' h => ?_
  obtain ⟨y, G', v, s', rfl, h1, h2, h3, _⟩ := h
  unfold isTrue at h1
  split at h1
  · simp only [VR] at h2
    subst h2
    exact ⟨rfl, h3.below⟩
  · exact h1.elim

end
end Go.AVM

namespace Go.AVM
open Go.RowKit
noncomputable section

/-! ### facts on symbolic scalars -/
structure Fact where
  on : Op → Bool
  args : List AV
  res : AV

/-- Does a value fit a pattern? -/
def matA (p v : AV) : Bool :=
  match p with
  | .any => true
  | .nan k => match v with
    | .nan j => decide (k = j)
    | _ => false
  | p => beqA p v
def matL : List AV → List AV → Bool
  | [], [] => true
  | p :: ps, v :: vs => matA p v && matL ps vs
  | _, _ => false

theorem matA_VR {G : Ctx} {w : World} {p v : AV} {x : Value} (h : matA p v = true) (hx : VR G w v x) : VR G w p x := by
  unfold matA at h
  split at h
  · simp [VR]
  · split at h
    · simp only [decide_eq_true_eq] at h; subst h; exact hx
    · cases h
  · rw [beqA_eq _ _ h]; exact hx

theorem matL_VR {G : Ctx} {w : World} : ∀ {ps vs : List AV} {xs : List Value}, matL ps vs = true → VRL G w vs xs → VRL G w ps xs
  | [], [], _, _, h => h
  | p :: ps, v :: vs, xs, h, hx => by
    simp only [matL, Bool.and_eq_true] at h
    simp only [VRL] at hx ⊢
    obtain ⟨y, ys, h1, h2, h3⟩ := hx
    exact ⟨y, ys, h1, matA_VR h.1 h2, matL_VR h.2 h3⟩
  | [], _ :: _, _, h, _ => by simp [matL] at h
  | _ :: _, [], _, h, _ => by simp [matL] at h

def oraOf (o : Oper) (args : List AV) : List Fact → Option AV
  | [] => none
  | f :: r => match f.on o.op && matL f.args args with
    | true => some f.res
    | false => oraOf o args r

def FactOk (P : Program) (σ : Nat → Value) (f : Fact) : Prop := ∀ (o : Oper) (G : Ctx) (w : World) (e : Operand → Value), f.on o.op = true → G.σ = σ → VRL G w f.args (o.op.operands.toList.map e) →
  ∃ y d, (execOp e o).run P w = .ok (.value y) { w with drawn := d } ∧ VR G w f.res y

theorem oraOf_sound {P : Program} {σ : Nat → Value} : ∀ (fs : List Fact), (∀ f, f ∈ fs → FactOk P σ f) → ∀ (o : Oper) (e : Operand → AV) (v : AV), oraOf o (o.op.operands.toList.map e) fs = some v → ∀ (G : Ctx) (w : World) (e' : Operand → Value), G.σ = σ → (∀ x, x ∈ o.op.operands → VR G w (e x) (e' x)) →
    ∃ y d, (execOp e' o).run P w = .ok (.value y) { w with drawn := d } ∧ VR G w v y
  | [], _, o, e, v, h, _, _, _, _, _ => by cases h
  | f :: r, hf, o, e, v, h, G, w, e', hσ, he => by
    simp only [oraOf] at h
    split at h
    · rename_i hb
      simp only [Bool.and_eq_true] at hb
      cases h
      exact hf f (by simp) o G w e' hb.1 hσ (matL_VR hb.2 (VRL_map _ fun x hx => he x (by simpa using hx)))
    · exact oraOf_sound r (fun g hg => hf g (by simp [hg])) o e v h G w e' hσ he

/-- A machine with facts, and a start. -/
def machOf (P : Program) (ng fuel : Nat) (kind : FuncId → Nat) (mu : FuncId → Tmp → Bool) (st : Nat → World → Prop) (σ : Nat → Value) (fs : List Fact) : Mach :=
  { P := P, ng := ng, ext := extF kind, extE := extG P kind, mu := mu, keep := fun _ _ => none, pops := fun _ => true, fuel := fuel, frc := true, σ := σ, st := st, ora := fun o args => oraOf o args fs }

theorem machOf_ok {P : Program} {ng fuel : Nat} {kind : FuncId → Nat} {mu : FuncId → Tmp → Bool} {st : Nat → World → Prop} {σ : Nat → Value} {fs : List Fact}
    (h1 : Nat.ble P.globals.size ng = true) (h2 : namesOk P = true) (h3 : P.follows .mixedOrders = true) (h4 : ExtOk P kind) (h5 : ∀ f, f ∈ fs → FactOk P σ f) : MachOk (machOf P ng fuel kind mu st σ fs) where
  ng := Nat.le_of_ble_eq_true h1
  ext := extF_sound h4
  extE := extG_sound h4
  ends f hf := by
    simp only [namesOk, List.all_eq_true, Bool.not_eq_true'] at h2
    exact h2 f hf
  mixed := h3
  ora o e v h B w0 G w s e' hfit _ he := oraOf_sound fs h5 o e v h G w e' hfit.1 he

end
end Go.AVM

namespace Go.AVM
open Go.RowKit
noncomputable section

/-! ### values without names -/
mutual
def plainA : AV → Bool
  | .val _ => true
  | .sym _ => true
  | .tup l => plainL l
  | .agg l => plainL l
  | _ => false
def plainL : List AV → Bool
  | [] => true
  | v :: l => plainA v && plainL l
end
mutual
def den (σ : Nat → Value) : AV → Value
  | .val v => v
  | .sym i => σ i
  | .tup l => .tuple (denL σ l).toArray
  | .agg l => .agg (denL σ l).toArray
  | _ => undef
def denL (σ : Nat → Value) : List AV → List Value
  | [] => []
  | v :: l => den σ v :: denL σ l
end

mutual
theorem den_eq {G : Ctx} {w : World} : ∀ (v : AV) (x : Value), plainA v = true → VR G w v x → x = den G.σ v
  | .val v, x, _, h => by simpa [VR, den] using h
  | .sym i, x, _, h => by simp only [VR] at h; simp only [den]; exact h.1
  | .tup l, x, hp, h => by
    simp only [VR] at h
    obtain ⟨xs, rfl, hl⟩ := h
    simp only [plainA] at hp
    simp only [den]
    rw [← denL_eq l _ hp hl]
  | .agg l, x, hp, h => by
    simp only [VR] at h
    obtain ⟨xs, rfl, hl⟩ := h
    simp only [plainA] at hp
    simp only [den]
    rw [← denL_eq l _ hp hl]
  | .any, _, hp, _ => by simp [plainA] at hp
  | .nan _, _, hp, _ => by simp [plainA] at hp
  | .sl _ _ _, _, hp, _ => by simp [plainA] at hp
  | .ptr _ _, _, hp, _ => by simp [plainA] at hp
  | .ep _ _, _, hp, _ => by simp [plainA] at hp
  | .ms _ _ _ _, _, hp, _ => by simp [plainA] at hp
  | .map _, _, hp, _ => by simp [plainA] at hp
  | .fn _ _ _, _, hp, _ => by simp [plainA] at hp
  | .ifc _ _, _, hp, _ => by simp [plainA] at hp
  | .raw _ _ _ _, _, hp, _ => by simp [plainA] at hp
  | .sd _ _ _ _, _, hp, _ => by simp [plainA] at hp
  | .pd _ _ _ _, _, hp, _ => by simp [plainA] at hp
  | .pp _ _ _, _, hp, _ => by simp [plainA] at hp
  | .mx _ _ _, _, hp, _ => by simp [plainA] at hp
theorem denL_eq {G : Ctx} {w : World} : ∀ (l : List AV) (xs : List Value), plainL l = true → VRL G w l xs → xs = denL G.σ l
  | [], xs, _, h => by simpa [VRL, denL] using h
  | v :: l, xs, hp, h => by
    simp only [VRL] at h
    obtain ⟨y, ys, rfl, h1, h2⟩ := h
    simp only [plainL, Bool.and_eq_true] at hp
    simp only [denL]
    rw [den_eq v y hp.1 h1, denL_eq l ys hp.2 h2]
end

/-- The symbols in it stand for values of one cell. -/
def symsOk (σ : Nat → Value) : List AV → Prop
  | [] => True
  | v :: l => (match v with | .sym i => valS (σ i) = true | .val _ => True | _ => False) ∧ symsOk σ l

theorem symsOk_VRL {G : Ctx} {w : World} : ∀ (l : List AV), symsOk G.σ l → VRL G w l (denL G.σ l)
  | [], _ => by simp [VRL, denL]
  | v :: l, h => by
    simp only [symsOk] at h
    simp only [VRL, denL]
    refine ⟨_, _, rfl, ?_, symsOk_VRL l h.2⟩
    have := h.1
    split at this
    · simp only [VR, den]; exact ⟨by trivial, this⟩
    · simp [VR, den]
    · exact this.elim

def isA (v : AV) (u : AV) (s : St) : Ans := match beqA v u with
  | true => .ret (u, s)
  | false => .fail

/-- WHAT A CALL ANSWERS, without the laid variables. -/
theorem call_is {T : Mach} (hT : MachOk T) {skip : FuncId → Bool} (hF : FuncsOk T.P skip) {C : Oracle} (hC : OracleOk T C) {f : Nat} {args : List AV} {v : AV} (hv : plainA v = true) (hs : symsOk T.σ args)
    (hrun : okM (enterK T skip C f args (start T.P [] (fun _ => 0) T.ng) (isA v)) = true) {w : World} (hst : T.st w.heap.size w) (hng : T.ng ≤ w.heap.size) :
    Calls T.P f (denL T.σ args).toArray w fun e w' => e = .returned (den T.σ v) ∧ Below w.heap.size w w' := by
  have hw : WRel T.ng w.heap.size w (G0 T.σ w T.ng) w (start T.P [] (fun _ => 0) T.ng) := by
    have hdead : ∀ b, (start T.P [] (fun _ => 0) T.ng).get b = .dead := fun b => by
      rw [start_get]
      split
      · rfl
      · rfl
    constructor
    · exact Below.refl _ _
    · exact Nat.le_refl _
    · rfl
    · rfl
    · exact downFrom_len _ _
    · exact Nat.le_refl _
    · exact hng
    · exact fun _ _ => rfl
    · intro b hb; exact absurd (hdead b) hb
    · intro b _ hd; exact absurd (hdead b) hd
    · intro b c _ _ hd; exact absurd (hdead b) hd
    · intro r hr; cases hr
    · exact List.Pairwise.nil
    · intro b o h; exact h
    · intro b hb; rw [hdead b]; exact Nat.zero_le _
    · intro b hb; rw [hdead b]; rfl
    · trivial
  refine (enterK_sound hT hF hC f args _ (isA v) _ _ _ _ _ _ (okM_all _ hrun) ⟨rfl, hst⟩ hw (by rw [List.toList_toArray]; exact symsOk_VRL (G := G0 T.σ w T.ng) (w := w) args hs)).2.mono fun e w' h => ?_
  obtain ⟨y, G', u, s', rfl, h1, h2, h3, h4⟩ := h
  unfold isA at h1
  split at h1
  · rename_i hb
    have := beqA_eq _ _ hb
    subst this
    have := den_eq v y hv h2
    rw [h4.σ] at this
    exact ⟨by rw [this]; rfl, h3.below⟩
  · exact h1.elim

/-! ### calls that are known -/
structure Hook where
  f : Nat
  args : List AV
  res : AV

noncomputable def hookT (hs : List Hook) (C : Oracle) : Oracle := fun f args s k => hs.rec (C f args s k) fun h _ ih => match Nat.beq f h.f && matL h.args args with
  | true => k h.res s
  | false => ih

/-- What a hook says of the machine. -/
def HookOk (T : Mach) (h : Hook) : Prop := ∀ (B : Nat) (w0 : World) (G : Ctx) (w : World) (s : St) (xs : Array Value), Fit T B w0 G → WRel T.ng B w0 G w s → VRL G w h.args xs.toList →
  (callFunc h.f xs).run T.P w = .ok (.enter h.f xs) w ∧ Calls T.P h.f xs w fun e w' => ∃ y, e = .returned y ∧ (∀ G' w'', G'.σ = T.σ → VR G' w'' h.res y) ∧ Below w.heap.size w w'

theorem hookT_sound {T : Mach} {C : Oracle} (hC : OracleOk T C) : ∀ (hs : List Hook), (∀ h, h ∈ hs → HookOk T h) → OracleOk T (hookT hs C)
  | [], _ => hC
  | h :: r, hh => fun f args s k R B w0 G w xs hq hfit hw hx => by
    change (match Nat.beq f h.f && matL h.args args with
      | true => k h.res s
      | false => hookT r C f args s k : Ans).all R at hq
    split at hq
    · rename_i hb
      simp only [Bool.and_eq_true] at hb
      have := Nat.eq_of_beq_eq_true hb.1
      subst this
      obtain ⟨h1, h2⟩ := hh h (by simp) B w0 G w s xs hfit hw (matL_VR hb.2 hx)
      refine ⟨h1, h2.mono fun e w' he => ?_⟩
      obtain ⟨y, rfl, hy, hbl⟩ := he
      exact ⟨y, G, h.res, s, rfl, hq, hy G w' hfit.1, hw.grow hbl, Ext.grow hw hbl⟩
    · exact hookT_sound hC r (fun g hg => hh g (by simp [hg])) f args s k R B w0 G w xs hq hfit hw hx

end
end Go.AVM

namespace Go.AVM
open Go.RowKit
noncomputable section

/-! ### facts on floats -/
def kBin (b : BinOp) : Op → Bool
  | .binOp c _ _ _ _ => decide (b = c)
  | _ => false
def kUn (b : UnOp) : Op → Bool
  | .unOp c _ _ => decide (b = c)
  | _ => false
def kCall : Op → Bool
  | .call _ => true
  | _ => false

/-- What a pattern stands for. -/
def Means (σ : Nat → Value) (p : AV) (x : Value) : Prop := ∀ (G : Ctx) (w : World), G.σ = σ → ∀ y, VR G w p y → y = x

theorem means_sym {σ : Nat → Value} {i : Nat} {x : Value} (h : σ i = x) : Means σ (.sym i) x := fun G w hσ y hy => by
  simp only [VR] at hy
  rw [hy.1, hσ, h]
theorem means_val {σ : Nat → Value} {x : Value} : Means σ (.val x) x := fun G w hσ y hy => by simpa [VR] using hy

theorem fact_bin {P : Program} {σ : Nat → Value} {b : BinOp} {p q r : AV} {x y : Value} (hp : Means σ p x) (hq : Means σ q y)
    (h : ∀ (t : TypeId) (ox oy : Operand) (G : Ctx) (w : World), G.σ = σ → ∃ z d, (do eqGuard b t ox oy x y; binOp b t x y).run P w = .ok z { w with drawn := d } ∧ VR G w r z) : FactOk P σ ⟨kBin b, [p, q], r⟩ := by
  intro o G w e hon hσ hx
  simp only at hon hx
  unfold kBin at hon
  split at hon
  · rename_i c t ox oy yt hop
    simp only [decide_eq_true_eq] at hon
    subst hon
    rw [hop] at hx
    simp only [Op.operands, VRL, List.map_cons, List.map_nil] at hx
    obtain ⟨y1, ys, h1, h2, y2, ys2, h3, h4, h5⟩ := hx
    simp only [List.cons.injEq] at h1
    obtain ⟨rfl, rfl⟩ := h1
    simp only [List.cons.injEq] at h3
    obtain ⟨rfl, rfl⟩ := h3
    have e1 := hp G w hσ _ h2
    have e2 := hq G w hσ _ h4
    obtain ⟨z, d, g1, g2⟩ := h t ox oy G w hσ
    refine ⟨z, d, ?_, g2⟩
    simp only [execOp, hop, e1, e2]
    rw [Sem.run_bind, g1]
    rfl
  · cases hon

def cmpB (b : BinOp) (c : Option Ordering) : Option Bool :=
  match b with
  | .eql => some (c == some .eq)
  | .neq => some (c != some .eq)
  | .lss => some (c == some .lt)
  | .leq => some (c == some .lt || c == some .eq)
  | .gtr => some (c == some .gt)
  | .geq => some (c == some .gt || c == some .eq)
  | _ => none

theorem fact_cmp {P : Program} {σ : Nat → Value} {b : BinOp} {p q : AV} {k : FloatKind} {m n : Nat} {r : Bool} (hp : Means σ p (.float k m)) (hq : Means σ q (.float k n)) (hr : cmpB b (k.format.order m n) = some r) : FactOk P σ ⟨kBin b, [p, q], .val (.bool r)⟩ :=
  fact_bin hp hq fun t ox oy G w _ => by
    refine ⟨.bool r, w.drawn, ?_, by simp [VR]⟩
    cases b <;> simp only [cmpB, Option.some.injEq] at hr <;> first | (cases hr; done) | subst hr
    all_goals simp [eqGuard, binOp, Op.floatCmp]

theorem fact_arith {P : Program} {σ : Nat → Value} {b : BinOp} {p q r : AV} {k : FloatKind} {m n z : Nat} (hp : Means σ p (.float k m)) (hq : Means σ q (.float k n)) (h : floatBits b k m n = some z) (hr : ∀ (G : Ctx) (w : World), G.σ = σ → VR G w r (.float k z)) : FactOk P σ ⟨kBin b, [p, q], r⟩ :=
  fact_bin hp hq fun t ox oy G w hσ => by
    refine ⟨.float k z, w.drawn, ?_, hr G w hσ⟩
    have := run_float_arith (P := P) (w := w) b t k m n z h
    cases b <;> simp [floatBits] at h <;> simp [eqGuard, this]

end
end Go.AVM

namespace Go.AVM
open Go.RowKit
noncomputable section

theorem read_nan {n : Nat} (h : 9218868437227405312 < n % 9223372036854775808) : ∃ s t, Ieee.double.read n = .nan s t := by
  have h1 : Ieee.double.signWeight = 9223372036854775808 := by decide +kernel
  have h2 : Ieee.double.binade = 4503599627370496 := by decide +kernel
  have h3 : Ieee.double.infRung = 9218868437227405312 := by decide +kernel
  unfold Ieee.Format.read
  simp only [h1, h2, h3]
  rw [if_neg (by omega), if_neg (by omega), if_neg (by omega)]
  exact ⟨_, _, rfl⟩

theorem order_nan {n : Nat} (h : 9218868437227405312 < n % 9223372036854775808) : (FloatKind.format .f64).order n n = none := by
  obtain ⟨s, t, ht⟩ := read_nan h
  show (Ieee.double.read n).order (Ieee.double.read n) = none
  rw [ht]
  rfl

theorem nan_cut (m n t : Nat) : 9218868437227405312 < (Question.nanBits .f64 m n).cut t % 9223372036854775808 := by
  have hr : t / 2 % 4503599627370495 < 4503599627370495 := Nat.mod_lt _ (by omega)
  show 9218868437227405312 < (t % 2 * 9223372036854775808 + 9218868437227405312 + 1 + t / 2 % 4503599627370495) % 9223372036854775808
  generalize t / 2 % 4503599627370495 = r at hr ⊢
  rcases Nat.mod_two_eq_zero_or_one t with h | h <;> rw [h] <;> omega

theorem fact_nan {P : Program} {σ : Nat → Value} {b : BinOp} {p q : AV} {m n : Nat} (hb : b = .add ∨ b = .sub ∨ b = .mul ∨ b = .quo) (hp : Means σ p (.float .f64 m)) (hq : Means σ q (.float .f64 n)) (h : floatBits b .f64 m n = none) : FactOk P σ ⟨kBin b, [p, q], .nan .f64⟩ :=
  fact_bin hp hq fun t ox oy G w hσ => by
    refine ⟨.float .f64 ((Question.nanBits .f64 m n).cut (w.tape w.drawn (.nanBits .f64 m n))), w.drawn + 1, ?_, ?_⟩
    · rcases hb with rfl | rfl | rfl | rfl <;> simp only [floatBits] at h <;> simp [eqGuard, binOp, Op.floatArith, h, Question.forced] <;> rfl
    · simp only [VR]
      exact ⟨_, rfl, order_nan (nan_cut m n _)⟩

end
end Go.AVM

namespace Go.AVM
open Go.RowKit
noncomputable section

/-! ### facts on NaNs -/
theorem nan_of_order {f : Ieee.Format} {b : Nat} (h : f.order b b = none) : ∃ s t, f.read b = .nan s t := by
  unfold Ieee.Format.order at h
  cases hr : f.read b with
  | nan s t => exact ⟨s, t, rfl⟩
  | infinity s => rw [hr] at h; simp [Ieee.Datum.order] at h
  | number s m i => rw [hr] at h; simp [Ieee.Datum.order] at h

theorem order_nan_left {f : Ieee.Format} {b c : Nat} (h : f.order b b = none) : f.order b c = none := by
  obtain ⟨s, t, hr⟩ := nan_of_order h
  unfold Ieee.Format.order
  rw [hr]
  rfl

theorem order_nan_right {f : Ieee.Format} {b c : Nat} (h : f.order c c = none) : f.order b c = none := by
  obtain ⟨s, t, hr⟩ := nan_of_order h
  unfold Ieee.Format.order
  rw [hr]
  cases f.read b <;> rfl

theorem order_self {f : Ieee.Format} {b : Nat} : f.order b b = none ∨ f.order b b = some .eq := by
  unfold Ieee.Format.order
  cases f.read b with
  | nan s t => exact .inl rfl
  | infinity s => right; simp [Ieee.Datum.order]
  | number s m i => right; simp [Ieee.Datum.order]

/-- Of two NaNs, by whatever payloads. -/
theorem fact_nan_cmp {P : Program} {σ : Nat → Value} {b : BinOp} {k : FloatKind} {r : Bool} (hr : cmpB b none = some r) : FactOk P σ ⟨kBin b, [.nan k, .nan k], .val (.bool r)⟩ := by
  intro o G w e hon hσ hx
  simp only at hon hx
  unfold kBin at hon
  split at hon
  · rename_i c t ox oy yt hop
    simp only [decide_eq_true_eq] at hon
    subst hon
    rw [hop] at hx
    simp only [Op.operands, VRL, VR, List.map_cons, List.map_nil] at hx
    obtain ⟨y1, ys, h1, ⟨m, rfl, hm⟩, y2, ys2, h3, ⟨n, rfl, hn⟩, h5⟩ := hx
    simp only [List.cons.injEq] at h1
    obtain ⟨e1, rfl⟩ := h1
    simp only [List.cons.injEq] at h3
    obtain ⟨e2, rfl⟩ := h3
    have hc : k.format.order m n = none := order_nan_left hm
    refine ⟨.bool r, w.drawn, ?_, by simp [VR]⟩
    simp only [execOp, hop, e1, e2]
    cases b <;> simp only [cmpB, Option.some.injEq] at hr <;> first | (cases hr; done) | subst hr
    all_goals simp [eqGuard, binOp, Op.floatCmp, hc]
  · cases hon

end
end Go.AVM

namespace Go.AVM
open Go.RowKit
noncomputable section

/-! ### facts on integers, Bools, calls -/
theorem fact_pure {P : Program} {σ : Nat → Value} {b : BinOp} {p q r : AV} {x y z : Value} (hp : Means σ p x) (hq : Means σ q y) (h : ∀ (t : TypeId) (ox oy : Operand), (do eqGuard b t ox oy x y; binOp b t x y : Sem Value) = pure z)
    (hr : ∀ (G : Ctx) (w : World), G.σ = σ → VR G w r z) : FactOk P σ ⟨kBin b, [p, q], r⟩ :=
  fact_bin hp hq fun t ox oy G w hσ => ⟨z, w.drawn, by rw [h]; rfl, hr G w hσ⟩

theorem vr_sym {σ : Nat → Value} {i : Nat} {x : Value} (h : σ i = x) (hx : valS x = true) : ∀ (G : Ctx) (w : World), G.σ = σ → VR G w (.sym i) x := fun G w hσ => by
  simp only [VR]
  rw [hσ, h]
  exact ⟨rfl, hx⟩
theorem vr_val {σ : Nat → Value} {x : Value} : ∀ (G : Ctx) (w : World), G.σ = σ → VR G w (.val x) x := fun G w hσ => by simp [VR]

theorem fact_un {P : Program} {σ : Nat → Value} {b : UnOp} {p r : AV} {x z : Value} (hp : Means σ p x) (h : Op.unary b x = pure z) (hr : ∀ (G : Ctx) (w : World), G.σ = σ → VR G w r z) : FactOk P σ ⟨kUn b, [p], r⟩ := by
  intro o G w e hon hσ hx
  simp only at hon hx
  unfold kUn at hon
  split at hon
  · rename_i c t ox hop
    simp only [decide_eq_true_eq] at hon
    subst hon
    rw [hop] at hx
    simp only [Op.operands, VRL, List.map_cons, List.map_nil] at hx
    obtain ⟨y1, ys, h1, h2, h5⟩ := hx
    simp only [List.cons.injEq] at h1
    obtain ⟨rfl, rfl⟩ := h1
    have e1 := hp G w hσ _ h2
    refine ⟨z, w.drawn, ?_, hr G w hσ⟩
    simp only [execOp, hop, e1, h]
    rfl
  · cases hon

def kVal : Op → Bool
  | .call c => match c.callee with
    | .value _ => true
    | _ => false
  | _ => false

theorem fact_call {P : Program} {σ : Nat → Value} {f : FuncId} {p r : AV} {x z : Value} (hp : Means σ p x) (h : ∀ w : World, (callFunc f #[x]).run P w = .ok (.value z) w) (hr : ∀ (G : Ctx) (w : World), G.σ = σ → VR G w r z) :
    FactOk P σ ⟨kVal, [.fn (.func f) [] [], p], r⟩ := by
  intro o G w e hon hσ hx
  simp only at hon hx
  unfold kVal at hon
  split at hon
  · rename_i c hop
    split at hon
    · rename_i cf hcf
      rw [hop] at hx
      simp only [Op.operands, Call.operands, hcf, VRL] at hx
      obtain ⟨y1, ys, h1, h2, y2, ys2, h3, h4, h5⟩ := hx
      obtain ⟨ca, hca⟩ : ∃ ca, c.args = #[ca] := by
        subst h5
        rw [h3] at h1
        have := congrArg List.length h1
        simp at this
        rcases hc : c.args with ⟨l⟩
        rw [hc] at this
        simp at this
        match l, this with
        | [a], _ => exact ⟨a, rfl⟩
      rw [hca, h3, h5] at h1
      simp at h1
      obtain ⟨e1, e2⟩ := h1
      rw [← e1] at h2
      rw [← e2] at h4
      have ex := hp G w hσ _ h4
      simp only [VR, FnR, VRL] at h2
      obtain ⟨f', as, bs, hv, hf', ha, hb⟩ := h2
      have ha : as = #[] := by cases as; simp at ha; rw [ha]
      have hb : bs = #[] := by cases bs; simp at hb; rw [hb]
      subst ha hb hf'
      refine ⟨z, w.drawn, ?_, hr G w hσ⟩
      have := h w
      simp [execOp, hop, resolve, hcf, hv, hca, Deferred.ofValue, invoke, ex, this]
    · cases hon
  · cases hon

theorem ext_run {P : Program} {kind : FuncId → Nat} (h : ExtOk P kind) {f : FuncId} {e : Array Value → Sem Value} {u y : Value} (he : extRow (kind f) = some e) (hr : e #[u] = pure y) (w : World) : (callFunc f #[u]).run P w = .ok (.value y) w := by
  obtain ⟨fn, _, h2⟩ := ext_call (h.plain f e he) #[u] w
  rw [h2]
  simp [hr]

end
end Go.AVM

namespace Go.AVM
open Go.RowKit
noncomputable section

def icmpB (b : BinOp) (m n : Int) : Option Bool :=
  match b with
  | .eql => some (decide (m = n))
  | .neq => some (decide (m ≠ n))
  | .lss => some (decide (m < n))
  | .leq => some (decide (m ≤ n))
  | .gtr => some (decide (m > n))
  | .geq => some (decide (m ≥ n))
  | _ => none

theorem fact_icmp {P : Program} {σ : Nat → Value} {b : BinOp} {p q : AV} {k : IntKind} {m n : Int} {r : Bool} (hp : Means σ p (.int k m)) (hq : Means σ q (.int k n)) (hr : icmpB b m n = some r) : FactOk P σ ⟨kBin b, [p, q], .val (.bool r)⟩ :=
  fact_bin hp hq fun t ox oy G w _ => by
    refine ⟨.bool r, w.drawn, ?_, by simp [VR]⟩
    cases b <;> simp only [icmpB, Option.some.injEq] at hr <;> first | (cases hr; done) | subst hr
    all_goals simp [eqGuard, binOp, Op.intCmp]
    all_goals rfl

end
end Go.AVM

namespace Go.AVM
open Go.RowKit
noncomputable section

theorem zero_read : Ieee.double.read 0 = .number false 0 Ieee.double.leastPlace := by decide +kernel

theorem signed_zero {s : Bool} {m k : Nat} (h : Ieee.signed s m k = 0) : m = 0 := by
  unfold Ieee.signed at h
  rw [Nat.shiftLeft_eq] at h
  have hp : 0 < 2 ^ k := Nat.pow_pos (by omega)
  have : m * 2 ^ k = 0 := by split at h <;> omega
  rcases Nat.mul_eq_zero.1 this with h | h
  · exact h
  · omega

theorem zero_bits {a : Nat} (ha : a < 18446744073709551616) (h : (FloatKind.format .f64).order a 0 = some .eq) : a = 0 ∨ a = 9223372036854775808 := by
  have h1 : Ieee.double.signWeight = 9223372036854775808 := by decide +kernel
  have h2 : Ieee.double.binade = 4503599627370496 := by decide +kernel
  have h3 : Ieee.double.infRung = 9218868437227405312 := by decide +kernel
  change (Ieee.double.read a).order (Ieee.double.read 0) = some .eq at h
  rw [zero_read] at h
  unfold Ieee.Format.read at h
  simp only [h1, h2, h3] at h
  split at h
  · simp only [Ieee.Datum.order, Option.some.injEq] at h
    have h4 := Int.compare_eq_eq.1 h
    have h5 : ∀ k : Nat, Ieee.signed false 0 k = 0 := fun k => by simp [Ieee.signed]
    rw [h5] at h4
    have := signed_zero h4
    omega
  · split at h
    · simp only [Ieee.Datum.order, Option.some.injEq] at h
      have h4 := Int.compare_eq_eq.1 h
      have h5 : ∀ k : Nat, Ieee.signed false 0 k = 0 := fun k => by simp [Ieee.signed]
      rw [h5] at h4
      have := signed_zero h4
      omega
    · split at h
      · simp only [Ieee.Datum.order, Option.some.injEq] at h
        split at h <;> cases h
      · simp [Ieee.Datum.order] at h

end
end Go.AVM

namespace Go.AVM
open Go.RowKit
noncomputable section

theorem run_enter {P : Program} {f : FuncId} {fn : Func} {c : Code} (hf : P.funcs[f]? = some fn) (hname : (fn.name == "runtime.NumGoroutine") = false) (hb : fn.body = some c) (args : Array Value) (w : World) :
    (callFunc f args).run P w = .ok (.enter f args) w := by
  have h1 : fn.name ≠ "runtime.NumGoroutine" := by simpa using hname
  simp [callFunc, hf, h1, hb]

/-- A hook from a contract. -/
theorem hook_of {T : Mach} {f : FuncId} {fn : Func} {c : Code} {args : List AV} {res : AV} (hf : T.P.funcs[f]? = some fn) (hname : (fn.name == "runtime.NumGoroutine") = false) (hb : fn.body = some c) (hp : plainL args = true)
    (hr : ∀ (G : Ctx) (w : World), G.σ = T.σ → VR G w res (den T.σ res))
    (h : ∀ w : World, T.ng ≤ w.heap.size → Calls T.P f (denL T.σ args).toArray w fun e w' => e = .returned (den T.σ res) ∧ Below w.heap.size w w') : HookOk T ⟨f, args, res⟩ := by
  intro B w0 G w s xs hfit hw hx
  simp only at hx ⊢
  have hxs : xs = (denL T.σ args).toArray := by
    have := denL_eq args _ hp hx
    rw [hfit.1] at this
    cases xs
    simp at this
    rw [this]
  subst hxs
  refine ⟨run_enter hf hname hb _ w, (h w (Nat.le_trans hw.ngB hw.base)).mono fun e w' he => ?_⟩
  exact ⟨_, he.1, fun G' w'' hσ => hr G' w'' hσ, he.2⟩

end
end Go.AVM

namespace Go.AVM
open Go.RowKit
noncomputable section

def kBinT (b : BinOp) (t : TypeId) : Op → Bool
  | .binOp c u _ _ _ => decide (b = c) && decide (t = u)
  | _ => false

theorem fact_binT {P : Program} {σ : Nat → Value} {b : BinOp} {t : TypeId} {p q r : AV} {x y : Value} (hp : Means σ p x) (hq : Means σ q y)
    (h : ∀ (ox oy : Operand) (G : Ctx) (w : World), G.σ = σ → ∃ z d, (do eqGuard b t ox oy x y; binOp b t x y).run P w = .ok z { w with drawn := d } ∧ VR G w r z) : FactOk P σ ⟨kBinT b t, [p, q], r⟩ := by
  intro o G w e hon hσ hx
  simp only at hon hx
  unfold kBinT at hon
  split at hon
  · rename_i c u ox oy yt hop
    simp only [Bool.and_eq_true, decide_eq_true_eq] at hon
    obtain ⟨rfl, rfl⟩ := hon
    rw [hop] at hx
    simp only [Op.operands, VRL, List.map_cons, List.map_nil] at hx
    obtain ⟨y1, ys, h1, h2, y2, ys2, h3, h4, h5⟩ := hx
    simp only [List.cons.injEq] at h1
    obtain ⟨rfl, rfl⟩ := h1
    simp only [List.cons.injEq] at h3
    obtain ⟨rfl, rfl⟩ := h3
    have e1 := hp G w hσ _ h2
    have e2 := hq G w hσ _ h4
    obtain ⟨z, d, g1, g2⟩ := h ox oy G w hσ
    refine ⟨z, d, ?_, g2⟩
    simp only [execOp, hop, e1, e2]
    rw [Sem.run_bind, g1]
    rfl
  · cases hon

theorem fact_boolT {P : Program} {σ : Nat → Value} {b : BinOp} {t : TypeId} {p : AV} {a r : Bool} (ht : ∀ ox oy, qBin P b t ox oy (.val (.bool a)) (.val (.bool a)) = some (.val (.bool r))) (hp : Means σ p (.bool a)) : FactOk P σ ⟨kBinT b t, [p, p], .val (.bool r)⟩ :=
  fact_binT hp hp fun ox oy G w _ => by
    obtain ⟨y, h1, h2⟩ := qBin_sound (P := P) (G := G) (w := w) (x := .val (.bool a)) (y := .val (.bool a)) (a := .bool a) (b := .bool a) (by simp [VR]) (by simp [VR]) (ht ox oy)
    exact ⟨y, w.drawn, h1, h2⟩

end
end Go.AVM

namespace Go.AVM
open Go.RowKit
noncomputable section

/-! ### one string that is none of those it is held against -/
inductive SK where
  | no
  | eq (neg : Bool)
  | len (ts : Array TypeId)
  | gt

def skey (o : Oper) : SK :=
  match o.op with
  | .binOp op _ _ _ _ => match op with
    | .eql => .eq false
    | .neq => .eq true
    | .gtr => .gt
    | _ => .no
  | .call c => match c.callee with
    | .builtin b => match b with
      | .len => .len c.argTypes
      | _ => .no
    | _ => .no
  | _ => .no

inductive SC where
  | sym
  | str (s : ByteArray)
  | other
def scOf : AV → SC
  | .sym i => match i with
    | 0 => .sym
    | _ + 1 => .other
  | .val v => match v with
    | .string s => .str s
    | _ => .other
  | _ => .other

def memS (K : List (List UInt8)) (l : List UInt8) : Bool := K.rec false fun c _ ih => match eqL8 c l with
  | true => true
  | false => ih

theorem memS_mem : ∀ {K : List (List UInt8)} {l : List UInt8}, memS K l = true → l ∈ K
  | [], l, h => by cases h
  | c :: K, l, h => by
    change (match eqL8 c l with | true => true | false => memS K l) = true at h
    split at h
    · rename_i he
      rw [eqL8_eq] at he
      simp only [decide_eq_true_eq] at he
      subst he
      simp
    · exact List.mem_cons_of_mem _ (memS_mem h)

def isSym1 : AV → Bool
  | .sym i => Nat.beq i 1
  | _ => false
def isSym0 : AV → Bool
  | .sym i => Nat.beq i 0
  | _ => false

def strTy (P : Program) (ts : Array TypeId) : Bool :=
  match ts[0]? with
  | some t => match und P t with
    | some d => match d with
      | .string => true
      | _ => false
    | none => false
  | none => false

def strOra (P : Program) (K : List (List UInt8)) (most : Nat) (big : Bool) (o : Oper) (args : List AV) : Option AV :=
  match skey o with
  | .no => none
  | .eq neg => match args with
    | [x, y] => match scOf x with
      | .sym => match scOf y with
        | .sym => some (.val (.bool (!neg)))
        | .str c => match memS K c.data.toList with
          | true => some (.val (.bool neg))
          | false => none
        | .other => none
      | .str c => match scOf y with
        | .sym => match memS K c.data.toList with
          | true => some (.val (.bool neg))
          | false => none
        | _ => none
      | .other => none
    | _ => none
  | .len ts => match args with
    | [x] => match isSym0 x && strTy P ts with
      | true => some (.sym 1)
      | false => none
    | _ => none
  | .gt => match args with
    | [x, y] => match isSym1 x with
      | true => match y with
        | .val (.int .i64 (.ofNat n)) => match Nat.beq n most with
          | true => some (.val (.bool big))
          | false => none
        | _ => none
      | false => none
    | _ => none

def strSig (s : ByteArray) : Nat → Value
  | 0 => .string s
  | 1 => .int .i64 s.size
  | _ => undef

theorem scOf_sym {G : Ctx} {w : World} {s : ByteArray} (hσ : G.σ = strSig s) {x : AV} {a : Value} (h : scOf x = .sym) (hx : VR G w x a) : a = .string s := by
  unfold scOf at h
  split at h
  · split at h
    · simp only [VR] at hx
      rw [hx.1, hσ]
      rfl
    · cases h
  · split at h <;> cases h
  · cases h
theorem scOf_str {G : Ctx} {w : World} {c : ByteArray} {x : AV} {a : Value} (h : scOf x = .str c) (hx : VR G w x a) : a = .string c := by
  unfold scOf at h
  split at h
  · split at h <;> cases h
  · split at h
    · cases h
      simpa [VR] using hx
    · cases h
  · cases h

theorem run_streq {P : Program} {w : World} {neg : Bool} {t : TypeId} {ox oy : Operand} {a b : ByteArray} {op : BinOp} (hop : (op = .eql ∧ neg = false) ∨ (op = .neq ∧ neg = true)) :
    (do eqGuard op t ox oy (.string a) (.string b); binOp op t (.string a) (.string b)).run P w = .ok (.bool (xor (decide (a.data.toList = b.data.toList)) neg)) w := by
  rcases hop with ⟨rfl, rfl⟩ | ⟨rfl, rfl⟩
  · rw [fastStr_run (op := .eql) (a := a) (b := b) rfl, eqL8_eq]
    simp
  · rw [fastStr_run (op := .neq) (a := a) (b := b) rfl, eqL8_eq]
    simp

theorem strOra_sound {P : Program} {K : List (List UInt8)} {most : Nat} {big : Bool} {s : ByteArray} (hK : s.data.toList ∉ K) (hb : decide (most < s.size) = big) (o : Oper) (e : Operand → AV) (v : AV)
    (hv : strOra P K most big o (o.op.operands.toList.map e) = some v) (G : Ctx) (w : World) (e' : Operand → Value) (hσ : G.σ = strSig s) (he : ∀ x, x ∈ o.op.operands → VR G w (e x) (e' x)) :
    ∃ y d, (execOp e' o).run P w = .ok (.value y) { w with drawn := d } ∧ VR G w v y := by
  have fin : ∀ {y : Value}, (execOp e' o).run P w = .ok (.value y) w → VR G w v y → ∃ y d, (execOp e' o).run P w = .ok (.value y) { w with drawn := d } ∧ VR G w v y := fun h1 h2 => ⟨_, w.drawn, h1, h2⟩
  unfold strOra at hv
  split at hv
  · cases hv
  · rename_i neg hk
    -- a comparison
    have hop : ∃ op t ox oy yt, o.op = .binOp op t ox oy yt ∧ ((op = .eql ∧ neg = false) ∨ (op = .neq ∧ neg = true)) := by
      unfold skey at hk
      split at hk
      · rename_i op t ox oy yt ho
        split at hk <;> first | (cases hk; exact ⟨_, _, _, _, _, ho, by simp⟩) | cases hk
      · split at hk
        · split at hk <;> cases hk
        · cases hk
      · cases hk
    obtain ⟨op, t, ox, oy, yt, ho, hop⟩ := hop
    rw [ho] at hv he
    simp only [Op.operands, List.map_cons, List.map_nil] at hv
    have hx := he ox (by simp [Op.operands])
    have hy := he oy (by simp [Op.operands])
    have run : ∀ (a b : ByteArray), e' ox = .string a → e' oy = .string b → (execOp e' o).run P w = .ok (.value (.bool (xor (decide (a.data.toList = b.data.toList)) neg))) w := fun a b h1 h2 => by
      simp only [execOp, ho, h1, h2]
      rw [Sem.run_bind, run_streq hop]
      rfl
    split at hv
    · rename_i h1
      have e1 := scOf_sym hσ h1 hx
      split at hv
      · rename_i h2
        have e2 := scOf_sym hσ h2 hy
        cases hv
        exact fin (run s s e1 e2) (by simp [VR])
      · rename_i c h2
        have e2 := scOf_str h2 hy
        split at hv
        · rename_i hm
          cases hv
          have hne : s.data.toList ≠ c.data.toList := fun hh => hK (hh ▸ memS_mem hm)
          exact fin (run s c e1 e2) (by simp [VR, hne])
        · cases hv
      · cases hv
    · rename_i c h1
      have e1 := scOf_str h1 hx
      split at hv
      · rename_i h2
        have e2 := scOf_sym hσ h2 hy
        split at hv
        · rename_i hm
          cases hv
          have hne : c.data.toList ≠ s.data.toList := fun hh => hK (hh ▸ memS_mem hm)
          exact fin (run c s e1 e2) (by simp [VR, hne])
        · cases hv
      · cases hv
    · cases hv
  · rename_i ts hk
    -- a length
    have hop : ∃ c, o.op = .call c ∧ c.callee = .builtin .len ∧ c.argTypes = ts := by
      unfold skey at hk
      split at hk
      · split at hk <;> cases hk
      · rename_i c ho
        split at hk
        · rename_i b hb
          split at hk
          · cases hk
            exact ⟨c, ho, hb, rfl⟩
          · cases hk
        · cases hk
      · cases hk
    obtain ⟨c, ho, hc, rfl⟩ := hop
    split at hv
    · rename_i x hx
      split at hv
      · rename_i hs
        cases hv
        simp only [Bool.and_eq_true] at hs
        obtain ⟨hs, hty⟩ := hs
        obtain ⟨a, hca, hea⟩ : ∃ a, c.args = #[a] ∧ e a = x := by
          rw [ho] at hx
          simp only [Op.operands, Call.operands, hc] at hx
          rcases hl : c.args with ⟨l⟩
          rw [hl] at hx
          match l, hx with
          | [a], hx => exact ⟨a, rfl, by simpa using hx⟩
          | [], hx => simp at hx
          | _ :: _ :: _, hx => simp at hx
        have hxa := he a (by rw [ho]; simp [Op.operands, Call.operands, hc, hca])
        rw [hea] at hxa
        have hxs : x = .sym 0 := by
          unfold isSym0 at hs
          split at hs
          · rw [Nat.eq_of_beq_eq_true hs]
          · cases hs
        subst hxs
        simp only [VR] at hxa
        have ea : e' a = .string s := by rw [hxa.1, hσ]; rfl
        obtain ⟨t0, ht0, hu⟩ : ∃ t0, c.argTypes[0]? = some t0 ∧ P.underlying t0 = some .string := by
          unfold strTy at hty
          split at hty
          · rename_i t0 ht0
            split at hty
            · rename_i d hd
              split at hty
              · exact ⟨t0, ht0, und_sound hd⟩
              · cases hty
            · cases hty
          · cases hty
        refine fin (y := .int .i64 s.size) ?_ (by simp only [VR]; rw [hσ]; exact ⟨rfl, rfl⟩)
        simp [execOp, ho, resolve, hc, hca, ea, invoke, builtin, Builtin.len_, ht0, run_underlying hu, goInt]
      · cases hv
    · cases hv
  · rename_i hk
    have hop : ∃ t ox oy yt, o.op = .binOp .gtr t ox oy yt := by
      unfold skey at hk
      split at hk
      · rename_i op t ox oy yt ho
        split at hk <;> first | exact ⟨_, _, _, _, ho⟩ | cases hk
      · split at hk
        · split at hk <;> cases hk
        · cases hk
      · cases hk
    obtain ⟨t, ox, oy, yt, ho⟩ := hop
    rw [ho] at hv he
    simp only [Op.operands, List.map_cons, List.map_nil] at hv
    have hx := he ox (by simp [Op.operands])
    have hy := he oy (by simp [Op.operands])
    split at hv
    · rename_i h1
      split at hv
      · rename_i n h2
        split at hv
        · rename_i hn
          cases hv
          have hn' := Nat.eq_of_beq_eq_true hn
          subst hn'
          have e1 : e' ox = .int .i64 s.size := by
            unfold isSym1 at h1
            split at h1
            · rename_i i hi
              rw [hi, Nat.eq_of_beq_eq_true h1] at hx
              simp only [VR] at hx
              rw [hx.1, hσ]
              rfl
            · cases h1
          rw [h2] at hy
          simp only [VR] at hy
          refine fin (y := .bool big) ?_ (by simp [VR])
          simp only [execOp, ho, e1, hy]
          rw [Sem.run_bind, fastInt_run (op := .gtr) (k := .i64) (a := (s.size : Int)) (b := Int.ofNat n) rfl, ltI_eq]
          have : decide (Int.ofNat n < (s.size : Int)) = big := by
            rw [← hb]
            simp
          rw [this]
          rfl
        · cases hv
      · cases hv
    · cases hv

/-- A machine that knows of one string what it is not. -/
def machStr (P : Program) (ng fuel : Nat) (kind : FuncId → Nat) (mu : FuncId → Tmp → Bool) (st : Nat → World → Prop) (K : List (List UInt8)) (most : Nat) (big : Bool) (s : ByteArray) : Mach :=
  { machOf P ng fuel kind mu st (strSig s) [] with ora := fun o args => strOra P K most big o args }

theorem machStr_ok {P : Program} {ng fuel : Nat} {kind : FuncId → Nat} {mu : FuncId → Tmp → Bool} {st : Nat → World → Prop} {K : List (List UInt8)} {most : Nat} {big : Bool} {s : ByteArray}
    (h1 : Nat.ble P.globals.size ng = true) (h2 : namesOk P = true) (h3 : P.follows .mixedOrders = true) (h4 : ExtOk P kind) (hK : s.data.toList ∉ K) (hb : decide (most < s.size) = big) : MachOk (machStr P ng fuel kind mu st K most big s) where
  ng := Nat.le_of_ble_eq_true h1
  ext := extF_sound h4
  extE := extG_sound h4
  ends f hf := by
    simp only [namesOk, List.all_eq_true, Bool.not_eq_true'] at h2
    exact h2 f hf
  mixed := h3
  ora o e v h B w0 G w st e' hfit _ he := strOra_sound hK hb o e v h G w e' hfit.1 he

end
end Go.AVM
