/- An interpreter of the model over abstract values, proved sound for every program. Operations that write. -/
import Derived.Laws.AppendOwn
import Derived.Laws.IdiomStrings
import Derived.Lib.UnsafeStr
import Derived.Lib.MakeNoZero
import Derived.Test.YtnemnoccljalmaaGreatDoorAva
set_option autoImplicit false
set_option linter.unusedVariables false
set_option linter.unusedSimpArgs false

namespace Go.AVM
open Go.RowKit
noncomputable section

section
variable {P : Program} {ng B : Nat} {w0 w : World} {G : Ctx} {s : St}

/-! ### names are below the bound -/
mutual
theorem VR.hi : ∀ (v : AV) (x : Value), VR G w v x → v.hi ≤ G.N
  | .any, _, _ => Nat.zero_le _
  | .nan _, _, _ => Nat.zero_le _
  | .sym _, _, _ => Nat.zero_le _
  | .val _, _, _ => Nat.zero_le _
  | .agg cs, x, h => by
    simp only [VR] at h
    obtain ⟨xs, _, hl⟩ := h
    exact VRL.hi cs _ hl
  | .tup cs, x, h => by
    simp only [VR] at h
    obtain ⟨xs, _, hl⟩ := h
    exact VRL.hi cs _ hl
  | .sl es sz t, x, h => by
    simp only [VR] at h
    rcases h with ⟨rfl, _⟩ | ⟨_, b, o, cap, _, _, _, hel, _⟩
    · exact Nat.zero_le _
    · exact ElR.hi es b o sz hel
  | .ptr b o, x, h => by simp only [VR] at h; exact h.1
  | .ep cs o, x, h => by
    simp only [VR] at h
    obtain ⟨b, o', _, hc⟩ := h
    exact ClR.hi cs b o' hc
  | .ms b o n c, x, h => by simp only [VR] at h; exact h.1
  | .map b, x, h => by simp only [VR] at h; exact h.1
  | .fn f fs cs, x, h => by
    simp only [VR] at h
    obtain ⟨f', as, bs, _, hf, h1, h2⟩ := h
    simp only [AV.hi]
    refine Nat.max_le.2 ⟨?_, Nat.max_le.2 ⟨VRL.hi fs _ h1, VRL.hi cs _ h2⟩⟩
    cases f <;> simp only [FnR, Fn.hi] at hf ⊢ <;> first | exact Nat.zero_le _ | exact hf.1
  | .ifc t v, x, h => by
    simp only [VR] at h
    obtain ⟨y, _, hy⟩ := h
    exact VR.hi v y hy
  | .raw _ _ _ _, _, _ => Nat.zero_le _
  | .sd es sz r el, x, h => by
    simp only [VR] at h
    obtain ⟨b, _, hel, _⟩ := h
    exact ElR.hi es b 0 sz hel
  | .pd es sz r el, x, h => by
    simp only [VR] at h
    obtain ⟨b, _, _, _, hel, _⟩ := h
    exact ElR.hi es b 0 sz hel
  | .pp _ _ _, _, _ => Nat.zero_le _
  | .mx b _ _, x, h => by simp only [VR] at h; exact h.1
theorem VRL.hi : ∀ (l : List AV) (xs : List Value), VRL G w l xs → hiL l ≤ G.N
  | [], _, _ => Nat.zero_le _
  | c :: cs, xs, h => by
    simp only [VRL] at h
    obtain ⟨y, ys, _, h1, h2⟩ := h
    exact Nat.max_le.2 ⟨VR.hi c y h1, VRL.hi cs ys h2⟩
theorem ClR.hi : ∀ (l : List AV) (b o : Nat), ClR G w b o l → hiL l ≤ G.N
  | [], _, _, _ => Nat.zero_le _
  | c :: cs, b, o, h => by
    simp only [ClR] at h
    obtain ⟨⟨_, x, _, hx⟩, hr⟩ := h
    exact Nat.max_le.2 ⟨VR.hi c x hx, ClR.hi cs b (o + 1) hr⟩
theorem ElR.hi : ∀ (l : List (List AV)) (b o sz : Nat), ElR G w b o sz l → hiE l ≤ G.N
  | [], _, _, _, _ => Nat.zero_le _
  | c :: es, b, o, sz, h => by
    simp only [ElR] at h
    exact Nat.max_le.2 ⟨ClR.hi c b o h.2.1, ElR.hi es b (o + sz) sz h.2.2⟩
end

theorem EnR.hi : ∀ (l : List AE) (xs : List MapEntry), EnR G w l xs → hiM l ≤ G.N
  | [], _, _ => Nat.zero_le _
  | e :: es, xs, h => by
    obtain ⟨y, ys, _, h1, h2, _, h4⟩ := h
    exact Nat.max_le.2 ⟨Nat.max_le.2 ⟨VR.hi _ _ h1, VR.hi _ _ h2⟩, EnR.hi es ys h4⟩

/-- What an operation leaves: a value, or nothing. -/
def NextIs (n : Next) (y : Value) : Prop := n = .value y ∨ (n = .skip ∧ y = undef)

/-- An operation's run, against the abstract one. -/
def Does (P : Program) (ng B : Nat) (w0 : World) (G : Ctx) (w : World) (f : Sem Next) (v : AV) (s' : St) : Prop :=
  ∃ n y w' G', f.run P w = .ok n w' ∧ NextIs n y ∧ VR G' w' v y ∧ Ext G w G' w' ∧ WRel ng B w0 G' w' s'

theorem Does.of_new (h : WRel ng B w0 G w s) {f : Sem Next} {o : AO} {x : Obj} (hx : OR G w o x) (hh : o.hi ≤ G.N) (y : Value) (v : AV)
    (hr : f.run P w = .ok (.value y) (w.alloc x)) (hv : VR (G.new w) (w.alloc x) v y) : Does P ng B w0 G w f v (s.push o) := by
  obtain ⟨h1, h2⟩ := h.new o x hx (by rw [h.n]; exact Nat.le_trans hh (Nat.le_max_left _ _))
  exact ⟨_, y, _, _, hr, .inl rfl, hv, h1, h2⟩

theorem new_ptr (G : Ctx) (w w' : World) (off : Nat) : VR (G.new w) w' (.ptr G.N off) (.pointer (some ⟨w.heap.size, off, none⟩)) := by
  simp [VR, Ctx.new]

theorem OR_cells {cs : List AV} {xs : Array Value} (hv : VRL G w cs xs.toList) (el : TypeId) : OR G w (.cells cs el) (.cells xs el (0, 0)) :=
  ⟨xs, (0, 0), rfl, hv, fun j _ h => absurd h.2 (Nat.not_lt_zero _)⟩

/-! ### variables -/
def eAlloc (P : Program) (s : St) (el : TypeId) : Option (AV × St) :=
  match zeroA P el with
  | some z => match cellsOf z with
    | some cs => some (.ptr s.next 0, s.push (.cells cs el))
    | none => none
  | none => none

theorem eAlloc_sound (h : WRel ng B w0 G w s) {el : TypeId} {v : AV} {s' : St} (hq : eAlloc P s el = some (v, s')) :
    Does P ng B w0 G w (do pure (.value (← Instr.alloc el true (.tuple #[])))) v s' := by
  unfold eAlloc at hq
  split at hq
  · rename_i z hz
    split at hq
    · rename_i cs hcs
      cases hq
      obtain ⟨zv, h1, h2⟩ := zeroA_sound (P := P) (G := G) (w := w) hz
      have hc := cellsOf_sound h2 hcs
      rw [h.n]
      refine Does.of_new h (OR_cells hc el) (VRL.hi cs _ hc) _ _ ?_ (new_ptr G w _ 0)
      simp [Instr.alloc, h1, newVar, newRow]
    · cases hq
  · cases hq

def eBox (s : St) (el : TypeId) (x : AV) : Option (AV × St) :=
  match cellsOf x with
  | some cs => some (.ptr s.next 0, s.push (.cells cs el))
  | none => none

theorem eBox_sound (h : WRel ng B w0 G w s) {el : TypeId} {x v : AV} {a : Value} {s' : St} (hx : VR G w x a) (hq : eBox s el x = some (v, s')) :
    Does P ng B w0 G w (do pure (.value (← Instr.box el a))) v s' := by
  unfold eBox at hq
  split at hq
  · rename_i cs hcs
    cases hq
    have hc := cellsOf_sound hx hcs
    rw [h.n]
    refine Does.of_new h (OR_cells hc el) (VRL.hi cs _ hc) _ _ ?_ (new_ptr G w _ 0)
    simp [Instr.box, newVar, newRow]
  · cases hq

/-! ### store -/
theorem run_storeCells_at' (b o : Nat) : ∀ (vs : List Value) (i : Nat) (w : World) (c : Array Value) (e : TypeId) (fz : Nat × Nat), w.heap[b]? = some (.cells c e fz) → o + i + vs.length ≤ c.size →
    (∀ j, j < c.size → o + i ≤ j → ¬ (fz.1 ≤ j ∧ j < fz.2)) → (∀ v, v ∈ vs → valOne v = true) → (storeCells ⟨b, o, none⟩ vs i).run P w = .ok () (w.putCells b (o + i) vs)
  | [], i, w, c, e, fz, _, _, _, _ => rfl
  | v :: vs, i, w, c, e, fz, hc, hl, hf, ho => by
    have hlt : o + i < c.size := by simp at hl; omega
    have hcell : w.cell? ⟨b, o + i, none⟩ = some c[o + i] := by rw [cell_of_heap hc]; exact Array.getElem?_eq_getElem hlt
    have hfz : w.frozen? ⟨b, o + i, none⟩ = false := by
      simp only [World.frozen?, hc]
      have := hf (o + i) hlt (Nat.le_refl _)
      by_cases g1 : fz.1 ≤ o + i
      · by_cases g2 : o + i < fz.2
        · exact absurd ⟨g1, g2⟩ this
        · simp [g2]
      · simp [g1]
    have hone := ho v (by simp)
    have hst : (store ⟨b, o + i, none⟩ v).run P w = .ok () (w.setCell ⟨b, o + i, none⟩ v) := by
      cases v <;> first | (simp [valOne] at hone; done) | (simp only [store, Sem.run, hcell, hfz]; rfl)
    have hrec := run_storeCells_at' b o vs (i + 1) (w.setCell ⟨b, o + i, none⟩ v) _ e fz (setCell_heap_eq w b (o + i) v hc) (by simp at hl ⊢; omega)
      (fun j hj hj2 => hf j (by simpa using hj) (by omega)) (fun u hu => ho u (by simp [hu]))
    simp only [storeCells, addr_add, Sem.run_bind, hst, Result.andThen_ok]
    rw [hrec, World.putCells]
    rfl

def eStore (P : Program) (ng : Nat) (s : St) (t : TypeId) (x v : AV) : Option (AV × St) :=
  match x with
  | .ptr b off => if b < ng then none else match s.get b, cellsOf v, inf P t with
    | .cells cs e, some vs, some i => if vs.length ≠ i.size ∨ off + vs.length > cs.length ∨ vs.all one = false then none else some (.val undef, s.store b off cs e vs)
    | _, _, _ => none
  | _ => none

theorem eStore_sound (h : WRel ng B w0 G w s) {t : TypeId} {x v r : AV} {a b : Value} {s' : St} (hx : VR G w x a) (hv : VR G w v b) (hq : eStore P ng s t x v = some (r, s')) :
    Does P ng B w0 G w (do Instr.storeAt t a b; pure .skip) r s' := by
  unfold eStore at hq
  split at hq
  · rename_i bk off
    split at hq
    · cases hq
    · rename_i hng
      split at hq
      · rename_i cs e vs i hg hvs hi
        split at hq
        · cases hq
        · rename_i hc
          cases hq
          simp only [not_or, Nat.not_lt, ne_eq, Decidable.not_not] at hc
          obtain ⟨hc1, hc2, hc3⟩ := hc
          simp only [VR] at hx
          obtain ⟨_, rfl⟩ := hx
          have hvl := cellsOf_sound hv hvs
          obtain ⟨c, fz, h1, h2, h3, _⟩ := h.cells hg
          have hlen : b.cells.size = vs.length := by rw [← Array.length_toList]; exact hvl.length.symm
          have hcl : c.size = cs.length := by rw [← Array.length_toList]; exact h2.length.symm
          obtain ⟨g1, g2⟩ := h.store (by omega) hg hvl (off := off)
          have hone : ∀ u, u ∈ b.cells.toList → valOne u = true := by
            intro u hu
            obtain ⟨j, hj⟩ := List.getElem?_of_mem hu
            have hjl : j < vs.length := by rw [← hlen, ← Array.length_toList]; exact (List.getElem?_eq_some_iff.1 hj).1
            obtain ⟨y, hy1, hy2⟩ := hvl.get (List.getElem?_eq_getElem hjl)
            rw [hj] at hy1
            cases hy1
            have : one vs[j] = true := by
              have hall : vs.all one = true := by cases hh : vs.all one <;> simp_all
              exact List.all_eq_true.1 hall _ (List.getElem_mem hjl)
            exact (one_sound hy2 this).1
          have hrun := run_storeCells_at' (P := P) (G.ρ bk) off b.cells.toList 0 w c e fz h1 (by simp [hlen]; omega) (fun j hj _ => h3 j hj) hone
          refine ⟨.skip, undef, _, _, ?_, .inr ⟨rfl, rfl⟩, by simp [VR], g1, g2⟩
          simp only [Instr.storeAt, Instr.sureAddr, Sem.run_bind, Sem.run_pure, Result.andThen_ok, storeVar, r_size hi]
          rw [if_neg (by rw [hlen]; simp [hc1]), hrun]
          rfl
      · cases hq
  · cases hq

/-! ### maps: made, written -/
def eMakeMap (s : St) (r : Option AV) : Option (AV × St) :=
  match r with
  | none => some (.map s.next, s.push (.map [] 0))
  | some _ => none

theorem eMakeMap_sound (h : WRel ng B w0 G w s) {t : TypeId} {r : Option AV} {rv : Option Value} (hr : OptR G w r rv) {v : AV} {s' : St} (hq : eMakeMap s r = some (v, s')) :
    Does P ng B w0 G w (do pure (.value (← Instr.makeMap t rv))) v s' := by
  unfold eMakeMap at hq
  split at hq
  · cases hq
    have : rv = none := hr
    subst this
    rw [h.n]
    refine Does.of_new h (o := .map [] 0) (x := .map #[] 0) ⟨#[], rfl, rfl⟩ (Nat.zero_le _) (.map (some w.heap.size)) _ ?_ (by simp [VR, Ctx.new])
    simp [Instr.makeMap]
  · cases hq

end
end
end Go.AVM

namespace Go.AVM
open Go.RowKit
noncomputable section

section
variable {P : Program} {ng B : Nat} {w0 w : World} {G : Ctx} {s : St}

/-! ### entries -/
theorem EnR.push : ∀ {es : List AE} {xs : List MapEntry} {e : AE} {x : MapEntry}, EnR G w es xs → VR G w e.key x.key → VR G w e.val x.val → x.born = e.born → EnR G w (es ++ [e]) (xs ++ [x])
  | [], xs, e, x, h, h1, h2, h3 => by
    simp only [EnR] at h
    subst h
    exact ⟨x, [], rfl, h1, h2, h3, rfl⟩
  | d :: es, xs, e, x, h, h1, h2, h3 => by
    obtain ⟨y, ys, rfl, g1, g2, g3, g4⟩ := h
    exact ⟨y, ys ++ [x], rfl, g1, g2, g3, EnR.push g4 h1 h2 h3⟩

theorem EnR.modify {f : AE → AE} {g : MapEntry → MapEntry} (hfg : ∀ e x, VR G w e.key x.key → VR G w e.val x.val → x.born = e.born → VR G w (f e).key (g x).key ∧ VR G w (f e).val (g x).val ∧ (g x).born = (f e).born) :
    ∀ {es : List AE} {xs : List MapEntry} (j : Nat), EnR G w es xs → EnR G w (es.modify j f) (xs.modify j g)
  | [], xs, j, h => by
    simp only [EnR] at h
    subst h
    cases j <;> simp [EnR, List.modify]
  | d :: es, xs, 0, h => by
    obtain ⟨y, ys, rfl, g1, g2, g3, g4⟩ := h
    obtain ⟨k1, k2, k3⟩ := hfg d y g1 g2 g3
    exact ⟨g y, ys, rfl, k1, k2, k3, g4⟩
  | d :: es, xs, j + 1, h => by
    obtain ⟨y, ys, rfl, g1, g2, g3, g4⟩ := h
    exact ⟨y, ys.modify j g, rfl, g1, g2, g3, EnR.modify hfg j g4⟩

theorem Does.of_setObj (h : WRel ng B w0 G w s) {f : Sem Next} {b : Nat} (hb : ng ≤ b) {old : Obj} (hd : s.get b ≠ .dead) (hold : w.heap[G.ρ b]? = some old) (hrow : old.isRow = false)
    {o : AO} {x : Obj} (hx : OR G w o x) (hxr : x.isRow = false) {n : Next} {y : Value} {v : AV} (hn : NextIs n y)
    (hr : f.run P w = .ok n { w with heap := w.heap.setIfInBounds (G.ρ b) x }) (hv : VR G w v y) : Does P ng B w0 G w f v ((s.wmUp b o.hi).put b o) := by
  obtain ⟨h1, h2⟩ := h.setObj hb hd hold hrow o x hx hxr
  exact ⟨n, y, _, _, hr, hn, VR.ext h1 _ _ hv, h1, h2⟩

theorem run_setObj_eq {r : Nat} {old o : Obj} (h : w.heap[r]? = some old) (hr : old.isRow = false) : (setObj r o).run P w = .ok () { w with heap := w.heap.setIfInBounds r o } := by
  cases old <;> first | (simp [Obj.isRow] at hr; done) | (simp only [setObj, Sem.run, h])

/-- The map at a name, against the world's. -/
theorem WRel.mapAt (h : WRel ng B w0 G w s) {b : Nat} {es : List AE} {ck : Nat} (hg : s.get b = .map es ck) : ∃ xs : Array MapEntry, w.heap[G.ρ b]? = some (.map xs ck) ∧ EnR G w es xs.toList := by
  obtain ⟨o, h1, h2⟩ := h.obj b (by rw [hg]; simp)
  rw [hg] at h2
  obtain ⟨xs, rfl, h3⟩ := h2
  exact ⟨xs, h1, h3⟩

/-- The key that stays: the new one. -/
def staysA (old new : AV) : Bool :=
  match toV old, toV new with
  | some a, some b => Instr.sameBits 10000 a b
  | _, _ => false

theorem staysA_sound {o k : AV} {a b : Value} (ho : VR G w o a) (hk : VR G w k b) (h : staysA o k = true) : (Instr.keyThatStays a b).run P w = .ok b w := by
  unfold staysA at h
  split at h
  · rename_i x y hx hy
    have e1 := toV_eq _ _ _ hx ho
    have e2 := toV_eq _ _ _ hy hk
    subst e1
    subst e2
    simp [Instr.keyThatStays, h]
  · cases h

def eMapUpdate (P : Program) (ng : Nat) (s : St) (t : TypeId) (m k x : AV) : Option (AV × St) :=
  match und P t, m, toV k with
  | some (.map kt _), .map b, some kv => if b < ng then none else match s.get b with
    | .map es ck => match flat P (Instr.checkKey false 10000 kt kv), findA P kt kv es with
      | some (), some (some j) => match es[j]? with
        | some e => if staysA e.key k = true then
            some (.val undef, (s.wmUp b (AO.map (es.modify j fun e => { e with key := k, val := x }) ck).hi).put b (.map (es.modify j fun e => { e with key := k, val := x }) ck)) else none
        | none => none
      | some (), some none => some (.val undef, (s.wmUp b (AO.map (es ++ [{ key := k, val := x, born := ck }]) (ck + 1)).hi).put b (.map (es ++ [{ key := k, val := x, born := ck }]) (ck + 1)))
      | _, _ => none
    | _ => none
  | _, _, _ => none

theorem findA_at {kt : TypeId} {k : Value} {es : List AE} {xs : Array MapEntry} {j : Nat} {e : AE} (h : EnR G w es xs.toList) (hq : findA P kt k es = some (some j)) (he : es[j]? = some e) :
    ∃ x, xs[j]? = some x ∧ (Instr.findKey kt k xs.toList).run P w = .ok (some (j, x.val)) w ∧ VR G w e.key x.key ∧ VR G w e.val x.val ∧ x.born = e.born := by
  obtain ⟨g1, g2⟩ := findA_sound (P := P) h hq
  obtain ⟨e', x, g3, g4⟩ := g2 j rfl
  rw [he] at g3
  cases g3
  obtain ⟨k1, k2, k3⟩ := EnR.get h he g4
  refine ⟨x, by rw [← Array.getElem?_toList]; exact g4, ?_, k1, k2, k3⟩
  rw [g1]
  simp only [Option.bind_some]
  rw [g4]
  rfl

theorem eMapUpdate_sound (h : WRel ng B w0 G w s) {t : TypeId} {m k x v : AV} {a b c : Value} {s' : St} (hm : VR G w m a) (hk : VR G w k b) (hx : VR G w x c) (hq : eMapUpdate P ng s t m k x = some (v, s')) :
    Does P ng B w0 G w (do Instr.mapUpdate t a b c; pure .skip) v s' := by
  unfold eMapUpdate at hq
  split at hq
  · rename_i kt el bk kv hd hkv
    have e1 := toV_eq k b kv hkv hk
    subst e1
    split at hq
    · cases hq
    · rename_i hng
      split at hq
      · rename_i es ck hg
        simp only [VR] at hm
        obtain ⟨_, rfl⟩ := hm
        obtain ⟨xs, hh, hes⟩ := h.mapAt hg
        have hget := run_getObj_eq (P := P) hh rfl
        split at hq
        · rename_i j hc hf
          split at hq
          · rename_i e he
            split at hq
            · rename_i hst
              cases hq
              have hck := flat_run w _ hc
              obtain ⟨y, g1, g2, g3, g4, g5⟩ := findA_at (P := P) hes hf he
              have hkeep := staysA_sound (P := P) g3 hk hst
              refine Does.of_setObj h (by omega) (by rw [hg]; simp) hh rfl (o := .map (es.modify j fun e => { e with key := k, val := x }) ck) (x := .map (xs.modify j fun e => { e with key := b, val := c }) ck) ?_ rfl (.inr ⟨rfl, rfl⟩) ?_ (by simp [VR])
              · refine ⟨_, rfl, ?_⟩
                rw [Array.toList_modify]
                exact EnR.modify (f := fun e => { e with key := k, val := x }) (g := fun e => { e with key := b, val := c }) (fun e x _ _ h3 => ⟨hk, hx, h3⟩) j hes
              · simp only [Instr.mapUpdate, Sem.run_bind, r_und hd, Result.andThen_ok, hget, hck, g2]
                have : (((xs[j]?).map (·.key)).getD b) = y.key := by rw [g1]; rfl
                rw [this]
                simp only [hkeep, Result.andThen_ok, run_setObj_eq hh rfl, Sem.run_pure]
            · cases hq
          · cases hq
        · rename_i hc hf
          cases hq
          have hck := flat_run w _ hc
          obtain ⟨g1, _⟩ := findA_sound (P := P) hes hf
          refine Does.of_setObj h (by omega) (by rw [hg]; simp) hh rfl (o := .map (es ++ [{ key := k, val := x, born := ck }]) (ck + 1)) (x := .map (xs.push { key := b, val := c, born := ck }) (ck + 1)) (y := undef) (v := .val undef) ?_ rfl (.inr ⟨rfl, rfl⟩) ?_ (by simp [VR])
          · refine ⟨_, rfl, ?_⟩
            rw [Array.toList_push]
            exact EnR.push hes hk hx rfl
          · simp only [Instr.mapUpdate, Sem.run_bind, r_und hd, Result.andThen_ok, hget, hck, g1, Option.bind_none, run_setObj_eq hh rfl, Sem.run_pure]
        · cases hq
      · cases hq
  · cases hq

def eMapEntry (P : Program) (ng : Nat) (s : St) (t : TypeId) (m k : AV) : Option (AV × St) :=
  match und P t, m, toV k with
  | some (.map kt el), .map b, some kv => if b < ng then none else match s.get b with
    | .map es ck => match flat P (Instr.checkKey false 10000 kt kv), findA P kt kv es with
      | some (), some (some j) => match es[j]? with
        | some e => if staysA e.key k = true then
            some (.tup [e.val, .val (.int .i64 e.born)], (s.wmUp b (AO.map (es.modify j fun e => { e with key := k }) ck).hi).put b (.map (es.modify j fun e => { e with key := k }) ck)) else none
        | none => none
      | some (), some none => match zeroA P el with
        | some z => some (.tup [z, .val (.int .i64 ck)], (s.wmUp b (AO.map (es ++ [{ key := k, val := z, born := ck }]) (ck + 1)).hi).put b (.map (es ++ [{ key := k, val := z, born := ck }]) (ck + 1)))
        | none => none
      | _, _ => none
    | _ => none
  | _, _, _ => none

theorem eMapEntry_sound (h : WRel ng B w0 G w s) {t : TypeId} {m k v : AV} {a b : Value} {s' : St} (hm : VR G w m a) (hk : VR G w k b) (hq : eMapEntry P ng s t m k = some (v, s')) :
    Does P ng B w0 G w (do pure (.value (← Instr.mapEntry t a b))) v s' := by
  unfold eMapEntry at hq
  split at hq
  · rename_i kt el bk kv hd hkv
    have e1 := toV_eq k b kv hkv hk
    subst e1
    split at hq
    · cases hq
    · rename_i hng
      split at hq
      · rename_i es ck hg
        simp only [VR] at hm
        obtain ⟨_, rfl⟩ := hm
        obtain ⟨xs, hh, hes⟩ := h.mapAt hg
        have hget := run_getObj_eq (P := P) hh rfl
        split at hq
        · rename_i j hc hf
          split at hq
          · rename_i e he
            split at hq
            · rename_i hst
              cases hq
              have hck := flat_run w _ hc
              obtain ⟨y, g1, g2, g3, g4, g5⟩ := findA_at (P := P) hes hf he
              have hkeep := staysA_sound (P := P) g3 hk hst
              refine Does.of_setObj h (by omega) (by rw [hg]; simp) hh rfl (o := .map (es.modify j fun e => { e with key := k }) ck) (x := .map (xs.modify j fun e => { e with key := b }) ck) (y := .tuple #[y.val, .int .i64 e.born]) ?_ rfl (.inl rfl) ?_ (by simp [VR, VRL, g4])
              · refine ⟨_, rfl, ?_⟩
                rw [Array.toList_modify]
                exact EnR.modify (f := fun e => { e with key := k }) (g := fun e => { e with key := b }) (fun e x _ h2 h3 => ⟨hk, h2, h3⟩) j hes
              · simp only [Instr.mapEntry, Sem.run_bind, r_und hd, Result.andThen_ok, hget, hck, g2]
                have : (((xs[j]?).map (·.key)).getD b) = y.key := by rw [g1]; rfl
                rw [this]
                simp only [hkeep, Result.andThen_ok, run_setObj_eq hh rfl, Sem.run_pure]
                rw [g1]
                simp [goInt, g5]
            · cases hq
          · cases hq
        · rename_i hc hf
          split at hq
          · rename_i z hz
            cases hq
            have hck := flat_run w _ hc
            obtain ⟨zv, z1, z2⟩ := zeroA_sound (P := P) (G := G) (w := w) hz
            obtain ⟨g1, _⟩ := findA_sound (P := P) hes hf
            refine Does.of_setObj h (by omega) (by rw [hg]; simp) hh rfl (o := .map (es ++ [{ key := k, val := z, born := ck }]) (ck + 1)) (x := .map (xs.push { key := b, val := zv, born := ck }) (ck + 1)) (y := .tuple #[zv, .int .i64 ck]) (n := .value (.tuple #[zv, .int .i64 ck])) (v := .tup [z, .val (.int .i64 ck)]) ?_ rfl (.inl rfl) ?_ (by simp [VR, VRL, z2])
            · refine ⟨_, rfl, ?_⟩
              rw [Array.toList_push]
              exact EnR.push hes hk z2 rfl
            · simp only [Instr.mapEntry, Sem.run_bind, r_und hd, Result.andThen_ok, hget, hck, g1, Option.bind_none, z1, run_setObj_eq hh rfl, Sem.run_pure]
              rfl
          · cases hq
        · cases hq
      · cases hq
  · cases hq

theorem EnR.findIdx (n : Int) : ∀ {es : List AE} {xs : List MapEntry}, EnR G w es xs → xs.findIdx? (fun e => (e.born : Int) == n) = es.findIdx? (fun e => (e.born : Int) == n)
  | [], xs, h => by
    simp only [EnR] at h
    subst h
    rfl
  | e :: es, xs, h => by
    obtain ⟨y, ys, rfl, _, _, h3, h4⟩ := h
    rw [List.findIdx?_cons, List.findIdx?_cons, h3, EnR.findIdx n h4]

def eEntryStore (P : Program) (ng : Nat) (s : St) (m st x : AV) : Option (AV × St) :=
  match m, st with
  | .map b, .val (.int _ n) => if b < ng then none else match s.get b with
    | .map es ck => match es.findIdx? (fun e => (e.born : Int) == n) with
      | some j => some (.val undef, (s.wmUp b (AO.map (es.modify j fun e => { e with val := x }) ck).hi).put b (.map (es.modify j fun e => { e with val := x }) ck))
      | none => none
    | _ => none
  | _, _ => none

theorem eEntryStore_sound (h : WRel ng B w0 G w s) {t : TypeId} {m st x v : AV} {a b c : Value} {s' : St} (hm : VR G w m a) (hst : VR G w st b) (hx : VR G w x c) (hq : eEntryStore P ng s m st x = some (v, s')) :
    Does P ng B w0 G w (do Instr.entryStore t a b c; pure .skip) v s' := by
  unfold eEntryStore at hq
  split at hq
  · rename_i bk kd n
    split at hq
    · cases hq
    · rename_i hng
      split at hq
      · rename_i es ck hg
        split at hq
        · rename_i j hj
          cases hq
          simp only [VR] at hm hst
          obtain ⟨_, rfl⟩ := hm
          subst hst
          obtain ⟨xs, hh, hes⟩ := h.mapAt hg
          have hget := run_getObj_eq (P := P) hh rfl
          have hidx : xs.findIdx? (fun e => (e.born : Int) == n) = some j := by
            rw [← hj, ← EnR.findIdx n hes]
            cases xs
            simp
          refine Does.of_setObj h (by omega) (by rw [hg]; simp) hh rfl (o := .map (es.modify j fun e => { e with val := x }) ck) (x := .map (xs.modify j fun e => { e with val := c }) ck) ?_ rfl (.inr ⟨rfl, rfl⟩) ?_ (by simp [VR])
          · refine ⟨_, rfl, ?_⟩
            rw [Array.toList_modify]
            exact EnR.modify (f := fun e => { e with val := x }) (g := fun e => { e with val := c }) (fun e x h1 _ h3 => ⟨h1, hx, h3⟩) j hes
          · simp only [Instr.entryStore, Sem.run_bind, Result.andThen_ok, hget, asInt, asIntOf, Sem.run_pure, hidx, run_setObj_eq hh rfl]
        · cases hq
      · cases hq
  · cases hq

end
end
end Go.AVM

namespace Go.AVM
open Go.RowKit
noncomputable section

section
variable {P : Program} {ng B : Nat} {w0 w : World} {G : Ctx} {s : St}

/-! ### rows out of cells -/
def chunk (n sz : Nat) (l : List AV) : List (List AV) :=
  match n with
  | 0 => []
  | n + 1 => l.take sz :: chunk n sz (l.drop sz)

theorem chunk_spec (sz : Nat) : ∀ (n : Nat) (l : List AV), l.length = n * sz → (chunk n sz l).flatten = l ∧ (chunk n sz l).length = n ∧ ∀ e, e ∈ chunk n sz l → e.length = sz
  | 0, l, h => by
    have : l = [] := List.eq_nil_of_length_eq_zero (by simpa using h)
    subst this
    exact ⟨rfl, rfl, fun e he => by simp [chunk] at he⟩
  | n + 1, l, h => by
    rw [Nat.add_mul] at h
    obtain ⟨h1, h2, h3⟩ := chunk_spec sz n (l.drop sz) (by rw [List.length_drop]; omega)
    refine ⟨?_, by simp [chunk, h2], fun e he => ?_⟩
    · simp only [chunk, List.flatten_cons, h1, List.take_append_drop]
    · simp only [chunk, List.mem_cons] at he
      rcases he with rfl | he
      · rw [List.length_take]; omega
      · exact h3 e he

theorem rep_length {α : Type} (z : List α) (n : Nat) : (List.replicate n z).flatten.length = n * z.length := by
  rw [List.length_flatten]; simp

theorem rep_get {α : Type} (z : List α) : ∀ (n j : Nat), j < n * z.length → (List.replicate n z).flatten[j]? = z[j % z.length]?
  | 0, j, h => by simp at h
  | n + 1, j, h => by
    rw [List.replicate_succ, List.flatten_cons]
    by_cases hj : j < z.length
    · rw [List.getElem?_append_left hj, Nat.mod_eq_of_lt hj]
    · rw [List.getElem?_append_right (by omega), rep_get z n (j - z.length) (by rw [Nat.add_mul] at h; omega)]
      congr 1
      exact (Nat.mod_eq_sub_mod (by omega)).symm

theorem zeros_VRL {zc : List AV} {z : Array Value} (hz : VRL G w zc z.toList) (n : Nat) (hpos : n = 0 ∨ 0 < z.size) :
    VRL G w (List.replicate n zc).flatten ((Array.range (n * z.size)).map (fun i => z[i % z.size]!)).toList := by
  have hzl : zc.length = z.size := by rw [← Array.length_toList]; exact hz.length
  refine (VRL_iff _ _).2 ⟨by rw [rep_length, hzl]; simp, fun j c x hc hx => ?_⟩
  have hj : j < n * z.size := by
    have := (List.getElem?_eq_some_iff.1 hc).1
    rwa [rep_length, hzl] at this
  have hzpos : 0 < z.size := by
    rcases hpos with rfl | h
    · simp at hj
    · exact h
  rw [rep_get zc n j (by rw [hzl]; exact hj), hzl] at hc
  have hm : j % z.size < z.size := Nat.mod_lt _ hzpos
  obtain ⟨y, hy, hv⟩ := hz.get hc
  rw [Array.getElem?_toList] at hy hx
  have hx' : ((Array.range (n * z.size)).map (fun i => z[i % z.size]!))[j]? = some (z[j % z.size]!) := by
    rw [Array.getElem?_map, Array.getElem?_range, if_pos hj]
    rfl
  rw [hx'] at hx
  cases hx
  rw [getElem!_pos z (j % z.size) hm]
  rw [Array.getElem?_eq_getElem hm] at hy
  cases hy
  exact hv

/-- The rows of a literal that tells all its elements, from the first on. -/
def rowsOf (sz len : Nat) (k : Nat) (parts : List (Nat × AV)) : Option (List (List AV)) := parts.rec (fun k => match Nat.beq k len with
    | true => some []
    | false => none) (fun p _ ih k => match Nat.beq p.1 k with
    | true => match cellsOf p.2 with
      | some cs => match Nat.beq (rlen cs) sz with
        | true => match ih (Nat.succ k) with
          | some l => some (cs :: l)
          | none => none
        | false => none
      | none => none
    | false => none) k

theorem rowsOf_fill {sz len : Nat} : ∀ (parts : List (Nat × AV)) (k : Nat) (rows : List (List AV)) (cells : List AV), rowsOf sz len k parts = some rows → cells.length = len * sz →
    rows.length + k = len ∧ (∀ e, e ∈ rows → e.length = sz) ∧ fillA (fun k => some (k * sz, sz)) cells parts = some (cells.take (k * sz) ++ rows.flatten)
  | [], k, rows, cells, h, hc => by
    unfold rowsOf at h
    simp only at h
    split at h
    · rename_i hk
      cases h
      have := Nat.eq_of_beq_eq_true hk
      subst this
      refine ⟨by simp, fun e he => by simp at he, ?_⟩
      simp only [fillA, List.flatten_nil, List.append_nil]
      rw [List.take_of_length_le (by omega)]
    · cases h
  | (i, v) :: parts, k, rows, cells, h, hc => by
    change (match Nat.beq i k with
      | true => match cellsOf v with
        | some cs => match Nat.beq (rlen cs) sz with
          | true => match rowsOf sz len (Nat.succ k) parts with
            | some l => some (cs :: l)
            | none => none
          | false => none
        | none => none
      | false => none : Option (List (List AV))) = some rows at h
    split at h
    · rename_i hk
      have := Nat.eq_of_beq_eq_true hk
      subst this
      split at h
      · rename_i cs hcs
        split at h
        · rename_i hsz
          have hsz' : cs.length = sz := by rw [← rlen_eq]; exact Nat.eq_of_beq_eq_true hsz
          split at h
          · rename_i l hl
            cases h
            have hc2 : (ow cells (i * sz) cs).length = len * sz := by rw [ow_length]; exact hc
            obtain ⟨h1, h2, h3⟩ := rowsOf_fill parts (i + 1) l (ow cells (i * sz) cs) hl hc2
            refine ⟨by simp; omega, fun e he => ?_, ?_⟩
            · rcases List.mem_cons.1 he with rfl | he
              · exact hsz'
              · exact h2 e he
            · have hroom : i * sz + cs.length ≤ cells.length := by
                have : (i + 1) * sz ≤ len * sz := Nat.mul_le_mul_right sz (by omega)
                rw [Nat.add_mul] at this
                omega
              simp only [fillA, hcs]
              rw [if_neg (by simp only [hsz', not_or, ne_eq, not_true_eq_false, not_false_eq_true, true_and]; rw [hsz'] at hroom; omega), h3]
              congr 1
              rw [List.flatten_cons, ← List.append_assoc]
              congr 1
              refine List.ext_getElem? fun j => ?_
              rw [List.getElem?_take, ow_get cs cells (i * sz) j hroom, List.getElem?_append, List.length_take, List.getElem?_take, Nat.min_eq_left (by omega)]
              rw [Nat.add_mul]
              by_cases h4 : j < i * sz
              · rw [if_pos (by omega), if_neg (by omega), if_pos h4, if_pos h4]
              · rw [if_neg h4]
                by_cases h5 : j < i * sz + 1 * sz
                · rw [if_pos h5, if_pos (by omega)]
                · rw [if_neg h5, List.getElem?_eq_none (by omega)]
          · cases h
        · cases h
      · cases h
    · cases h

def rowsA (sz len : Nat) (zc : List AV) (parts : List (Nat × AV)) : Option (List (List AV)) :=
  match rowsOf sz len 0 parts with
  | some rows => some rows
  | none => match fillA (fun k => some (k * sz, sz)) (List.replicate len zc).flatten parts with
    | some cs => some (chunk len sz cs)
    | none => none

theorem chunk_flat {sz : Nat} : ∀ (rows : List (List AV)), (∀ e, e ∈ rows → e.length = sz) → chunk rows.length sz rows.flatten = rows
  | [], _ => rfl
  | r :: rows, h => by
    have hr : r.length = sz := h r (by simp)
    simp only [List.length_cons, chunk, List.flatten_cons]
    rw [List.take_left' hr, List.drop_left' hr, chunk_flat rows fun e he => h e (by simp [he])]

theorem rowsA_fill {sz len : Nat} {zc : List AV} (hz : zc.length = sz) {parts : List (Nat × AV)} {rows : List (List AV)} (h : rowsA sz len zc parts = some rows) :
    ∃ cs, fillA (fun k => some (k * sz, sz)) (List.replicate len zc).flatten parts = some cs ∧ rows = chunk len sz cs := by
  unfold rowsA at h
  split at h
  · rename_i l hl
    cases h
    obtain ⟨h1, h2, h3⟩ := rowsOf_fill parts 0 rows _ hl (by rw [rep_length, hz])
    refine ⟨_, h3, ?_⟩
    simp only [Nat.zero_mul, List.take_zero, List.nil_append]
    have hlen : rows.length = len := by omega
    rw [← hlen]
    exact (chunk_flat rows h2).symm
  · split at h
    · rename_i cs hcs
      cases h
      exact ⟨cs, hcs, rfl⟩
    · cases h

/-! ### slices: literals, make -/
def eBuildSlice (P : Program) (s : St) (mu : Bool) (t : TypeId) (len : Nat) (parts : List (Nat × AV)) : Option (AV × St) :=
  match und P t with
  | some (.slice e) => match inf P e, zeroA P e with
    | some i, some z => match cellsOf z with
      | some zc => if zc.length ≠ i.size ∨ len * i.size > 2 ^ 24 then none else
        match rowsA i.size len zc parts with
        | some rows => if mu = true then some (.ms s.next 0 len len, s.push (.cells rows.flatten e)) else some (.sl rows i.size (.own s.tok e), s.row)
        | none => none
      | none => none
    | _, _ => none
  | _ => none

theorem fillA_length {place : Nat → Option (Nat × Nat)} : ∀ (l : List (Nat × AV)) (cells r : List AV), fillA place cells l = some r → r.length = cells.length
  | [], cells, r, h => by simp only [fillA] at h; cases h; rfl
  | (i, v) :: l, cells, r, h => by
    simp only [fillA] at h
    split at h
    · split at h
      · cases h
      · rw [fillA_length l _ r h, ow_length]
    · cases h

theorem eBuildSlice_sound (h : WRel ng B w0 G w s) {mu : Bool} {t : TypeId} {len : Nat} {parts : List (Nat × AV)} {xs : Array (Nat × Value)} (hp : PartsR G w parts xs.toList) {v : AV} {s' : St}
    (hq : eBuildSlice P s mu t len parts = some (v, s')) : Does P ng B w0 G w (do pure (.value (← Instr.buildSlice t len xs))) v s' := by
  unfold eBuildSlice at hq
  split at hq
  · rename_i e hd
    split at hq
    · rename_i i z hi hz
      split at hq
      · rename_i zc hzc
        split at hq
        · cases hq
        · rename_i hc
          simp only [not_or, ne_eq, Decidable.not_not, Nat.not_lt] at hc
          obtain ⟨hc1, hc2⟩ := hc
          split at hq
          · rename_i rows hrows
            obtain ⟨cs, hcs, rfl⟩ := rowsA_fill hc1 hrows
            obtain ⟨zv, z1, z2⟩ := zeroA_sound (P := P) (G := G) (w := w) hz
            have hzz := cellsOf_sound z2 hzc
            have hzsz : zv.cells.size = i.size := by rw [← Array.length_toList, ← hc1]; exact hzz.length.symm
            -- the zero row
            have hrow : ∃ zr : Array Value, ((len * i.size = 0 ∧ zr = #[]) ∨ (¬ len * i.size = 0 ∧ zr = zv.cells)) ∧
                VRL G w (List.replicate len zc).flatten ((Array.range (len * i.size)).map (zr[· % zr.size]!)).toList := by
              by_cases h0 : len * i.size = 0
              · refine ⟨#[], .inl ⟨h0, rfl⟩, ?_⟩
                have : (List.replicate len zc).flatten = [] := List.eq_nil_of_length_eq_zero (by rw [rep_length, hc1]; exact h0)
                rw [this, h0]
                simp [VRL]
              · refine ⟨zv.cells, .inr ⟨h0, rfl⟩, ?_⟩
                have := zeros_VRL hzz len (.inr (by rw [hzsz]; exact Nat.pos_of_ne_zero fun hh => h0 (by rw [hh, Nat.mul_zero])))
                rw [← hzsz]
                exact this
            obtain ⟨zr, hzr1, hzr2⟩ := hrow
            obtain ⟨r', g1, g2⟩ := fillA_sound parts xs.toList _ _ cs hp hzr2 hcs
            have hrun : (Instr.buildSlice t len xs).run P w = .ok (.slice (some ⟨w.heap.size, 0, none⟩) len len) (w.alloc (.cells r' e)) := by
              simp only [Instr.buildSlice, Sem.run_bind, r_und hd, r_size hi, Result.andThen_ok]
              rw [if_neg (by omega)]
              rcases hzr1 with ⟨h0, rfl⟩ | ⟨h0, rfl⟩
              · rw [if_pos h0]
                simp only [Sem.run_bind, Sem.run_pure, Result.andThen_ok]
                rw [g1]
                simp [newRow]
              · rw [if_neg h0]
                simp only [Sem.run_bind, Sem.run_pure, Result.andThen_ok, z1]
                rw [g1]
                simp [newRow]
            have hcl : cs.length = len * i.size := by rw [fillA_length _ _ _ hcs, rep_length, hc1]
            split at hq
            · cases hq
              rw [h.n, (chunk_spec i.size len cs hcl).1]
              refine Does.of_new h (OR_cells g2 e) (VRL.hi cs _ g2) (.slice (some ⟨w.heap.size, 0, none⟩) len len) _ ?_ (by simp [VR, Ctx.new])
              simp [hrun]
            · cases hq
              obtain ⟨k1, k2, k3⟩ := chunk_spec i.size len cs hcl
              have hsz : r'.size = len * i.size := by rw [← Array.length_toList, ← hcl]; exact g2.length.symm
              obtain ⟨m1, m2, m3⟩ := h.row r' e (0, 0) (chunk len i.size cs) i.size r'.toList [] (by simp) k3 (by rw [k1]; exact g2) (fun j _ _ hh => absurd hh.2 (Nat.not_lt_zero _)) len (by rw [k2]; exact Nat.le_refl _) (by rw [hsz]; exact Nat.le_refl _)
              rw [k2] at m3
              exact ⟨.value _, _, _, _, by simp only [Sem.run_bind, hrun, Result.andThen_ok, Sem.run_pure], .inl rfl, m3, m1, m2⟩
          · cases hq
      · cases hq
    · cases hq
  · cases hq

def eMakeSlice (P : Program) (s : St) (t : TypeId) (l c : AV) : Option (AV × St) :=
  match und P t, l, c with
  | some (.slice e), .val (.int _ (.ofNat n)), .val (.int _ (.ofNat m)) => match inf P e, zeroA P e with
    | some i, some z => match cellsOf z with
      | some zc => if zc.length ≠ i.size ∨ n > m ∨ m > 1099511627776 ∨ i.bytes * m > 140737488355328 then none else
          some (.ms s.next 0 n m, s.push (.cells (List.replicate m zc).flatten e))
      | none => none
    | _, _ => none
  | _, _, _ => none

theorem wrap_small {n : Nat} (h : n ≤ 1099511627776) : IntKind.i64.wrap (n : Int) = n := IntWalk.i64_in _ (by omega)

theorem eMakeSlice_sound (h : WRel ng B w0 G w s) {t : TypeId} {l c v : AV} {a b : Value} {s' : St} (hl : VR G w l a) (hcv : VR G w c b) (hq : eMakeSlice P s t l c = some (v, s')) :
    Does P ng B w0 G w (do pure (.value (← Instr.makeSlice t a b))) v s' := by
  unfold eMakeSlice at hq
  split at hq
  · rename_i e k1 n k2 m hd
    simp only [VR] at hl hcv
    subst hl
    subst hcv
    split at hq
    · rename_i i z hi hz
      split at hq
      · rename_i zc hzc
        split at hq
        · cases hq
        · rename_i hc
          simp only [not_or, ne_eq, Decidable.not_not, Nat.not_lt] at hc
          obtain ⟨hc1, hc2, hc3, hc4⟩ := hc
          cases hq
          obtain ⟨zv, z1, z2⟩ := zeroA_sound (P := P) (G := G) (w := w) hz
          have hzz := cellsOf_sound z2 hzc
          have hzsz : zv.cells.size = i.size := by rw [← Array.length_toList, ← hc1]; exact hzz.length.symm
          have hrow : ∃ zr : Array Value, ((m * i.size = 0 ∧ zr = #[]) ∨ (¬ m * i.size = 0 ∧ zr = zv.cells)) ∧
              VRL G w (List.replicate m zc).flatten ((Array.range (m * i.size)).map (zr[· % zr.size]!)).toList := by
            by_cases h0 : m * i.size = 0
            · refine ⟨#[], .inl ⟨h0, rfl⟩, ?_⟩
              have : (List.replicate m zc).flatten = [] := List.eq_nil_of_length_eq_zero (by rw [rep_length, hc1]; exact h0)
              rw [this, h0]
              simp [VRL]
            · refine ⟨zv.cells, .inr ⟨h0, rfl⟩, ?_⟩
              have := zeros_VRL hzz m (.inr (by rw [hzsz]; exact Nat.pos_of_ne_zero fun hh => h0 (by rw [hh, Nat.mul_zero])))
              rw [← hzsz]
              exact this
          obtain ⟨zr, hzr1, hzr2⟩ := hrow
          have wn : IntKind.i64.wrap (Int.ofNat n) = (n : Int) := wrap_small (by omega)
          have wm : IntKind.i64.wrap (Int.ofNat m) = (m : Int) := wrap_small hc3
          rw [h.n]
          refine Does.of_new h (OR_cells hzr2 e) (VRL.hi _ _ hzr2) (.slice (some ⟨w.heap.size, 0, none⟩) n m) _ ?_ (by simp [VR, Ctx.new])
          have p48 : (2 : Int) ^ 48 = 281474976710656 := by simp
          have proom : roomBytes = 140737488355328 := by simp [roomBytes]
          have hb : ((i.bytes : Int) * (m : Int)) ≤ 140737488355328 := by
            have : ((i.bytes * m : Nat) : Int) ≤ ((140737488355328 : Nat) : Int) := Int.ofNat_le.2 hc4
            simpa using this
          have hcond : ¬ ((decide ((m : Int) < 0) || decide ((i.bytes : Int) * (m : Int) > 2 ^ 48) || decide ((n : Int) < 0) || decide ((n : Int) > (m : Int))) = true) := by
            rw [p48]
            simp only [Bool.or_eq_true, decide_eq_true_eq, not_or]
            refine ⟨⟨⟨by omega, by omega⟩, by omega⟩, by omega⟩
          have hroom : (askRoom (m * i.bytes)).run P w = .ok () w := by
            simp only [askRoom]
            rw [if_neg (by rw [proom, Nat.mul_comm]; omega)]
            rfl
          simp only [Instr.makeSlice, Sem.run_bind, r_und hd, r_info hi, Result.andThen_ok, asInt, asIntOf, Sem.run_pure, wn, wm]
          rw [if_neg (by simpa using hcond)]
          simp only [Sem.run_bind, Int.toNat_natCast, hroom, Result.andThen_ok, r_size hi]
          rcases hzr1 with ⟨h0, rfl⟩ | ⟨h0, rfl⟩
          · rw [if_pos h0]
            simp [newRow]
          · rw [if_neg h0]
            simp [newRow, z1]
      · cases hq
    · cases hq
  · cases hq

/-! ### ranging -/
def eRange (P : Program) (s : St) (t : TypeId) (x : AV) : Option (AV × St) :=
  match und P t, x with
  | some .string, .val (.string sv) => some (.ptr s.next 0, s.push (.siter sv 0))
  | some (.map _ _), .val (.map none) => some (.ptr s.next 0, s.push (.miter none 0 [] 0))
  | some (.map _ _), .map m => match s.get m with
    | .map _ ck => some (.ptr s.next 0, s.push (.miter (some m) ck [] ck))
    | _ => none
  | _, _ => none

theorem eRange_sound (h : WRel ng B w0 G w s) {t : TypeId} {x v : AV} {a : Value} {s' : St} (hx : VR G w x a) (hq : eRange P s t x = some (v, s')) :
    Does P ng B w0 G w (do pure (.value (← Instr.range t a))) v s' := by
  unfold eRange at hq
  split at hq
  · rename_i sv hd
    cases hq
    simp only [VR] at hx
    subst hx
    rw [h.n]
    refine Does.of_new h (o := .siter sv 0) (x := .stringIter sv 0) rfl (Nat.zero_le _) _ _ ?_ (new_ptr G w _ 0)
    simp [Instr.range, r_und hd]
  · rename_i k e hd
    cases hq
    simp only [VR] at hx
    subst hx
    rw [h.n]
    refine Does.of_new h (o := .miter none 0 [] 0) (x := .mapIter none 0 #[] 0) ⟨fun b hb => (by cases hb), rfl⟩ (Nat.zero_le _) _ _ ?_ (new_ptr G w _ 0)
    simp [Instr.range, r_und hd]
  · rename_i k e m hd
    split at hq
    · rename_i es ck hg
      cases hq
      simp only [VR] at hx
      obtain ⟨hm, rfl⟩ := hx
      obtain ⟨xs, hh, hes⟩ := h.mapAt hg
      have hget := run_getObj_eq (P := P) hh rfl
      rw [h.n]
      refine Does.of_new h (o := .miter (some m) ck [] ck) (x := .mapIter (some (G.ρ m)) ck #[] ck) ⟨fun b hb => (by cases hb; exact hm), rfl⟩ hm _ _ ?_ (new_ptr G w _ 0)
      simp [Instr.range, r_und hd, hget]
    · cases hq
  · cases hq

end
end
end Go.AVM

namespace Go.AVM
open Go.RowKit
noncomputable section

section
variable {P : Program} {ng B : Nat} {w0 w : World} {G : Ctx} {s : St}

theorem gather {b : Nat} : ∀ (l : List AV) (o : Nat), (∀ (j : Nat) (c : AV), l[j]? = some c → ∃ x, w.cell? ⟨b, o + j, none⟩ = some x ∧ VR G w c x) →
    ∃ xs : List Value, VRL G w l xs ∧ ∀ (j : Nat) (v : Value), xs[j]? = some v → w.cell? ⟨b, o + j, none⟩ = some v
  | [], o, _ => ⟨[], by simp [VRL], fun j v hj => by simp at hj⟩
  | c :: l, o, h => by
    obtain ⟨x, hx, hv⟩ := h 0 c rfl
    obtain ⟨xs, h1, h2⟩ := gather l (o + 1) (fun j d hd => by
      have := h (j + 1) d (by simpa using hd)
      rwa [show o + (j + 1) = o + 1 + j by omega] at this)
    refine ⟨x :: xs, by simp only [VRL]; exact ⟨x, xs, rfl, hv, h1⟩, fun j v hj => ?_⟩
    cases j with
    | zero => simp at hj; subst hj; exact hx
    | succ j =>
      have := h2 j v (by simpa using hj)
      rwa [show o + 1 + j = o + (j + 1) by omega] at this

/-- The elements of what is appended. -/
def srcEls (s : St) (size : Nat) : AV → Option (List (List AV))
  | .sl es sz _ => if sz = size ∨ es = [] then some es else none
  | .ms b off n _ => match s.get b with
    | .cells cs _ => if off + n * size ≤ cs.length then some (chunk n size ((cs.drop off).take (n * size))) else none
    | _ => none
  | .val (.string sv) => if size = 1 then some (sv.data.toList.map fun u => [.val (.int .u8 u.toNat)]) else none
  | _ => none

theorem ElR.cells {b o sz : Nat} {es : List (List AV)} (h : ElR G w b o sz es) : ∀ (j : Nat) (c : AV), es.flatten[j]? = some c → G.I b (o + j) ∧ ∃ x, w.cell? ⟨b, o + j, none⟩ = some x ∧ VR G w c x := by
  intro j c hj
  have hl := h.lens
  have hjl : j < es.length * sz := by
    have := (List.getElem?_eq_some_iff.1 hj).1
    rwa [flat_length sz es hl] at this
  have hsz : 0 < sz := by
    rcases Nat.eq_zero_or_pos sz with rfl | hh
    · simp at hjl
    · exact hh
  have hi : j / sz < es.length := (Nat.div_lt_iff_lt_mul hsz).2 hjl
  obtain ⟨h1, h2⟩ := (ElR_iff sz es b o).1 h (j / sz) es[j / sz] (List.getElem?_eq_getElem hi)
  have hm : j % sz < es[j / sz].length := by rw [h1]; exact Nat.mod_lt _ hsz
  have hf := flat_get sz es hl (j / sz) es[j / sz] (j % sz) es[j / sz][j % sz] (List.getElem?_eq_getElem hi) (List.getElem?_eq_getElem hm)
  have hdm : j / sz * sz + j % sz = j := by rw [Nat.mul_comm]; exact Nat.div_add_mod j sz
  rw [hdm, hj] at hf
  cases hf
  have := (ClR_iff _ b _).1 h2 (j % sz) _ (List.getElem?_eq_getElem hm)
  rwa [show o + j / sz * sz + j % sz = o + j by omega] at this

theorem srcEls_sound (h : WRel ng B w0 G w s) {size : Nat} {x : AV} {a : Value} {els : List (List AV)} (hx : VR G w x a) (hq : srcEls s size x = some els) :
    (∀ e, e ∈ els → e.length = size) ∧ (Builtin.lenOf a).run P w = .ok els.length w ∧ ∃ ys : Array Value, (∀ w' : World, w'.heap = w.heap → (Builtin.firstCells size els.length a).run P w' = .ok ys w') ∧ VRL G w els.flatten ys.toList := by
  unfold srcEls at hq
  split at hq
  · rename_i es sz tk
    split at hq
    · rename_i hs
      obtain rfl : es = els := by simpa using hq
      simp only [VR] at hx
      rcases hx with ⟨rfl, rfl, _⟩ | ⟨_, b, o, cap, rfl, _, _, hel, _⟩
      · exact ⟨fun e he => by simp at he, by simp [Builtin.lenOf], #[], fun w' _ => by simp [Builtin.firstCells], by simp [VRL]⟩
      · have hl : ∀ e, e ∈ es → e.length = size := fun e he => by
          rcases hs with rfl | rfl
          · exact hel.lens e he
          · simp at he
        refine ⟨hl, by simp [Builtin.lenOf], ?_⟩
        obtain ⟨xs, h1, h2⟩ := gather (b := b) es.flatten o (fun j c hj => (hel.cells j c hj).2)
        have hxl : xs.length = es.length * size := by rw [← flat_length size es hl]; exact h1.length.symm
        refine ⟨xs.toArray, fun w' hw' => ?_, by simpa using h1⟩
        simp only [Builtin.firstCells]
        rw [← hxl]
        refine run_loadCells_list (P := P) w' ⟨b, o, none⟩ xs (fun j v hj => ?_)
        rw [addr_add]
        have := h2 j v hj
        simpa only [World.cell?, hw'] using this
    · cases hq
  · rename_i b off n cap
    split at hq
    · rename_i cs el hg
      split at hq
      · rename_i hn
        cases hq
        simp only [VR] at hx
        obtain ⟨_, rfl⟩ := hx
        obtain ⟨c, fz, g1, g2, g3, g4⟩ := h.cells hg
        have hlen : ((cs.drop off).take (n * size)).length = n * size := by rw [List.length_take, List.length_drop, Nat.min_eq_left (by omega)]
        obtain ⟨k1, k2, k3⟩ := chunk_spec size n _ hlen
        refine ⟨k3, by simp [Builtin.lenOf, k2], ?_⟩
        obtain ⟨xs, h1, h2⟩ := gather (b := G.ρ b) ((cs.drop off).take (n * size)) off (fun j c hj => by
          rw [List.getElem?_take] at hj
          split at hj
          · rw [List.getElem?_drop] at hj
            obtain ⟨x, hx, hv⟩ := g4 (off + j) c hj
            exact ⟨x, by rwa [Nat.zero_add] at hx, hv⟩
          · cases hj)
        have hxl : xs.length = n * size := by rw [← hlen]; exact h1.length.symm
        rw [k1, k2]
        refine ⟨xs.toArray, fun w' hw' => ?_, by simpa using h1⟩
        simp only [Builtin.firstCells]
        rw [← hxl]
        refine run_loadCells_list (P := P) w' ⟨G.ρ b, off, none⟩ xs (fun j v hj => ?_)
        rw [addr_add]
        have := h2 j v hj
        simpa only [World.cell?, hw'] using this
      · cases hq
    · cases hq
  · rename_i sv
    split at hq
    · rename_i hs
      cases hq
      simp only [VR] at hx
      subst hx
      subst hs
      refine ⟨fun e he => by simp at he; obtain ⟨u, _, rfl⟩ := he; rfl, by rw [List.length_map, Array.length_toList]; rfl, (sv.data.map fun u => .int .u8 u.toNat), fun w' _ => ?_, ?_⟩
      · have : sv.extract 0 (sv.data.toList.map fun u => [AV.val (.int .u8 u.toNat)]).length = sv := by
          simp only [List.length_map, Array.length_toList]
          exact ByteArray.extract_zero_size
        simp only [Builtin.firstCells, this, Sem.run_pure]
      · rw [Array.toList_map]
        generalize sv.data.toList = l
        induction l with
        | nil => simp [VRL]
        | cons u l ih =>
          simp only [List.map_cons, List.flatten_cons, List.singleton_append, VRL]
          exact ⟨_, _, rfl, by simp [VR], ih⟩
    · cases hq
  · cases hq

theorem run_val {f : Sem Value} {y : Value} {w' : World} (h : f.run P w = .ok y w') : (do pure (Next.value (← f)) : Sem Next).run P w = .ok (.value y) w' := by
  simp only [Sem.run_bind, h, Result.andThen_ok, Sem.run_pure]

theorem Does.quiet (h : WRel ng B w0 G w s) {f : Sem Value} {y : Value} {v : AV} (hr : f.run P w = .ok y w) (hv : VR G w v y) : Does P ng B w0 G w (do pure (.value (← f))) v s :=
  ⟨_, y, w, G, run_val hr, .inl rfl, hv, Ext.refl _ _, h⟩

theorem growBy_le (newLen : Nat) : ∀ (r c : Nat), c < newLen → Builtin.growBy newLen r c ≤ newLen + (newLen + 768) / 4
  | 0, c, h => by simp only [Builtin.growBy]; omega
  | r + 1, c, h => by
    simp only [Builtin.growBy]
    rw [if_neg (by omega)]
    by_cases h2 : c + (c + 768) / 4 < newLen
    · exact growBy_le newLen r _ h2
    · cases r with
      | zero => simp only [Builtin.growBy]; omega
      | succ r => simp only [Builtin.growBy]; rw [if_pos (by omega)]; omega

theorem nextcap_le {need cap : Nat} (h : cap < need) : Builtin.nextslicecap need cap ≤ 2 * need + 192 := by
  unfold Builtin.nextslicecap
  split
  · omega
  · split
    · omega
    · have := growBy_le need 4 cap h
      omega

/-- append where it grows: the new row. -/
theorem run_append_grow' {ts : Array TypeId} {t0 t1 e : TypeId} {i : TypeInfo} {d1 : TypeDesc} (ht : ts[0]? = some t0) (ht1 : ts[1]? = some t1) (hd : und P t0 = some (.slice e)) (hd1 : und P t1 = some d1)
    (hni : (∃ e1, d1 = .slice e1) ∨ d1 = .string) (hi : inf P e = some i) {z : Value} (hz : i.zero = some z) (hb : i.bytes ≤ 4096) {base : Option Addr} {n cap : Nat} {x : Value} {k : Nat} (hk : n + k ≤ 1073741824) (hg : cap < n + k)
    {old new : Array Value} (hlen : (Builtin.lenOf x).run P w = .ok k w) (hold : ∀ w' : World, w'.heap = w.heap → (Builtin.firstCells i.size n (.slice base n cap)).run P w' = .ok old w') (hnew : ∀ w' : World, w'.heap = w.heap → (Builtin.firstCells i.size k x).run P w' = .ok new w') (ty : TypeId) :
    ∃ cp, n + k ≤ cp ∧ (Builtin.append_ ts ty #[.slice base n cap, x]).run P w = .ok (.slice (some ⟨w.heap.size, 0, none⟩) (n + k) cp) (w.drew.alloc (.cells (old ++ new ++ Builtin.zeroCells z.cells (cp - (n + k))) e)) := by
  refine ⟨grownCap w (n + k) cap e, grownCap_ge w (n + k) cap e, ?_⟩
  have hcap := nextcap_le hg
  have hmul : Builtin.nextslicecap (n + k) cap * i.bytes ≤ (2 * (n + k) + 192) * 4096 := Nat.mul_le_mul hcap hb
  have h48 : ¬ (281474976710656 < Builtin.nextslicecap (n + k) cap * i.bytes) := by omega
  have h63' : ¬ (9223372036854775807 < ((n : Int) + (k : Int))) := by omega
  have hn : ¬ (n + k ≤ cap) := by omega
  have hro := hold w.drew rfl
  have hrn := hnew w.drew rfl
  have hroom : ∀ m, (askRoom m).run P w.drew = .ok () w.drew := by
    intro m
    simp only [askRoom]
    split <;> rfl
  rcases hni with ⟨e1, rfl⟩ | rfl <;>
    simp [Builtin.append_, ht, ht1, r_und hd, r_und hd1, r_size hi, r_info hi, hlen, hn, h63', h48, Question.forced, hroom, hro, hrn, r_zero hi hz, newRow, grownCap]

end
end
end Go.AVM

namespace Go.AVM
open Go.RowKit
noncomputable section

section
variable {P : Program} {ng B : Nat} {w0 w : World} {G : Ctx} {s : St}

theorem run_append_in {ts : Array TypeId} {t0 t1 e : TypeId} {i : TypeInfo} {d1 : TypeDesc} (ht : ts[0]? = some t0) (ht1 : ts[1]? = some t1) (hd : und P t0 = some (.slice e)) (hd1 : und P t1 = some d1)
    (hni : (∃ e1, d1 = .slice e1) ∨ d1 = .string) (hi : inf P e = some i) {b o n cap k : Nat} {x : Value} (hg : n + k ≤ cap) {new : Array Value}
    (hlen : (Builtin.lenOf x).run P w = .ok k w) (hnew : (Builtin.firstCells i.size k x).run P w = .ok new w)
    {c : Array Value} {el : TypeId} {fz : Nat × Nat} (hc : w.heap[b]? = some (.cells c el fz)) (hsz : o + n * i.size + new.size ≤ c.size)
    (hfz : ∀ j, j < c.size → o + n * i.size ≤ j → ¬ (fz.1 ≤ j ∧ j < fz.2)) (hone : ∀ u, u ∈ new.toList → valOne u = true) (ty : TypeId) :
    (Builtin.append_ ts ty #[.slice (some ⟨b, o, none⟩) n cap, x]).run P w = .ok (.slice (some ⟨b, o, none⟩) (n + k) cap) (w.putCells b (o + n * i.size) new.toList) := by
  have hst := run_storeCells_at' (P := P) b (o + n * i.size) new.toList 0 w c el fz hc (by simpa using hsz) (by simpa using hfz) hone
  simp only [Nat.add_zero] at hst
  rcases hni with ⟨e1, rfl⟩ | rfl <;>
    simp [Builtin.append_, ht, ht1, r_und hd, r_und hd1, r_size hi, r_info hi, hlen, hg, hnew, addr_add, hst]

theorem run_append_zero {ts : Array TypeId} {t0 t1 e : TypeId} {i : TypeInfo} {d1 : TypeDesc} (ht : ts[0]? = some t0) (ht1 : ts[1]? = some t1) (hd : und P t0 = some (.slice e)) (hd1 : und P t1 = some d1)
    (hni : (∃ e1, d1 = .slice e1) ∨ d1 = .string) (hi : inf P e = some i) {base : Option Addr} {n cap : Nat} {x : Value} (hg : n ≤ cap)
    (hlen : (Builtin.lenOf x).run P w = .ok 0 w) (hnew : (Builtin.firstCells i.size 0 x).run P w = .ok #[] w) (ty : TypeId) :
    (Builtin.append_ ts ty #[.slice base n cap, x]).run P w = .ok (.slice base n cap) w := by
  cases base <;> rcases hni with ⟨e1, rfl⟩ | rfl <;>
    simp [Builtin.append_, ht, ht1, r_und hd, r_und hd1, r_size hi, r_info hi, hlen, hg, hnew, storeCells]

def strOrSl : TypeDesc → Bool
  | .slice _ => true
  | .string => true
  | _ => false

def eAppend (P : Program) (ng : Nat) (s : St) (ts : Array TypeId) (x y : AV) : Option (AV × St) :=
  match ts[0]?, ts[1]? with
  | some t0, some t1 => match und P t0, und P t1 with
    | some (.slice e), some d1 => match inf P e, zeroA P e with
      | some i, some z => match cellsOf z, srcEls s i.size y with
        | some zc, some els =>
          if strOrSl d1 = false ∨ i.bytes > 4096 ∨ zc.length ≠ i.size ∨ els.flatten.all one = false then none else
          match x with
          | .sl es sz tk => match els with
            | [] => some (.sl es sz tk, s)
            | _ => if es.length + els.length > 1073741824 then none else
              match tk with
              | .nil => if es.isEmpty = true then some (.sl els i.size (.own s.tok e), s.row) else none
              | .own r el => if sz = i.size ∧ el = e ∧ s.live.contains r = true then some (.sl (es ++ els) i.size (.own s.tok e), s.retok r) else none
              | .no => none
          | .ms b off n cap => match s.get b with
            | .cells cs el => if b < ng ∨ n + els.length > 1073741824 ∨ n > cap then none else
              if n + els.length ≤ cap then
                (if off + (n + els.length) * i.size ≤ cs.length then some (.ms b off (n + els.length) cap, s.store b (off + n * i.size) cs el els.flatten) else none)
              else (if off + n * i.size ≤ cs.length then some (.sl (chunk n i.size ((cs.drop off).take (n * i.size)) ++ els) i.size (.own s.tok e), s.row) else none)
            | _ => none
          | _ => none
        | _, _ => none
      | _, _ => none
    | _, _ => none
  | _, _ => none

theorem zeroA_info {t : TypeId} {v : AV} {i : TypeInfo} (h : zeroA P t = some v) (hi : inf P t = some i) : ∃ z, i.zero = some z ∧ VR G w v z := by
  unfold zeroA at h
  rw [hi] at h
  simp only at h
  split at h
  · rename_i z hz
    exact ⟨z, hz, fromV_VR z v h⟩
  · cases h

/-- Behind a growth: the new row. -/
theorem Does.of_grow (h : WRel ng B w0 G w s) {f : Sem Next} {els : List (List AV)} {size : Nat} {ys zs : List Value} {e : TypeId} {xs : Array Value} {cp : Nat}
    (hl : ∀ d, d ∈ els → d.length = size) (hv : VRL G w els.flatten ys) (hxs : xs.toList = ys ++ zs) (hcp : els.length ≤ cp) (hsz : cp * size ≤ xs.size)
    (hr : f.run P w = .ok (.value (.slice (some ⟨w.heap.size, 0, none⟩) els.length cp)) (w.drew.alloc (.cells xs e))) {live : List Nat} (hlive : (s.tok :: live).Sublist (s.tok :: s.live)) :
    Does P ng B w0 G w f (.sl els size (.own s.tok e)) { s with tok := s.tok + 1, live := s.tok :: live } := by
  have hdr : WRel ng B w0 G w.drew s := h.draw (w.drawn + 1)
  have hex : Ext G w G w.drew := Ext.heap rfl
  obtain ⟨m1, m2, m3⟩ := hdr.row xs e (0, 0) els size ys zs hxs hl (VRL.ext hex _ _ hv) (fun j _ _ hh => absurd hh.2 (Nat.not_lt_zero _)) cp hcp hsz
  exact ⟨_, _, _, _, hr, .inl rfl, m3, hex.trans m1, m2.unlive hlive⟩

theorem size_zeros (z : Array Value) (n : Nat) : (Builtin.zeroCells z n).size = n * z.size := by simp [Builtin.zeroCells]

theorem eAppend_sound (h : WRel ng B w0 G w s) {ts : Array TypeId} {ty : TypeId} {x y v : AV} {a b : Value} {s' : St} (hx : VR G w x a) (hy : VR G w y b) (hq : eAppend P ng s ts x y = some (v, s')) :
    Does P ng B w0 G w (do pure (.value (← Builtin.append_ ts ty #[a, b]))) v s' := by
  unfold eAppend at hq
  split at hq
  · rename_i t0 t1 ht ht1
    split at hq
    · rename_i e d1 hd hd1
      split at hq
      · rename_i i z hi hz
        split at hq
        · rename_i zc els hzc hels
          split at hq
          · cases hq
          · rename_i hc
            simp only [not_or, Nat.not_lt, ne_eq, Decidable.not_not, gt_iff_lt] at hc
            obtain ⟨hc1, hc2, hc3, hc4⟩ := hc
            have hni : (∃ e1, d1 = .slice e1) ∨ d1 = .string := by
              cases d1 <;> first | (simp [strOrSl] at hc1; done) | exact .inl ⟨_, rfl⟩ | exact .inr rfl
            obtain ⟨zv, hzi, hzv⟩ := zeroA_info (P := P) (G := G) (w := w) hz hi
            have hzsz : zv.cells.size = i.size := by rw [← Array.length_toList, ← hc3]; exact (cellsOf_sound hzv hzc).length.symm
            obtain ⟨hl, hlen, ys, hys', hyv⟩ := srcEls_sound (P := P) h hy hels
            have hysz : ys.size = els.length * i.size := by rw [← Array.length_toList, ← flat_length i.size els hl]; exact hyv.length.symm
            have hyone : ∀ u, u ∈ ys.toList → valOne u = true := by
              intro u hu
              obtain ⟨j, hj⟩ := List.getElem?_of_mem hu
              have hjl : j < els.flatten.length := by
                rw [hyv.length]; exact (List.getElem?_eq_some_iff.1 hj).1
              obtain ⟨y', hy1, hy2⟩ := hyv.get (List.getElem?_eq_getElem hjl)
              rw [hj] at hy1
              cases hy1
              have hall : els.flatten.all one = true := by cases hh : els.flatten.all one <;> simp_all
              exact (one_sound hy2 (List.all_eq_true.1 hall _ (List.getElem_mem hjl))).1
            have hys := hys' w rfl
            split at hq
            · rename_i es sz tk
              split at hq
              · cases hq
                have hys0 : ys = #[] := by
                  have : ys.size = 0 := by rw [hysz]; simp
                  exact Array.eq_empty_of_size_eq_zero this
                subst hys0
                simp only [VR] at hx
                rcases hx with ⟨rfl, rfl, htk⟩ | ⟨htk, bk, o, cap, rfl, hle, hrest⟩
                · have := run_append_zero (P := P) (w := w) ht ht1 hd hd1 hni hi (base := none) (Nat.le_refl 0) hlen hys ty
                  exact Does.quiet h this (by simp [VR, htk])
                · have := run_append_zero (P := P) (w := w) ht ht1 hd hd1 hni hi (base := some ⟨bk, o, none⟩) hle hlen hys ty
                  exact Does.quiet h this (by simp only [VR]; exact .inr ⟨htk, bk, o, cap, rfl, hle, hrest⟩)
              · rename_i hne
                have hpos : 0 < els.length := by
                  cases els with
                  | nil => exact absurd rfl (hne ·)
                  | cons _ _ => simp
                split at hq
                · cases hq
                · rename_i hsmall
                  split at hq
                  · split at hq
                    · rename_i hemp
                      cases hq
                      have hes : es = [] := by simpa using hemp
                      subst hes
                      simp only [VR] at hx
                      rcases hx with ⟨_, rfl, _⟩ | ⟨htk, _⟩
                      · obtain ⟨cp, hcp, hrun⟩ := run_append_grow' (P := P) (w := w) ht ht1 hd hd1 hni hi hzi hc2 (base := none) (n := 0) (cap := 0) (k := els.length) (by simp at hsmall; omega) (by omega) (old := #[]) hlen
                          (fun w' _ => by simp [Builtin.firstCells]) hys' ty
                        simp only [Nat.zero_add, Array.empty_append] at hrun hcp
                        refine Does.of_grow h (ys := ys.toList) (zs := (Builtin.zeroCells zv.cells (cp - els.length)).toList) (cp := cp) hl hyv (by rw [Array.toList_append]) hcp ?_ (run_val hrun) (List.Sublist.refl _)
                        rw [Array.size_append, hysz, size_zeros, hzsz, ← Nat.add_mul]
                        rw [show els.length + (cp - els.length) = cp by omega]
                        exact Nat.le_refl _
                      · exact absurd rfl htk
                    · cases hq
                  · rename_i r el1
                    split at hq
                    · rename_i hr
                      cases hq
                      obtain ⟨hsz, hel1, hrl⟩ := hr
                      subst hsz
                      subst hel1
                      have hrmem : r ∈ s.live := by simpa using hrl
                      have hx0 := hx
                      simp only [VR] at hx
                      rcases hx with ⟨_, _, htk⟩ | ⟨_, bk, o, cap, rfl, hle, ⟨c, el, fz, hh, hcs⟩, hel, hτ⟩
                      · rcases htk with htk | htk <;> cases htk
                      · obtain ⟨hrM, hτ, _⟩ := hτ r _ rfl
                        by_cases hroom : es.length + els.length ≤ cap
                        · obtain ⟨_, _, _, ⟨c0, el0, fz0, h4, h5⟩, _⟩ := h.live r hrmem
                          rw [hτ] at h4 h5
                          have hce : some (Obj.cells c el fz) = some (Obj.cells c0 el0 fz0) := hh.symm.trans h4
                          cases hce
                          have hbound : o + es.length * i.size + ys.size ≤ c.size := by
                            have := Nat.mul_le_mul_right i.size hroom
                            rw [Nat.add_mul] at this
                            rw [hysz]; omega
                          have hrun := run_append_in (P := P) (w := w) ht ht1 hd hd1 hni hi (b := bk) (o := o) hroom hlen hys hh hbound (fun j hj hj2 => h5 j hj2 hj) hyone ty
                          obtain ⟨g1, g2⟩ := h.appendIn hrmem hτ hh hyv (by simpa using hbound)
                          have g3 := VR.appendIn hx0 hyv hl hroom g1
                          have hlen2 : ys.toList.length = ys.size := Array.length_toList
                          rw [← h.m] at g3
                          exact ⟨_, _, _, _, run_val hrun, .inl rfl, g3, g1, g2⟩
                        · obtain ⟨xs, k1, k2⟩ := gather (b := bk) es.flatten o (fun j c hj => (hel.cells j c hj).2)
                          have hlo := hel.lens
                          have hxl : xs.length = es.length * i.size := by rw [← flat_length i.size es hlo]; exact k1.length.symm
                          have hold : ∀ w' : World, w'.heap = w.heap → (Builtin.firstCells i.size es.length (.slice (some ⟨bk, o, none⟩) es.length cap)).run P w' = .ok xs.toArray w' := by
                            intro w' hw'
                            simp only [Builtin.firstCells]
                            rw [← hxl]
                            refine run_loadCells_list (P := P) w' ⟨bk, o, none⟩ xs (fun j v hj => ?_)
                            rw [addr_add]
                            have := k2 j v hj
                            simpa only [World.cell?, hw'] using this
                          obtain ⟨cp, hcp, hrun⟩ := run_append_grow' (P := P) (w := w) ht ht1 hd hd1 hni hi hzi hc2 (k := els.length) (by omega) (by omega) hlen hold hys' ty
                          have hll : (es ++ els).length = es.length + els.length := List.length_append
                          have hlv : ∀ d, d ∈ es ++ els → d.length = i.size := fun d hd => by
                            rcases List.mem_append.1 hd with hd | hd
                            · exact hlo d hd
                            · exact hl d hd
                          refine Does.of_grow h (xs := xs.toArray ++ ys ++ Builtin.zeroCells zv.cells (cp - (es.length + els.length))) (els := es ++ els) (ys := xs ++ ys.toList) (zs := (Builtin.zeroCells zv.cells (cp - (es.length + els.length))).toList) (cp := cp) hlv ?_ (by simp) (by rw [hll]; exact hcp) ?_ (by rw [hll]; exact run_val hrun) (List.Sublist.cons_cons _ List.erase_sublist)
                          · rw [List.flatten_append]; exact k1.append hyv
                          · rw [Array.size_append, Array.size_append, hysz, size_zeros, hzsz, List.size_toArray, hxl, ← Nat.add_mul, ← Nat.add_mul]
                            rw [show es.length + els.length + (cp - (es.length + els.length)) = cp by omega]
                            exact Nat.le_refl _
                    · cases hq
                  · cases hq
            · rename_i bk off n cap
              split at hq
              · rename_i cs el hg
                split at hq
                · cases hq
                · rename_i hcc
                  simp only [not_or, Nat.not_lt, gt_iff_lt] at hcc
                  obtain ⟨hb, hsmall, hncap⟩ := hcc
                  simp only [VR] at hx
                  obtain ⟨hbN, rfl⟩ := hx
                  obtain ⟨c, fz, g1, g2, g3, g4⟩ := h.cells hg
                  have hcl : c.size = cs.length := by rw [← Array.length_toList]; exact g2.length.symm
                  split at hq
                  · rename_i hroom
                    split at hq
                    · rename_i hfit
                      cases hq
                      have hbound : off + n * i.size + ys.size ≤ c.size := by
                        rw [hysz, hcl]; rw [Nat.add_mul] at hfit; omega
                      have hrun := run_append_in (P := P) (w := w) ht ht1 hd hd1 hni hi (b := G.ρ bk) (o := off) hroom hlen hys g1 hbound (fun j hj _ => g3 j hj) hyone ty
                      obtain ⟨k1, k2⟩ := h.store hb hg hyv (off := off + n * i.size)
                      exact ⟨_, _, _, _, run_val hrun, .inl rfl, by simp [VR, hbN], k1, k2⟩
                    · cases hq
                  · rename_i hroom
                    split at hq
                    · rename_i hfit
                      cases hq
                      have hlen3 : ((cs.drop off).take (n * i.size)).length = n * i.size := by rw [List.length_take, List.length_drop, Nat.min_eq_left (by omega)]
                      obtain ⟨q1, q2, q3⟩ := chunk_spec i.size n _ hlen3
                      obtain ⟨xs, k1, k2⟩ := gather (b := G.ρ bk) ((cs.drop off).take (n * i.size)) off (fun j c hj => by
                        rw [List.getElem?_take] at hj
                        split at hj
                        · rw [List.getElem?_drop] at hj
                          obtain ⟨x, hx, hv⟩ := g4 (off + j) c hj
                          exact ⟨x, by rwa [Nat.zero_add] at hx, hv⟩
                        · cases hj)
                      have hxl : xs.length = n * i.size := by rw [← hlen3]; exact k1.length.symm
                      have hold : ∀ w' : World, w'.heap = w.heap → (Builtin.firstCells i.size n (.slice (some ⟨G.ρ bk, off, none⟩) n cap)).run P w' = .ok xs.toArray w' := by
                        intro w' hw'
                        simp only [Builtin.firstCells]
                        rw [← hxl]
                        refine run_loadCells_list (P := P) w' ⟨G.ρ bk, off, none⟩ xs (fun j v hj => ?_)
                        rw [addr_add]
                        have := k2 j v hj
                        simpa only [World.cell?, hw'] using this
                      obtain ⟨cp, hcp, hrun⟩ := run_append_grow' (P := P) (w := w) ht ht1 hd hd1 hni hi hzi hc2 (k := els.length) (by omega) (by omega) hlen hold hys' ty
                      have hll : (chunk n i.size ((cs.drop off).take (n * i.size)) ++ els).length = n + els.length := by rw [List.length_append, q2]
                      have hlv : ∀ d, d ∈ chunk n i.size ((cs.drop off).take (n * i.size)) ++ els → d.length = i.size := fun d hd => by
                        rcases List.mem_append.1 hd with hd | hd
                        · exact q3 d hd
                        · exact hl d hd
                      refine Does.of_grow h (xs := xs.toArray ++ ys ++ Builtin.zeroCells zv.cells (cp - (n + els.length))) (els := chunk n i.size ((cs.drop off).take (n * i.size)) ++ els) (ys := xs ++ ys.toList) (zs := (Builtin.zeroCells zv.cells (cp - (n + els.length))).toList) (cp := cp) hlv ?_ (by simp) (by rw [hll]; exact hcp) ?_ (by rw [hll]; exact run_val hrun) (List.Sublist.refl _)
                      · rw [List.flatten_append, q1]; exact k1.append hyv
                      · rw [Array.size_append, Array.size_append, hysz, size_zeros, hzsz, List.size_toArray, hxl, ← Nat.add_mul, ← Nat.add_mul]
                        rw [show n + els.length + (cp - (n + els.length)) = cp by omega]
                        exact Nat.le_refl _
                    · cases hq
              · cases hq
            · cases hq
        · cases hq
      · cases hq
    · cases hq
  · cases hq

end
end
end Go.AVM

namespace Go.AVM
open Go.RowKit
noncomputable section

section
variable {P : Program} {ng B : Nat} {w0 w : World} {G : Ctx} {s : St}

/-! ### an append whose element is written behind it -/
def eAppendP (P : Program) (s : St) (ts : Array TypeId) (x y : AV) : Option (AV × St) :=
  match ts[0]?, ts[1]? with
  | some t0, some t1 => match und P t0, und P t1 with
    | some (.slice e), some d1 => match inf P e, zeroA P e with
      | some i, some z => match cellsOf z, srcEls s i.size y with
        | some zc, some [d] =>
          if strOrSl d1 = false ∨ i.bytes > 4096 ∨ zc.length ≠ i.size ∨ d.all one = false then none else
          match x with
          | .sl es sz tk => if es.length + 1 > 1073741824 then none else
            match tk with
            | .nil => if es.isEmpty = true then some (.pd [] i.size s.tok e, s.row) else none
            | .own r el => if sz = i.size ∧ el = e ∧ s.live.contains r = true then some (.pd es i.size s.tok e, s.retok r) else none
            | .no => none
          | _ => none
        | _, _ => none
      | _, _ => none
    | _, _ => none
  | _, _ => none

/-- A row whose last element is not told. -/
theorem Does.of_growP (h : WRel ng B w0 G w s) {f : Sem Next} {es : List (List AV)} {size : Nat} {xs0 zs : List Value} {e : TypeId} {xs : Array Value} {cp : Nat}
    (hl : ∀ d, d ∈ es → d.length = size) (hv : VRL G w es.flatten xs0) (hxs : xs.toList = xs0 ++ zs) (hcp : es.length + 1 ≤ cp) (hsz : cp * size ≤ xs.size)
    (hr : f.run P w = .ok (.value (.slice (some ⟨w.heap.size, 0, none⟩) (es.length + 1) cp)) (w.drew.alloc (.cells xs e))) {live : List Nat} (hlive : (s.tok :: live).Sublist (s.tok :: s.live)) :
    Does P ng B w0 G w f (.pd es size s.tok e) { s with tok := s.tok + 1, live := s.tok :: live } := by
  have hdr : WRel ng B w0 G w.drew s := h.draw (w.drawn + 1)
  have hex : Ext G w G w.drew := Ext.heap rfl
  obtain ⟨m1, m2, m3⟩ := hdr.row xs e (0, 0) es size xs0 zs hxs hl (VRL.ext hex _ _ hv) (fun j _ _ hh => absurd hh.2 (Nat.not_lt_zero _)) cp (by omega) hsz
  refine ⟨_, _, _, _, hr, .inl rfl, ?_, hex.trans m1, m2.unlive hlive⟩
  simp only [VR] at m3 ⊢
  rcases m3 with ⟨_, m3, _⟩ | ⟨_, b, o, cap, he, _, ⟨c, el, fz, hh, hs⟩, hel, hown⟩
  · cases m3
  · cases he
    obtain ⟨g1, g2, _, c3, fz3, g4⟩ := hown s.tok e rfl
    rw [hh] at g4
    cases g4
    exact ⟨_, cp, rfl, hcp, hel, ⟨c, fz, hh, by simpa using hs⟩, g1, by simpa using g2⟩

theorem eAppendP_sound (h : WRel ng B w0 G w s) {ts : Array TypeId} {ty : TypeId} {x y v : AV} {a b : Value} {s' : St} (hx : VR G w x a) (hy : VR G w y b) (hq : eAppendP P s ts x y = some (v, s')) :
    Does P ng B w0 G w (do pure (.value (← Builtin.append_ ts ty #[a, b]))) v s' := by
  unfold eAppendP at hq
  split at hq
  · rename_i t0 t1 ht ht1
    split at hq
    · rename_i e d1 hd hd1
      split at hq
      · rename_i i z hi hz
        split at hq
        · rename_i zc d hzc hels
          split at hq
          · cases hq
          · rename_i hc
            simp only [not_or, Nat.not_lt, ne_eq, Decidable.not_not, gt_iff_lt] at hc
            obtain ⟨hc1, hc2, hc3, hc4⟩ := hc
            have hni : (∃ e1, d1 = .slice e1) ∨ d1 = .string := by
              cases d1 <;> first | (simp [strOrSl] at hc1; done) | exact .inl ⟨_, rfl⟩ | exact .inr rfl
            obtain ⟨zv, hzi, hzv⟩ := zeroA_info (P := P) (G := G) (w := w) hz hi
            have hzsz : zv.cells.size = i.size := by rw [← Array.length_toList, ← hc3]; exact (cellsOf_sound hzv hzc).length.symm
            obtain ⟨hl, hlen, ys, hys', hyv⟩ := srcEls_sound (P := P) h hy hels
            simp only [List.length_singleton] at hlen hys'
            have hysz : ys.size = i.size := by
              rw [← Array.length_toList, ← hyv.length, flat_length i.size [d] hl]; simp
            have hyone : ∀ u, u ∈ ys.toList → valOne u = true := by
              intro u hu
              obtain ⟨j, hj⟩ := List.getElem?_of_mem hu
              have hjl : j < [d].flatten.length := by
                rw [hyv.length]; exact (List.getElem?_eq_some_iff.1 hj).1
              obtain ⟨y', hy1, hy2⟩ := hyv.get (List.getElem?_eq_getElem hjl)
              rw [hj] at hy1
              cases hy1
              have hall : [d].flatten.all one = true := by simp only [List.flatten_cons, List.flatten_nil, List.append_nil]; cases hh : d.all one <;> simp_all
              exact (one_sound hy2 (List.all_eq_true.1 hall _ (List.getElem_mem hjl))).1
            have hys := hys' w rfl
            split at hq
            · rename_i es sz tk
              split at hq
              · cases hq
              · rename_i hsmall
                split at hq
                · split at hq
                  · rename_i hemp
                    cases hq
                    have hes : es = [] := by simpa using hemp
                    subst hes
                    simp only [VR] at hx
                    rcases hx with ⟨_, rfl, _⟩ | ⟨htk, _⟩
                    · obtain ⟨cp, hcp, hrun⟩ := run_append_grow' (P := P) (w := w) ht ht1 hd hd1 hni hi hzi hc2 (base := none) (n := 0) (cap := 0) (k := 1) (by omega) (by omega) (old := #[]) hlen
                        (fun w' _ => by simp [Builtin.firstCells]) hys' ty
                      simp only [Nat.zero_add, Array.empty_append] at hrun hcp
                      refine Does.of_growP h (es := []) (xs0 := []) (zs := (ys ++ Builtin.zeroCells zv.cells (cp - 1)).toList) (cp := cp) (fun _ hd => by simp at hd) (by simp [VRL]) (by simp) (by simpa using hcp) ?_ (run_val hrun) (List.Sublist.refl _)
                      rw [Array.size_append, hysz, size_zeros, hzsz]
                      have : cp * i.size = (1 + (cp - 1)) * i.size := by rw [show 1 + (cp - 1) = cp by omega]
                      rw [this, Nat.add_mul]
                      omega
                    · exact absurd rfl htk
                  · cases hq
                · rename_i r el1
                  split at hq
                  · rename_i hr
                    cases hq
                    obtain ⟨hsz, hel1, hrl⟩ := hr
                    subst hsz
                    subst hel1
                    have hrmem : r ∈ s.live := by simpa using hrl
                    simp only [VR] at hx
                    rcases hx with ⟨_, _, htk⟩ | ⟨_, bk, o, cap, rfl, hle, ⟨c, el, fz, hh, hcs⟩, hel, hτ⟩
                    · rcases htk with htk | htk <;> cases htk
                    · obtain ⟨hrM, hτ, ho, c5, fz5, h5'⟩ := hτ r _ rfl
                      subst ho
                      rw [hh] at h5'
                      cases h5'
                      by_cases hroom : es.length + 1 ≤ cap
                      · obtain ⟨_, _, _, ⟨c0, el0, fz0, h4, h5⟩, _⟩ := h.live r hrmem
                        rw [hτ] at h4 h5
                        have hce : some (Obj.cells c _ fz) = some (Obj.cells c0 el0 fz0) := hh.symm.trans h4
                        cases hce
                        have hbound : 0 + es.length * i.size + ys.size ≤ c.size := by
                          have := Nat.mul_le_mul_right i.size hroom
                          rw [Nat.add_mul] at this
                          rw [hysz]; omega
                        have hrun := run_append_in (P := P) (w := w) ht ht1 hd hd1 hni hi (b := bk) (o := 0) hroom hlen hys hh hbound (fun j hj hj2 => h5 j hj2 hj) hyone ty
                        obtain ⟨g1, g2⟩ := h.writeIn hrmem hτ hh hyv (by simpa using hbound) 0 (Nat.zero_le _)
                        obtain ⟨c', h7, h8⟩ := putCells_heap_eq ys.toList w bk (0 + es.length * i.size) hh
                        refine ⟨_, _, _, _, run_val hrun, .inl rfl, ?_, g1, g2⟩
                        simp only [VR]
                        refine ⟨bk, cap, rfl, hroom, ElR.ext g1 es bk 0 i.size hel, ⟨c', fz, h7, ?_⟩, ?_, ?_⟩
                        · rw [← Array.length_toList, h8, ow_length, Array.length_toList]; omega
                        · rw [h.m]; exact Nat.lt_succ_self _
                        · rw [h.m]; simp [Ctx.ins]
                      · obtain ⟨xs, k1, k2⟩ := gather (b := bk) es.flatten 0 (fun j c hj => (hel.cells j c hj).2)
                        have hlo := hel.lens
                        have hxl : xs.length = es.length * i.size := by rw [← flat_length i.size es hlo]; exact k1.length.symm
                        have hold : ∀ w' : World, w'.heap = w.heap → (Builtin.firstCells i.size es.length (.slice (some ⟨bk, 0, none⟩) es.length cap)).run P w' = .ok xs.toArray w' := by
                          intro w' hw'
                          simp only [Builtin.firstCells]
                          rw [← hxl]
                          refine run_loadCells_list (P := P) w' ⟨bk, 0, none⟩ xs (fun j v hj => ?_)
                          rw [addr_add]
                          have := k2 j v hj
                          simpa only [World.cell?, hw'] using this
                        obtain ⟨cp, hcp, hrun⟩ := run_append_grow' (P := P) (w := w) ht ht1 hd hd1 hni hi hzi hc2 (k := 1) (by omega) (by omega) hlen hold hys' ty
                        refine Does.of_growP h (xs := xs.toArray ++ ys ++ Builtin.zeroCells zv.cells (cp - (es.length + 1))) (es := es) (xs0 := xs) (zs := ys.toList ++ (Builtin.zeroCells zv.cells (cp - (es.length + 1))).toList) (cp := cp) hlo k1 (by simp) hcp ?_ (run_val hrun) (List.Sublist.cons_cons _ List.erase_sublist)
                        rw [Array.size_append, Array.size_append, hysz, size_zeros, hzsz, List.size_toArray, hxl]
                        have : cp * i.size = (es.length + 1 + (cp - (es.length + 1))) * i.size := by rw [show es.length + 1 + (cp - (es.length + 1)) = cp by omega]
                        rw [this, Nat.add_mul, Nat.add_mul]
                        omega
                  · cases hq
                · cases hq
            · cases hq
        · cases hq
      · cases hq
    · cases hq
  · cases hq

/-! ### the write behind it -/
def eStoreP (P : Program) (s : St) (t : TypeId) (x v : AV) : Option (AV × St) :=
  match x with
  | .pp sz r el => match cellsOf v, inf P t with
    | some vs, some i => if vs.length ≠ i.size ∨ i.size ≠ sz ∨ vs.all one = false ∨ s.live.contains r = false then none else some (.val undef, { s.retok r with done := [(r, vs, s.tok)] })
    | _, _ => none
  | _ => none

theorem eStoreP_sound (h : WRel ng B w0 G w s) {t : TypeId} {x v r : AV} {a b : Value} {s' : St} (hx : VR G w x a) (hv : VR G w v b) (hq : eStoreP P s t x v = some (r, s')) :
    Does P ng B w0 G w (do Instr.storeAt t a b; pure .skip) r s' := by
  unfold eStoreP at hq
  split at hq
  · rename_i sz q el
    split at hq
    · rename_i vs i hvs hi
      split at hq
      · cases hq
      · rename_i hc
        cases hq
        simp only [not_or, ne_eq, Decidable.not_not, Bool.not_eq_false] at hc
        obtain ⟨hc1, hc2, hc3, hc4⟩ := hc
        subst hc2
        have hqm : q ∈ s.live := by simpa using hc4
        simp only [VR] at hx
        obtain ⟨bk, off, rfl, ⟨c, fz, hh, hs⟩, hqM, hτ⟩ := hx
        have hvl := cellsOf_sound hv hvs
        have hlen : b.cells.size = vs.length := by rw [← Array.length_toList]; exact hvl.length.symm
        obtain ⟨_, _, _, ⟨c0, el0, fz0, h4, h5⟩, _⟩ := h.live q hqm
        rw [hτ] at h4 h5
        have hce : some (Obj.cells c el fz) = some (Obj.cells c0 el0 fz0) := hh.symm.trans h4
        cases hce
        have hone : ∀ u, u ∈ b.cells.toList → valOne u = true := by
          intro u hu
          obtain ⟨j, hj⟩ := List.getElem?_of_mem hu
          have hjl : j < vs.length := by rw [← hlen, ← Array.length_toList]; exact (List.getElem?_eq_some_iff.1 hj).1
          obtain ⟨y, hy1, hy2⟩ := hvl.get (List.getElem?_eq_getElem hjl)
          rw [hj] at hy1
          cases hy1
          have : one vs[j] = true := List.all_eq_true.1 hc3 _ (List.getElem_mem hjl)
          exact (one_sound hy2 this).1
        have hbl : b.cells.toList.length = vs.length := by simpa using hlen
        have hbound : off + b.cells.toList.length ≤ c.size := by rw [hbl]; omega
        have hrun := run_storeCells_at' (P := P) bk off b.cells.toList 0 w c el fz hh (by simpa using hbound) (fun j hj hj2 => h5 j (by simpa using hj2) hj) hone
        obtain ⟨g1, g2⟩ := h.appendIn hqm hτ hh hvl hbound
        obtain ⟨c', h7, h8⟩ := putCells_heap_eq b.cells.toList w bk off hh
        refine ⟨.skip, undef, _, _, ?_, .inr ⟨rfl, rfl⟩, by simp [VR], g1, g2.setDone ?_⟩
        · simp only [Instr.storeAt, Instr.sureAddr, Sem.run_bind, Sem.run_pure, Result.andThen_ok, storeVar, r_size hi]
          rw [if_neg (by rw [hlen]; simp [hc1]), hrun]
          rfl
        · simp only [DoneR, and_true]
          have hτq : (G.ins bk off b.cells.toList.length).τ q = (bk, off) := by rw [g1.τ q hqM]; exact hτ
          have hτM : (G.ins bk off b.cells.toList.length).τ s.tok = (bk, off + vs.length) := by rw [h.m]; simp [Ctx.ins, hlen]
          refine ⟨Nat.lt_succ_of_lt hqM, by rw [h.m]; exact Nat.lt_succ_self _, by rw [hτq, hτM], ?_⟩
          rw [hτq]
          refine (ClR_iff vs bk off).2 fun j d hd => ?_
          obtain ⟨u, hu, hvu⟩ := hvl.get hd
          have hjl : j < b.cells.toList.length := (List.getElem?_eq_some_iff.1 hu).1
          refine ⟨.inr ⟨rfl, by omega, by omega⟩, u, ?_, VR.ext g1 _ _ hvu⟩
          rw [cell_of_heap h7, ← Array.getElem?_toList, h8, ow_get b.cells.toList c.toList _ _ (by simpa using hbound), if_pos (by omega)]
          rw [show off + j - off = j by omega]
          exact hu
    · cases hq
  · cases hq

/-! ### what a value has become -/
def rsvIn (v : AV) : List (Nat × List AV × Nat) → AV
  | [] => v
  | (q, vs, p) :: l => match v with
    | .pd es sz r el => match Nat.beq q r && Nat.beq vs.length sz with
      | true => .sl (es ++ [vs]) sz (.own p el)
      | false => rsvIn v l
    | v => v

theorem rsvIn_VR : ∀ (l : List (Nat × List AV × Nat)) (v : AV) (x : Value), DoneR G w l → VR G w v x → VR G w (rsvIn v l) x
  | [], v, x, _, hv => hv
  | (q, vs, p) :: l, v, x, hd, hv => by
    simp only [DoneR] at hd
    obtain ⟨⟨h1, h2, h3, h4⟩, h5⟩ := hd
    unfold rsvIn
    split
    · rename_i es sz r el
      split
      · rename_i hb
        simp only [Bool.and_eq_true] at hb
        have e1 := Nat.eq_of_beq_eq_true hb.1
        have e2 := Nat.eq_of_beq_eq_true hb.2
        subst e1
        subst e2
        simp only [VR] at hv ⊢
        obtain ⟨b, cap, rfl, hle, hel, ⟨c, fz, hh, hs⟩, g1, g2⟩ := hv
        rw [g2] at h3 h4
        refine .inr ⟨by simp, b, 0, cap, by simp, by simpa using hle, ⟨c, el, fz, hh, by omega⟩, ?_, fun r' el' hr' => ?_⟩
        · refine (ElR_iff vs.length _ b 0).2 fun i e hi => ?_
          rw [List.getElem?_append] at hi
          split at hi
          · exact (ElR_iff vs.length es b 0).1 hel i e hi
          · rename_i hn
            have hi0 : i - es.length = 0 := by
              have := (List.getElem?_eq_some_iff.1 hi).1
              simp at this
              omega
            rw [hi0] at hi
            simp at hi
            subst hi
            refine ⟨rfl, ?_⟩
            have : i = es.length := by omega
            subst this
            rw [Nat.zero_add]
            exact h4
        · cases hr'
          refine ⟨h2, ?_, rfl, c, fz, hh⟩
          rw [h3, List.length_append, List.length_singleton, Nat.add_mul]
          simp
      · exact rsvIn_VR l _ x h5 hv
    · exact hv

def rsv (s : St) (e : Operand → AV) (x : Operand) : AV := match s.done with
  | [] => e x
  | l => rsvIn (e x) l

theorem rsv_VR (h : WRel ng B w0 G w s) {e : Operand → AV} {x : Operand} {y : Value} (hx : VR G w (e x) y) : VR G w (rsv s e x) y := by
  unfold rsv
  split
  · exact hx
  · rename_i l hl
    exact rsvIn_VR s.done _ _ h.done hx

end
end
end Go.AVM

namespace Go.AVM
open Go.RowKit
noncomputable section

section
variable {P : Program} {ng B : Nat} {w0 w : World} {G : Ctx} {s : St}

/-! ### rows that are written, of which the head alone is known -/
/-- Another object in a name's place, its block turned. -/
def St.rowAt (s : St) (b : Nat) (cs : List AV) (e : TypeId) (h : Nat) : St := (s.wmUp b h).put b (.row cs e)

/-- The head of a row is written anew. -/
theorem WRel.storeRow (h : WRel ng B w0 G w s) {b off : Nat} {cs : List AV} {e : TypeId} (hb : ng ≤ b) (hg : s.get b = .row cs e) {vs cs' : List AV} {xs : List Value} (hv : VRL G w vs xs)
    (hcs : ∀ (c : Array Value), cs.length ≤ c.size → VRL G w cs (c.toList.take cs.length) → off + xs.length ≤ c.size → VRL G w cs' ((AVM.ow c.toList off xs).take cs'.length) ∧ cs'.length ≤ c.size)
    (hsz : ∀ (c : Array Value) (el : TypeId) (fz : Nat × Nat), w.heap[G.ρ b]? = some (.cells c el fz) → off + xs.length ≤ c.size) (hi : hiL cs' ≤ Nat.max (hiL cs) (hiL vs)) :
    Ext G w G (w.putCells (G.ρ b) off xs) ∧ WRel ng B w0 G (w.putCells (G.ρ b) off xs) (s.rowAt b cs' e (hiLR cs')) := by
  have hd : s.get b ≠ .dead := by rw [hg]; simp
  have hbn : b < s.next := St.get_lt hd
  obtain ⟨hB, hI⟩ := h.own b hb hd
  obtain ⟨o', ho, hor⟩ := h.obj b hd
  rw [hg] at hor
  obtain ⟨c, fz, rfl, hlen, hcv, hfz⟩ := hor
  have ex : Ext G w G (w.putCells (G.ρ b) off xs) :=
    { n := Nat.le_refl _, m := Nat.le_refl _, ρ := fun _ _ => rfl, τ := fun _ _ => rfl, i := fun _ _ h => h,
      cell := fun k q hi => by
        have hk : k ≠ G.ρ b := fun e => hI q (e ▸ hi)
        simp only [World.cell?, putCells_heap_ne xs w (G.ρ b) off k hk]
      size := fun k c e fz hh => putCells_sizes k c e fz hh }
  have hget : ∀ k, (s.rowAt b cs' e (hiLR cs')).get k = if k = b then .row cs' e else s.get k := fun k => by
    unfold St.rowAt
    rw [St.get_put (s.wmUp b (hiLR cs')) _ h.len b k hbn, St.get_wmUp]
  have hdead : ∀ k, (s.rowAt b cs' e (hiLR cs')).get k ≠ .dead → s.get k ≠ .dead := fun k hk => by
    rw [hget] at hk
    by_cases hkb : k = b
    · rw [hkb]; exact hd
    · rw [if_neg hkb] at hk; exact hk
  have hwm : s.wm ≤ (s.rowAt b cs' e (hiLR cs')).wm := le_wmUp s b _
  refine ⟨ex, ?_⟩
  constructor
  · exact h.below.trans (putCells_below xs w B (G.ρ b) off hB)
  · rw [putCells_size]; exact h.base
  · exact h.n
  · exact h.m
  · show (rset _ (s.wmUp b (hiLR cs')).heap _).length = _
    rw [rset_eq, List.length_set]
    exact h.len
  · exact h.ngle
  · exact h.ngB
  · exact h.glob
  · intro k hk
    rw [hget]
    by_cases hkb : k = b
    · subst hkb
      rw [if_pos rfl]
      obtain ⟨c', h1, h2⟩ := putCells_heap_eq xs w (G.ρ k) off ho
      obtain ⟨g1, g2⟩ := hcs c hlen hcv (hsz c e fz ho)
      have hcl : c'.size = c.size := by rw [← Array.length_toList, h2, ow_length]; simp
      refine ⟨_, h1, c', fz, rfl, by rw [hcl]; exact g2, ?_, fun j hj => hfz j (by rw [← hcl]; exact hj)⟩
      rw [h2]
      exact VRL.ext ex _ _ g1
    · rw [if_neg hkb]
      obtain ⟨y, h1, h2⟩ := h.obj k (hdead k hk)
      have hne : G.ρ k ≠ G.ρ b := fun e => by
        by_cases hkn : ng ≤ k
        · exact hkb (h.inj k b hkn hb (hdead k hk) hd e)
        · have h9 : G.ρ k = k := h.glob k (by omega)
          have := h.ngB
          omega
      exact ⟨y, by rw [putCells_heap_ne xs w (G.ρ b) off _ hne]; exact h1, OR.ext ex _ _ h2⟩
  · intro k hk hkd; exact h.own k hk (hdead k hkd)
  · intro k q hk hq hkd hqd; exact h.inj k q hk hq (hdead k hkd) (hdead q hqd)
  · intro r hr
    obtain ⟨g1, g2, g3, ⟨c2, el2, fz2, g4, g5⟩, g6⟩ := h.live r hr
    have hne : (G.τ r).1 ≠ G.ρ b := fun e => g6 b hb hd e.symm
    exact ⟨g1, g2, g3, ⟨c2, el2, fz2, by rw [putCells_heap_ne xs w (G.ρ b) off _ hne]; exact g4, g5⟩, fun k hk hkd => g6 k hk (hdead k hkd)⟩
  · exact h.apart
  · intro k o hi; rw [putCells_size]; exact h.ib k o hi
  · intro k hk
    rw [hget]
    by_cases hkb : k = b
    · subst hkb
      rw [if_pos rfl]
      show hiL cs' ≤ Nat.max k (s.wmUp k (hiLR cs')).wm
      rw [hiLR_eq]
      exact hi_wmUp s k (hiL cs')
    · rw [if_neg hkb]
      exact Nat.le_trans (h.wm k hk) (Nat.max_le.2 ⟨Nat.le_max_left _ _, Nat.le_trans hwm (Nat.le_max_right _ _)⟩)
  · intro k hk
    rw [hget, if_neg (by omega)]
    exact h.gwm k hk
  · exact DoneR.ext ex _ h.done

/-- A name is given up for a new one of the same block. -/
theorem WRel.again (h : WRel ng B w0 G w s) {b : Nat} (hb : ng ≤ b) (hd : s.get b ≠ .dead) :
    Ext G w { G with N := G.N + 1, ρ := fun k => if k = G.N then G.ρ b else G.ρ k } w ∧ WRel ng B w0 { G with N := G.N + 1, ρ := fun k => if k = G.N then G.ρ b else G.ρ k } w ((s.put b .dead).push (s.get b)) := by
  have hbn : b < s.next := St.get_lt hd
  have hbN : b < G.N := by rw [← h.n]; exact hbn
  have hk := h.kill hbn
  have ex : Ext G w { G with N := G.N + 1, ρ := fun k => if k = G.N then G.ρ b else G.ρ k } w :=
    { n := Nat.le_succ _, m := Nat.le_refl _, ρ := fun k hk => by simp only; rw [if_neg (by omega)], τ := fun _ _ => rfl, i := fun _ _ h => h, cell := fun _ _ _ => rfl, size := fun k c e fz hh => ⟨c, fz, hh, rfl⟩ }
  have hget : ∀ k, ((s.put b .dead).push (s.get b)).get k = if k = s.next then s.get b else (s.put b .dead).get k := fun k => St.get_push (s.put b .dead) (s.get b) hk.len k
  have hput : ∀ k, (s.put b .dead).get k = if k = b then .dead else s.get k := fun k => St.get_put s _ h.len b k hbn
  have hold : ∀ k, k ≠ s.next → ((s.put b .dead).push (s.get b)).get k ≠ .dead → k ≠ b ∧ s.get k ≠ .dead ∧ k < s.next := fun k hks hkd => by
    rw [hget, if_neg hks, hput] at hkd
    by_cases hkb : k = b
    · rw [if_pos hkb] at hkd; exact absurd rfl hkd
    · rw [if_neg hkb] at hkd; exact ⟨hkb, hkd, St.get_lt hkd⟩
  refine ⟨ex, ?_⟩
  constructor
  · exact h.below
  · exact h.base
  · show s.next + 1 = G.N + 1; rw [h.n]
  · exact h.m
  · show (_ :: rset _ s.heap _).length = _
    rw [List.length_cons, rset_eq, List.length_set, h.len]; rfl
  · exact Nat.le_succ_of_le h.ngle
  · exact h.ngB
  · intro g hgn; simp only; rw [if_neg (by have := h.ngle; omega)]; exact h.glob g hgn
  · intro k hkd
    by_cases hks : k = s.next
    · subst hks
      obtain ⟨o, h1, h2⟩ := h.obj b hd
      refine ⟨o, by simp only; rw [if_pos h.n]; exact h1, ?_⟩
      rw [hget, if_pos rfl]
      exact OR.ext ex _ _ h2
    · obtain ⟨h1, h2, h3⟩ := hold k hks hkd
      obtain ⟨o, g1, g2⟩ := h.obj k h2
      refine ⟨o, by simp only; rw [if_neg (by rw [← h.n]; exact hks)]; exact g1, ?_⟩
      rw [hget, if_neg hks, hput, if_neg h1]
      exact OR.ext ex _ _ g2
  · intro k hkn hkd
    by_cases hks : k = s.next
    · subst hks
      simp only
      rw [if_pos h.n]
      exact h.own b hb hd
    · obtain ⟨h1, h2, h3⟩ := hold k hks hkd
      simp only
      rw [if_neg (by rw [← h.n]; exact hks)]
      exact h.own k hkn h2
  · intro k q hkn hqn hkd hqd e
    by_cases hks : k = s.next
    · by_cases hqs : q = s.next
      · rw [hks, hqs]
      · obtain ⟨h1, h2, h3⟩ := hold q hqs hqd
        simp only at e
        rw [if_pos (by rw [hks]; exact h.n), if_neg (by rw [← h.n]; exact hqs)] at e
        exact absurd (h.inj b q hb hqn hd h2 e).symm h1
    · obtain ⟨h1, h2, h3⟩ := hold k hks hkd
      by_cases hqs : q = s.next
      · simp only at e
        rw [if_neg (by rw [← h.n]; exact hks), if_pos (by rw [hqs]; exact h.n)] at e
        exact absurd (h.inj k b hkn hb h2 hd e) h1
      · obtain ⟨g1, g2, g3⟩ := hold q hqs hqd
        simp only at e
        rw [if_neg (by rw [← h.n]; exact hks), if_neg (by rw [← h.n]; exact hqs)] at e
        exact h.inj k q hkn hqn h2 g2 e
  · intro r hr
    obtain ⟨g1, g2, g3, g4, g6⟩ := h.live r hr
    refine ⟨g1, g2, g3, g4, fun k hkn hkd => ?_⟩
    by_cases hks : k = s.next
    · subst hks
      simp only
      rw [if_pos h.n]
      exact g6 b hb hd
    · obtain ⟨h1, h2, h3⟩ := hold k hks hkd
      simp only
      rw [if_neg (by rw [← h.n]; exact hks)]
      exact g6 k hkn h2
  · exact h.apart
  · exact h.ib
  · intro k hkn
    rw [hget]
    by_cases hks : k = s.next
    · rw [if_pos hks]
      refine Nat.le_trans (h.wm b hb) (Nat.max_le.2 ⟨Nat.le_trans (Nat.le_of_lt hbn) (by rw [hks]; exact Nat.le_max_left _ _), Nat.le_max_right _ _⟩)
    · rw [if_neg hks]
      exact hk.wm k hkn
  · intro k hkn
    rw [hget, if_neg (by have := h.ngle; rw [h.n]; omega)]
    exact hk.gwm k hkn
  · exact DoneR.ext ex _ h.done

end
end
end Go.AVM

namespace Go.AVM
open Go.RowKit
noncomputable section

section
variable {P : Program} {ng B : Nat} {w0 w : World} {G : Ctx} {s : St}

theorem hiL_append : ∀ (a b : List AV), hiL (a ++ b) = Nat.max (hiL a) (hiL b)
  | [], b => (Nat.max_eq_right (Nat.zero_le _)).symm
  | c :: a, b => by
    rw [List.cons_append]
    show Nat.max c.hi (hiL (a ++ b)) = Nat.max (Nat.max c.hi (hiL a)) (hiL b)
    rw [hiL_append a b]
    exact (Nat.max_assoc _ _ _).symm

theorem take_ow {α : Type} (xs l : List α) (off n : Nat) (h : off + xs.length ≤ n) (hn : n ≤ l.length) : (ow l off xs).take n = ow (l.take n) off xs := by
  refine List.ext_getElem? fun j => ?_
  rw [List.getElem?_take, ow_get xs l off j (by omega), ow_get xs (l.take n) off j (by rw [List.length_take]; omega), List.getElem?_take]
  by_cases hj : j < n
  · rw [if_pos hj, if_pos hj]
  · rw [if_neg hj, if_neg (by omega), if_neg hj]

/-! ### a write into such a row -/
def eStoreR (P : Program) (ng : Nat) (s : St) (t : TypeId) (x v : AV) : Option (AV × St) :=
  match x with
  | .ptr b off => if b < ng then none else match s.get b, cellsOf v, inf P t with
    | .row cs e, some vs, some i => if vs.length ≠ i.size ∨ off + vs.length > cs.length ∨ vs.all one = false then none else some (.val undef, s.rowAt b (ow cs off vs) e (hiLR (ow cs off vs)))
    | _, _, _ => none
  | _ => none

theorem eStoreR_sound (h : WRel ng B w0 G w s) {t : TypeId} {x v r : AV} {a b : Value} {s' : St} (hx : VR G w x a) (hv : VR G w v b) (hq : eStoreR P ng s t x v = some (r, s')) :
    Does P ng B w0 G w (do Instr.storeAt t a b; pure .skip) r s' := by
  unfold eStoreR at hq
  split at hq
  · rename_i bk off
    split at hq
    · cases hq
    · rename_i hng
      split at hq
      · rename_i cs e vs i hg hvs hi
        split at hq
        · cases hq
        · rename_i hc
          cases hq
          simp only [not_or, Nat.not_lt, ne_eq, Decidable.not_not] at hc
          obtain ⟨hc1, hc2, hc3⟩ := hc
          simp only [VR] at hx
          obtain ⟨_, rfl⟩ := hx
          have hvl := cellsOf_sound hv hvs
          obtain ⟨c, fz, h1, h2, h3, h4, _⟩ := h.rows hg
          have hlen : b.cells.size = vs.length := by rw [← Array.length_toList]; exact hvl.length.symm
          have hll : b.cells.toList.length = vs.length := by simpa using hlen
          obtain ⟨g1, g2⟩ := h.storeRow (by omega) hg hvl (off := off) (cs' := ow cs off vs) (fun c' k1 k2 k3 => by
            rw [ow_length]
            refine ⟨?_, k1⟩
            rw [take_ow _ _ _ _ (by rw [hll]; omega) (by simpa using k1)]
            exact k2.ow off hvl) (fun c' el fz' hh => by
              rw [h1] at hh
              cases hh
              rw [hll]; omega) (hiL_ow vs cs off)
          have hone : ∀ u, u ∈ b.cells.toList → valOne u = true := by
            intro u hu
            obtain ⟨j, hj⟩ := List.getElem?_of_mem hu
            have hjl : j < vs.length := by rw [← hll]; exact (List.getElem?_eq_some_iff.1 hj).1
            obtain ⟨y, hy1, hy2⟩ := hvl.get (List.getElem?_eq_getElem hjl)
            rw [hj] at hy1
            cases hy1
            have : one vs[j] = true := by
              have hall : vs.all one = true := by cases hh : vs.all one <;> simp_all
              exact List.all_eq_true.1 hall _ (List.getElem_mem hjl)
            exact (one_sound hy2 this).1
          have hrun := run_storeCells_at' (P := P) (G.ρ bk) off b.cells.toList 0 w c e fz h1 (by rw [hll]; omega) (fun j hj _ => h4 j hj) hone
          refine ⟨.skip, undef, _, _, ?_, .inr ⟨rfl, rfl⟩, by simp [VR], g1, g2⟩
          simp only [Instr.storeAt, Instr.sureAddr, Sem.run_bind, Sem.run_pure, Result.andThen_ok, storeVar, r_size hi]
          rw [if_neg (by rw [hlen]; simp [hc1]), hrun]
          rfl
      · cases hq
  · cases hq

/-! ### an append that leaves a row to be written -/
def eAppendM (P : Program) (ng : Nat) (s : St) (ts : Array TypeId) (x y : AV) : Option (AV × St) :=
  match ts[0]?, ts[1]? with
  | some t0, some t1 => match und P t0, und P t1 with
    | some (.slice e), some d1 => match inf P e, zeroA P e with
      | some i, some z => match cellsOf z, srcEls s i.size y with
        | some zc, some els =>
          if strOrSl d1 = false ∨ i.bytes > 4096 ∨ zc.length ≠ i.size ∨ els.flatten.all one = false then none else
          match x with
          | .ms b off n cap => match s.get b with
            | .cells cs el => if n + els.length > 1073741824 ∨ n + els.length ≤ cap ∨ off + n * i.size > cs.length then none else
              some (.mx s.next (n + els.length) i.size, s.push (.row ((cs.drop off).take (n * i.size) ++ els.flatten) e))
            | _ => none
          | .mx b n sz => match s.get b with
            | .row cs el => if b < ng ∨ n + els.length > 1073741824 ∨ sz ≠ i.size ∨ el ≠ e ∨ cs.length ≠ n * i.size ∨ els = [] then none else
              some (.mx s.next (n + els.length) i.size, (s.put b .dead).push (.row (cs ++ els.flatten) e))
            | _ => none
          | _ => none
        | _, _ => none
      | _, _ => none
    | _, _ => none
  | _, _ => none

/-- A new row of which the head is told. -/
theorem Does.of_rowNew {f : Sem Next} {cells : List AV} {sz n : Nat} {e : TypeId} {xs : Array Value} {cp : Nat} {s1 : St} (h : WRel ng B w0 G w s1)
    (hv : VRL G w cells (xs.toList.take cells.length)) (hlen : cells.length ≤ xs.size) (hcp : n ≤ cp) (hsz : cp * sz ≤ xs.size)
    (hr : f.run P w = .ok (.value (.slice (some ⟨w.heap.size, 0, none⟩) n cp)) (w.drew.alloc (.cells xs e))) :
    Does P ng B w0 G w f (.mx s1.next n sz) (s1.push (.row cells e)) := by
  have hdr : WRel ng B w0 G w.drew s1 := h.draw (w.drawn + 1)
  have hex : Ext G w G w.drew := Ext.heap rfl
  obtain ⟨m1, m2⟩ := hdr.new (.row cells e) (.cells xs e (0, 0)) ⟨xs, (0, 0), rfl, hlen, VRL.ext hex _ _ hv, fun j _ hh => absurd hh.2 (Nat.not_lt_zero _)⟩ (by
    show hiL cells ≤ _
    rw [h.n]
    exact Nat.le_trans (VRL.hi cells _ hv) (Nat.le_max_left _ _))
  refine ⟨_, _, _, _, hr, .inl rfl, ?_, hex.trans m1, m2⟩
  simp only [VR]
  refine ⟨by rw [h.n]; exact Nat.lt_succ_self _, cp, ?_, hcp, xs, e, (0, 0), ?_, hsz⟩
  · rw [h.n]; simp [Ctx.new]
  · rw [h.n]
    simp only [Ctx.new, if_true]
    exact heap_alloc_eq w.drew _

theorem eAppendM_sound (h : WRel ng B w0 G w s) {ts : Array TypeId} {ty : TypeId} {x y v : AV} {a b : Value} {s' : St} (hx : VR G w x a) (hy : VR G w y b) (hq : eAppendM P ng s ts x y = some (v, s')) :
    Does P ng B w0 G w (do pure (.value (← Builtin.append_ ts ty #[a, b]))) v s' := by
  unfold eAppendM at hq
  split at hq
  · rename_i t0 t1 ht ht1
    split at hq
    · rename_i e d1 hd hd1
      split at hq
      · rename_i i z hi hz
        split at hq
        · rename_i zc els hzc hels
          split at hq
          · cases hq
          · rename_i hc
            simp only [not_or, Nat.not_lt, ne_eq, Decidable.not_not, gt_iff_lt] at hc
            obtain ⟨hc1, hc2, hc3, hc4⟩ := hc
            have hni : (∃ e1, d1 = .slice e1) ∨ d1 = .string := by
              cases d1 <;> first | (simp [strOrSl] at hc1; done) | exact .inl ⟨_, rfl⟩ | exact .inr rfl
            obtain ⟨zv, hzi, hzv⟩ := zeroA_info (P := P) (G := G) (w := w) hz hi
            have hzsz : zv.cells.size = i.size := by rw [← Array.length_toList, ← hc3]; exact (cellsOf_sound hzv hzc).length.symm
            obtain ⟨hl, hlen, ys, hys', hyv⟩ := srcEls_sound (P := P) h hy hels
            have hysz : ys.size = els.length * i.size := by rw [← Array.length_toList, ← flat_length i.size els hl]; exact hyv.length.symm
            have hfl : els.flatten.length = els.length * i.size := flat_length i.size els hl
            have hyone : ∀ u, u ∈ ys.toList → valOne u = true := by
              intro u hu
              obtain ⟨j, hj⟩ := List.getElem?_of_mem hu
              have hjl : j < els.flatten.length := by
                rw [hyv.length]; exact (List.getElem?_eq_some_iff.1 hj).1
              obtain ⟨y', hy1, hy2⟩ := hyv.get (List.getElem?_eq_getElem hjl)
              rw [hj] at hy1
              cases hy1
              have hall : els.flatten.all one = true := by cases hh : els.flatten.all one <;> simp_all
              exact (one_sound hy2 (List.all_eq_true.1 hall _ (List.getElem_mem hjl))).1
            have hys := hys' w rfl
            -- growth
            have grow : ∀ (bk off n cap : Nat) (cells : List AV) (s1 : St), WRel ng B w0 G w s1 → cells.length = n * i.size → n + els.length ≤ 1073741824 → cap < n + els.length →
                (∀ (j : Nat) (d : AV), cells[j]? = some d → ∃ x, w.cell? ⟨bk, off + j, none⟩ = some x ∧ VR G w d x) →
                Does P ng B w0 G w (do pure (.value (← Builtin.append_ ts ty #[.slice (some ⟨bk, off, none⟩) n cap, b]))) (.mx s1.next (n + els.length) i.size) (s1.push (.row (cells ++ els.flatten) e)) := by
              intro bk off n cap cells s1 h1 hcl hsm hcap hcell
              obtain ⟨xs, k1, k2⟩ := gather (b := bk) cells off hcell
              have hxl : xs.length = n * i.size := by rw [← hcl]; exact k1.length.symm
              have hold : ∀ w' : World, w'.heap = w.heap → (Builtin.firstCells i.size n (.slice (some ⟨bk, off, none⟩) n cap)).run P w' = .ok xs.toArray w' := by
                intro w' hw'
                simp only [Builtin.firstCells]
                rw [← hxl]
                refine run_loadCells_list (P := P) w' ⟨bk, off, none⟩ xs (fun j v hj => ?_)
                rw [addr_add]
                have := k2 j v hj
                simpa only [World.cell?, hw'] using this
              obtain ⟨cp, hcp, hrun⟩ := run_append_grow' (P := P) (w := w) ht ht1 hd hd1 hni hi hzi hc2 (k := els.length) hsm hcap hlen hold hys' ty
              have hsize : (xs.toArray ++ ys ++ Builtin.zeroCells zv.cells (cp - (n + els.length))).size = cp * i.size := by
                rw [Array.size_append, Array.size_append, hysz, size_zeros, hzsz, List.size_toArray, hxl, ← Nat.add_mul, ← Nat.add_mul]
                rw [show n + els.length + (cp - (n + els.length)) = cp by omega]
              refine Does.of_rowNew h1 (xs := xs.toArray ++ ys ++ Builtin.zeroCells zv.cells (cp - (n + els.length))) (cp := cp) ?_ ?_ hcp (by rw [hsize]; exact Nat.le_refl _) (run_val hrun)
              · have hlen2 : (xs ++ ys.toList).length = (cells ++ els.flatten).length := by simp [hxl, hcl, hysz, hfl]
                have : (xs.toArray ++ ys ++ Builtin.zeroCells zv.cells (cp - (n + els.length))).toList = (xs ++ ys.toList) ++ (Builtin.zeroCells zv.cells (cp - (n + els.length))).toList := by simp
                rw [this, List.take_left' hlen2]
                exact k1.append hyv
              · rw [hsize, List.length_append, hcl, hfl, ← Nat.add_mul]
                exact Nat.mul_le_mul_right _ hcp
            split at hq
            · rename_i bk off n cap
              split at hq
              · rename_i cs el hg
                split at hq
                · cases hq
                · rename_i hcc
                  cases hq
                  simp only [not_or, Nat.not_lt, Nat.not_le, gt_iff_lt] at hcc
                  obtain ⟨hsmall, hcap, hfit⟩ := hcc
                  simp only [VR] at hx
                  obtain ⟨hbN, rfl⟩ := hx
                  obtain ⟨c, fz, g1, g2, g3, g4⟩ := h.cells hg
                  refine grow (G.ρ bk) off n cap _ s h (by rw [List.length_take, List.length_drop, Nat.min_eq_left (by omega)]) hsmall hcap (fun j d hj => ?_)
                  rw [List.getElem?_take] at hj
                  split at hj
                  · rw [List.getElem?_drop] at hj
                    obtain ⟨x, hx, hv⟩ := g4 (off + j) d hj
                    exact ⟨x, by rwa [Nat.zero_add] at hx, hv⟩
                  · cases hj
              · cases hq
            · rename_i bk n sz
              split at hq
              · rename_i cs el hg
                split at hq
                · cases hq
                · rename_i hcc
                  cases hq
                  simp only [not_or, Nat.not_lt, gt_iff_lt, ne_eq, Decidable.not_not] at hcc
                  obtain ⟨hb, hsmall, rfl, rfl, hcl, hne⟩ := hcc
                  have hd0 : s.get bk ≠ .dead := by rw [hg]; simp
                  have hbn : bk < s.next := St.get_lt hd0
                  simp only [VR] at hx
                  obtain ⟨hbN, cap, rfl, hle, c, e0, fz, hh, hcap⟩ := hx
                  obtain ⟨c1, fz1, g1, g2, g3, g4, g5⟩ := h.rows hg
                  rw [hh] at g1
                  cases g1
                  by_cases hroom : n + els.length ≤ cap
                  · have hbound : 0 + n * i.size + ys.size ≤ c.size := by
                      have := Nat.mul_le_mul_right i.size hroom
                      rw [Nat.add_mul] at this
                      rw [hysz]; omega
                    have hrun := run_append_in (P := P) (w := w) ht ht1 hd hd1 hni hi (b := G.ρ bk) (o := 0) hroom hlen hys hh hbound (fun j hj _ => g4 j hj) hyone ty
                    obtain ⟨a1, a2⟩ := h.again hb hd0
                    rw [hg] at a2
                    have hρ : ({ G with N := G.N + 1, ρ := fun k => if k = G.N then G.ρ bk else G.ρ k } : Ctx).ρ s.next = G.ρ bk := by simp only; rw [if_pos h.n]
                    have hgN : ((s.put bk .dead).push (.row cs el)).get s.next = .row cs el := by
                      rw [St.get_push _ _ (h.kill hbn).len]
                      exact if_pos rfl
                    have hyl : ys.toList.length = els.length * i.size := by simpa using hysz
                    obtain ⟨b1, b2⟩ := a2.storeRow (b := s.next) (off := 0 + n * i.size) (cs := cs) (cs' := cs ++ els.flatten) (vs := els.flatten) (xs := ys.toList) (by have := h.ngle; rw [h.n]; omega) hgN (VRL.ext a1 _ _ hyv)
                      (fun c' k1 k2 k3 => by
                        have hcl' : cs.length = 0 + n * i.size := by omega
                        have hl2 : (cs ++ els.flatten).length = 0 + n * i.size + ys.toList.length := by rw [List.length_append, hcl, hfl, hyl]; omega
                        refine ⟨?_, by rw [hl2]; exact k3⟩
                        rw [hl2]
                        have e1 : (ow c'.toList (0 + n * i.size) ys.toList).take (0 + n * i.size + ys.toList.length) = c'.toList.take cs.length ++ ys.toList := by
                          refine List.ext_getElem? fun j => ?_
                          rw [List.getElem?_take, ow_get ys.toList c'.toList _ j (by simpa using k3), List.getElem?_append, List.length_take, List.getElem?_take, Nat.min_eq_left (by simpa using k1)]
                          by_cases h4 : j < 0 + n * i.size
                          · rw [if_pos (by omega), if_neg (by omega), if_pos (by omega), if_pos (by omega)]
                          · by_cases h5 : j < 0 + n * i.size + ys.toList.length
                            · rw [if_pos h5, if_pos (by omega), if_neg (by omega)]
                              congr 1
                              omega
                            · rw [if_neg h5, if_neg (by omega), List.getElem?_eq_none (by omega)]
                        rw [e1]
                        exact k2.append (VRL.ext a1 _ _ hyv))
                      (fun c' el' fz' hh' => by
                        rw [hρ, hh] at hh'
                        cases hh'
                        simpa using hbound) (by rw [hiL_append]; exact Nat.le_refl _)
                    rw [hρ] at b1 b2
                    have hsame : ((s.put bk .dead).push (.row cs el)).rowAt s.next (cs ++ els.flatten) el (hiLR (cs ++ els.flatten)) = (s.put bk .dead).push (.row (cs ++ els.flatten) el) := by
                      have hhi : hiLR (cs ++ els.flatten) ≤ s.next := by
                        rw [hiLR_eq, h.n]
                        exact VRL.hi _ _ (g3.append hyv)
                      unfold St.rowAt St.wmUp
                      rw [if_pos hhi]
                      unfold St.push St.put
                      simp only [rset_eq, Nat.add_sub_cancel, Nat.sub_self, List.set_cons_zero]
                    rw [hsame] at b2
                    obtain ⟨c', h7, h8⟩ := putCells_heap_eq ys.toList w (G.ρ bk) (0 + n * i.size) hh
                    refine ⟨_, _, _, _, run_val hrun, .inl rfl, ?_, a1.trans b1, b2⟩
                    simp only [VR]
                    refine ⟨by rw [h.n]; exact Nat.lt_succ_self _, cap, by rw [if_pos h.n], hroom, c', el, fz, by rw [if_pos h.n]; exact h7, ?_⟩
                    rw [← Array.length_toList, h8, ow_length, Array.length_toList]
                    exact hcap
                  · have := grow (G.ρ bk) 0 n cap cs (s.put bk .dead) (h.kill hbn) hcl hsmall (by omega) (fun j d hj => g5 j d hj)
                    exact this
              · cases hq
            · cases hq
        · cases hq
      · cases hq
    · cases hq
  · cases hq

end
end
end Go.AVM

namespace Go.AVM
open Go.RowKit
noncomputable section

section
variable {P : Program} {ng B : Nat} {w0 w : World} {G : Ctx} {s : St}

/-! ### []byte(s) -/
def eStrBytes (P : Program) (s : St) (src dst : TypeId) (x : AV) : Option (AV × St) :=
  match und P src, und P dst, x with
  | some .string, some (.slice e), .val (.string sv) => match und P e with
    | some (.int .u8) => some (.sl (sv.data.toList.map fun u => [.val (.int .u8 u.toNat)]) 1 (.own s.tok e), s.row)
    | _ => none
  | _, _, _ => none

theorem bytes_VRL (l : List UInt8) : VRL G w (l.map fun u => [AV.val (.int .u8 u.toNat)]).flatten (l.map fun u => Value.int .u8 u.toNat) := by
  induction l with
  | nil => simp [VRL]
  | cons u l ih =>
    simp only [List.map_cons, List.flatten_cons, List.singleton_append, VRL]
    exact ⟨_, _, rfl, by simp [VR], ih⟩

theorem eStrBytes_sound (h : WRel ng B w0 G w s) {src dst : TypeId} {x v : AV} {a : Value} {s' : St} (hx : VR G w x a) (hq : eStrBytes P s src dst x = some (v, s')) :
    Does P ng B w0 G w (do pure (.value (← convert src dst a))) v s' := by
  unfold eStrBytes at hq
  split at hq
  · rename_i e sv hs hd
    split at hq
    · rename_i he
      cases hq
      simp only [VR] at hx
      subst hx
      have hsz : sv.data.size = sv.size := rfl
      have hcap : sv.size ≤ grownCap w sv.size 0 e := grownCap_ge w sv.size 0 e
      have hrun := run_bytes_of_string (P := P) w src dst e sv (und_sound hs) (und_sound hd) (und_sound he)
      have hbr : (bytesRow sv (grownCap w sv.size 0 e)).toList = (sv.data.toList.map fun u => Value.int .u8 u.toNat) ++ List.replicate (grownCap w sv.size 0 e - sv.size) (.int .u8 0) := by
        simp [bytesRow]
      have hbs : (bytesRow sv (grownCap w sv.size 0 e)).size = grownCap w sv.size 0 e := by
        rw [← Array.length_toList, hbr, List.length_append, List.length_map, Array.length_toList, hsz, List.length_replicate]; omega
      have hdr : WRel ng B w0 G w.drew s := h.draw (w.drawn + 1)
      have hex : Ext G w G w.drew := Ext.heap rfl
      have hlen : (sv.data.toList.map fun u => [AV.val (.int .u8 u.toNat)]).length = sv.size := by rw [List.length_map, Array.length_toList]; rfl
      obtain ⟨m1, m2, m3⟩ := hdr.row (bytesRow sv (grownCap w sv.size 0 e)) e ((bytesRow sv (grownCap w sv.size 0 e)).size, (bytesRow sv (grownCap w sv.size 0 e)).size + 1)
        (sv.data.toList.map fun u => [AV.val (.int .u8 u.toNat)]) 1 (sv.data.toList.map fun u => Value.int .u8 u.toNat) (List.replicate (grownCap w sv.size 0 e - sv.size) (.int .u8 0))
        hbr (fun d hd => by simp at hd; obtain ⟨u, _, rfl⟩ := hd; rfl) (bytes_VRL _) (fun j _ hj hh => by
          have := hh.1
          simp only at this
          omega) (grownCap w sv.size 0 e) (by rw [hlen]; exact hcap) (by rw [hbs]; omega)
      rw [hlen] at m3
      exact ⟨_, _, _, _, run_val hrun, .inl rfl, m3, hex.trans m1, m2⟩
    · cases hq
  · cases hq

end
end
end Go.AVM

namespace Go.AVM
open Go.RowKit
noncomputable section

section
variable {P : Program} {ng B : Nat} {w0 w : World} {G : Ctx} {s : St}

/-! ### copy into a row -/
def eCopy (P : Program) (ng : Nat) (s : St) (ts : Array TypeId) (x y : AV) : Option (AV × St) :=
  match ts[0]? with
  | some t0 => match und P t0 with
    | some (.slice e) => match inf P e with
      | some i => match x, srcEls s i.size y with
        | .ms b off n cap, some els => match s.get b with
          | .cells cs el => if b < ng ∨ n < els.length ∨ off + els.length * i.size > cs.length ∨ els.flatten.all one = false then none else
              some (.val (.int .i64 els.length), s.store b off cs el els.flatten)
          | _ => none
        | _, _ => none
      | none => none
    | _ => none
  | none => none

theorem eCopy_sound (h : WRel ng B w0 G w s) {ts : Array TypeId} {ty : TypeId} {x y v : AV} {a b : Value} {s' : St} (hx : VR G w x a) (hy : VR G w y b) (hq : eCopy P ng s ts x y = some (v, s')) :
    Does P ng B w0 G w (do pure (.value (← Builtin.copy_ ts ty #[a, b]))) v s' := by
  unfold eCopy at hq
  split at hq
  · rename_i t0 ht
    split at hq
    · rename_i e hd
      split at hq
      · rename_i i hi
        split at hq
        · rename_i bk off n cap els hels
          split at hq
          · rename_i cs el hg
            split at hq
            · cases hq
            · rename_i hc
              simp only [not_or, Nat.not_lt, gt_iff_lt] at hc
              obtain ⟨hb, hn, hsz, hone⟩ := hc
              cases hq
              simp only [VR] at hx
              obtain ⟨hbN, rfl⟩ := hx
              obtain ⟨hl, hlen, ys, hys', hyv⟩ := srcEls_sound (P := P) h hy hels
              have hysz : ys.size = els.length * i.size := by rw [← Array.length_toList, ← flat_length i.size els hl]; exact hyv.length.symm
              have hyone : ∀ u, u ∈ ys.toList → valOne u = true := by
                intro u hu
                obtain ⟨j, hj⟩ := List.getElem?_of_mem hu
                have hjl : j < els.flatten.length := by
                  rw [hyv.length]; exact (List.getElem?_eq_some_iff.1 hj).1
                obtain ⟨y', hy1, hy2⟩ := hyv.get (List.getElem?_eq_getElem hjl)
                rw [hj] at hy1
                cases hy1
                have hall : els.flatten.all one = true := by cases hh : els.flatten.all one <;> simp_all
                exact (one_sound hy2 (List.all_eq_true.1 hall _ (List.getElem_mem hjl))).1
              obtain ⟨c, fz, g1, g2, g3, g4⟩ := h.cells hg
              have hcl : c.size = cs.length := by rw [← Array.length_toList]; exact g2.length.symm
              have hst := run_storeCells_at' (P := P) (G.ρ bk) off ys.toList 0 w c el fz g1 (by simp [hysz]; omega) (fun j hj _ => g3 j hj) hyone
              simp only [Nat.add_zero] at hst
              obtain ⟨k1, k2⟩ := h.store hb hg hyv (off := off)
              have hmin : Nat.min els.length n = els.length := Nat.min_eq_left hn
              have hrun : (Builtin.copy_ ts ty #[.slice (some ⟨G.ρ bk, off, none⟩) n cap, b]).run P w = .ok (.int .i64 els.length) (w.putCells (G.ρ bk) off ys.toList) := by
                simp [Builtin.copy_, ht, r_und hd, hlen, hmin, r_size hi, hys' w rfl, hst, goInt]
              exact ⟨_, _, _, _, run_val hrun, .inl rfl, by simp [VR], k1, k2⟩
          · cases hq
        · cases hq
      · cases hq
    · cases hq
  · cases hq

/-! ### the next of a range -/
theorem EnR.filter (p : Nat → Bool) : ∀ {es : List AE} {xs : List MapEntry}, EnR G w es xs → EnR G w (es.filter fun e => p e.born) (xs.filter fun e => p e.born)
  | [], xs, h => by
    simp only [EnR] at h
    subst h
    simp [EnR]
  | e :: es, xs, h => by
    obtain ⟨y, ys, rfl, h1, h2, h3, h4⟩ := h
    have ih := EnR.filter p h4
    simp only [List.filter_cons, h3]
    by_cases hp : p e.born = true
    · rw [if_pos hp, if_pos hp]
      exact ⟨y, _, rfl, h1, h2, h3, ih⟩
    · rw [if_neg hp, if_neg hp]
      exact ih

theorem EnR.append : ∀ {es fs : List AE} {xs ys : List MapEntry}, EnR G w es xs → EnR G w fs ys → EnR G w (es ++ fs) (xs ++ ys)
  | [], fs, xs, ys, h, k => by
    simp only [EnR] at h
    subst h
    simpa using k
  | e :: es, fs, xs, ys, h, k => by
    obtain ⟨y, zs, rfl, h1, h2, h3, h4⟩ := h
    exact ⟨y, zs ++ ys, rfl, h1, h2, h3, EnR.append h4 k⟩

theorem EnR.all (p : Nat → Bool) : ∀ {es : List AE} {xs : List MapEntry}, EnR G w es xs → (xs.all fun e => p e.born) = (es.all fun e => p e.born)
  | [], xs, h => by
    simp only [EnR] at h
    subst h
    rfl
  | e :: es, xs, h => by
    obtain ⟨y, ys, rfl, h1, h2, h3, h4⟩ := h
    simp only [List.all_cons, h3, EnR.all p h4]

def cands (es : List AE) (since : Nat) (seen : List Nat) : List (Option AE) :=
  let left := es.filter fun e => !seen.contains e.born
  let old := left.filter fun e => decide (e.born < since)
  let new := left.filter fun e => decide (e.born ≥ since)
  (if old.isEmpty then [none] else []) ++ (old ++ new).map some

def nextOf (s : St) (b m since : Nat) (seen : List Nat) (ck : Nat) : Option (Option AE) → M (AV × St)
  | some (some e) => .ret (.tup [.val (.bool true), e.key, e.val], (s.wmUp b (m + 1)).put b (.miter (some m) since (seen ++ [e.born]) ck))
  | some none => .ret (.tup [.val (.bool false)], s)
  | none => .fail

def mNext (ng : Nat) (s : St) (it : AV) (isStr : Bool) : M (AV × St) :=
  match it with
  | .ptr b 0 => if b < ng then .fail else
    match s.get b, isStr with
    | .siter sv pos, true => if pos < sv.size then
        .ret (.tup [.val (.bool true), .val (.int .i64 pos), .val (.int .i32 (Utf8.decode sv pos).1)], (s.wmUp b 0).put b (.siter sv (pos + (Utf8.decode sv pos).2)))
      else .ret (.tup [.val (.bool false)], s)
    | .miter none _ _ _, false => .ret (.tup [.val (.bool false)], s)
    | _, _ => .fail
  | _ => .fail

theorem toArray_contains (l : List Nat) (x : Nat) : l.toArray.contains x = l.contains x := by simp

theorem mNext_sound (h : WRel ng B w0 G w s) {it : AV} {isStr : Bool} {a : Value} {ty : TypeId} (hx : VR G w it a) {R : AV × St → Prop} (hq : (mNext ng s it isStr).all R) :
    ∃ v s', R (v, s') ∧ Does P ng B w0 G w (do pure (.value (← Instr.next a isStr ty))) v s' := by
  unfold mNext at hq
  split at hq
  · rename_i b
    split at hq
    · exact hq.elim
    · rename_i hng
      simp only [VR] at hx
      obtain ⟨hbN, rfl⟩ := hx
      split at hq
      · rename_i sv pos hg
        obtain ⟨o, h1, h2⟩ := h.obj b (by rw [hg]; simp)
        rw [hg] at h2
        have h2' : o = .stringIter sv pos := h2
        subst h2'
        have hget := run_getObj_eq (P := P) h1 rfl
        split at hq
        · rename_i hpos
          refine ⟨_, _, hq, Does.of_setObj h (by omega) (by rw [hg]; simp) h1 rfl (o := .siter sv (pos + (Utf8.decode sv pos).2)) (x := .stringIter sv (pos + (Utf8.decode sv pos).2)) rfl rfl
            (n := .value (.tuple #[.bool true, .int .i64 pos, .int .i32 (Utf8.decode sv pos).1])) (.inl rfl) ?_ (by simp [VR, VRL])⟩
          refine run_val ?_
          simp only [Instr.next, Sem.run_bind, hget, Result.andThen_ok]
          rw [if_pos hpos]
          simp only [Sem.run_bind, run_setObj_eq h1 rfl, Result.andThen_ok, Sem.run_pure, goInt]
        · rename_i hpos
          refine ⟨_, _, hq, Does.quiet h (y := .tuple #[.bool false]) ?_ (by simp [VR, VRL])⟩
          simp only [Instr.next, Sem.run_bind, hget, Result.andThen_ok]
          rw [if_neg hpos]
          rfl
      · rename_i since seen last hg
        obtain ⟨o, h1, h2⟩ := h.obj b (by rw [hg]; simp)
        rw [hg] at h2
        obtain ⟨_, h2'⟩ := h2
        have h2'' : o = .mapIter none since seen.toArray last := h2'
        subst h2''
        have hget := run_getObj_eq (P := P) h1 rfl
        refine ⟨_, _, hq, Does.quiet h (y := .tuple #[.bool false]) ?_ (by simp [VR, VRL])⟩
        simp only [Instr.next, Sem.run_bind, hget, Result.andThen_ok]
        rfl
      · exact hq.elim
  · exact hq.elim

end
end
end Go.AVM

namespace Go.AVM
open Go.RowKit
noncomputable section

section
variable {P : Program} {ng B : Nat} {w0 w : World} {G : Ctx} {s : St}

/-! ### bytes that are frozen -/
theorem freeze_heap_ne (w : World) (b n k : Nat) (h : k ≠ b) : (w.freeze ⟨b, 0, none⟩ n).heap[k]? = w.heap[k]? := by
  unfold World.freeze
  split
  · rfl
  · simp only [Array.getElem?_modify]
    rw [if_neg (by omega)]

theorem freeze_heap_eq (w : World) (b n : Nat) {c : Array Value} {e : TypeId} {fz : Nat × Nat} (h : w.heap[b]? = some (.cells c e fz)) : ∃ fz', (w.freeze ⟨b, 0, none⟩ n).heap[b]? = some (.cells c e fz') := by
  unfold World.freeze
  split
  · exact ⟨fz, h⟩
  · refine ⟨if fz.1 == fz.2 then (0, 0 + n) else (Nat.min fz.1 0, Nat.max fz.2 (0 + n)), ?_⟩
    simp only [Array.getElem?_modify]
    rw [if_pos trivial, h]
    obtain ⟨lo, hi⟩ := fz
    rfl

theorem freeze_size (w : World) (b n : Nat) : (w.freeze ⟨b, 0, none⟩ n).heap.size = w.heap.size := by
  unfold World.freeze
  split
  · rfl
  · simp

theorem WRel.freeze (h : WRel ng B w0 G w s) {r b e0 : Nat} (hr : r ∈ s.live) (hτ : G.τ r = (b, e0)) (n : Nat) :
    Ext G w G (w.freeze ⟨b, 0, none⟩ n) ∧ WRel ng B w0 G (w.freeze ⟨b, 0, none⟩ n) { s with live := s.live.erase r } := by
  obtain ⟨h1, h2, h3, ⟨c0, el0, fz0, h4, h5⟩, h6⟩ := h.live r hr
  rw [hτ] at h2 h3 h4 h5 h6
  have ex : Ext G w G (w.freeze ⟨b, 0, none⟩ n) :=
    { n := Nat.le_refl _, m := Nat.le_refl _, ρ := fun _ _ => rfl, τ := fun _ _ => rfl, i := fun _ _ h => h
      cell := fun k q hi => by
        by_cases hk : k = b
        · subst hk
          obtain ⟨fz', h7⟩ := freeze_heap_eq w k n h4
          simp only [World.cell?, h7]
          simp only at h4
          simp only [h4]
        · simp only [World.cell?, freeze_heap_ne w b n k hk]
      size := fun k c e fz hh => by
        by_cases hk : k = b
        · subst hk
          obtain ⟨fz', h7⟩ := freeze_heap_eq w k n hh
          exact ⟨c, fz', h7, rfl⟩
        · exact ⟨c, fz, by rw [freeze_heap_ne w b n k hk]; exact hh, rfl⟩ }
  have hpw := pairwise_head (R := fun r q => (G.τ r).1 ≠ (G.τ q).1) (fun a b hab e => hab e.symm) hr h.apart
  have hu : WRel ng B w0 G w { s with live := s.live.erase r } := h.unlive List.erase_sublist
  refine ⟨ex, ?_⟩
  constructor
  · exact Lib.below_freeze h.below h2 n
  · rw [freeze_size]; exact h.base
  · exact h.n
  · exact h.m
  · exact h.len
  · exact h.ngle
  · exact h.ngB
  · exact h.glob
  · intro k hk
    have hk' : s.get k ≠ .dead := hk
    obtain ⟨y, h7, h8⟩ := h.obj k hk'
    refine ⟨y, ?_, OR.ext ex _ _ h8⟩
    have hne : G.ρ k ≠ b := by
      by_cases hkn : ng ≤ k
      · exact h6 k hkn hk'
      · have h9 : G.ρ k = k := h.glob k (by omega)
        have := h.ngB
        have h2' : B ≤ b := h2
        omega
    rw [freeze_heap_ne w b n _ hne]
    exact h7
  · exact hu.own
  · exact hu.inj
  · intro q hq
    obtain ⟨g1, g2, g3, ⟨c, el, fz, g4, g5⟩, g6⟩ := hu.live q hq
    have hne : b ≠ (G.τ q).1 := by
      have := hpw.2 q hq
      rw [hτ] at this
      exact this
    exact ⟨g1, g2, g3, ⟨c, el, fz, by rw [freeze_heap_ne w b n _ hne.symm]; exact g4, g5⟩, g6⟩
  · exact hu.apart
  · intro k o hi; rw [freeze_size]; exact h.ib k o hi
  · exact h.wm
  · exact h.gwm
  · exact DoneR.ext ex _ h.done

/-! ### unsafe.SliceData, unsafe.String -/
def eSliceData (s : St) (x : AV) : Option (AV × St) :=
  match x with
  | .sl [] _ .nil => some (.val (.pointer none), s)
  | .sl (e :: es) sz (.own r el) => some (.sd (e :: es) sz r el, s)
  | _ => none

theorem eSliceData_sound (h : WRel ng B w0 G w s) {ts : Array TypeId} {ty : TypeId} {x v : AV} {a : Value} {s' : St} (hx : VR G w x a) (hq : eSliceData s x = some (v, s')) :
    Does P ng B w0 G w (do pure (.value (← Builtin.unsafeSliceData_ ts ty #[a]))) v s' := by
  unfold eSliceData at hq
  split at hq
  · cases hq
    simp [VR] at hx
    subst hx
    exact Does.quiet h (Lib.run_unsafeSliceData_nil w ts ty 0 0) (by simp [VR])
  · rename_i e es sz r el
    cases hq
    simp only [VR] at hx
    rcases hx with ⟨hx, _⟩ | ⟨_, b, o, cap, rfl, hle, ⟨c, el2, fz, hh, hs⟩, hel, hr⟩
    · cases hx
    · obtain ⟨h1, h2, rfl, c3, fz3, h4⟩ := hr r el rfl
      rw [hh] at h4
      cases h4
      refine Does.quiet h (Lib.run_unsafeSliceData_row w ts ty ⟨b, 0, none⟩ _ cap (by simp at hle; omega)) ?_
      simp only [VR]
      refine ⟨b, rfl, hel, ⟨c, fz, hh, ?_⟩, h1, by simpa using h2⟩
      have := Nat.mul_le_mul_right sz hle
      omega
  · cases hq

theorem ofL2 {α : Type} {a : Array α} {x y : α} (h : a.toList = [x, y]) : a = #[x, y] := by cases a; simp at h; rw [h]

def okBytes (l : List Int) : Bool := l.all fun n => decide (0 ≤ n) && decide (n < 256)

def eUnsafeString (P : Program) (s : St) (ts : Array TypeId) (x y : AV) : Option (AV × St) :=
  match x, y with
  | .val (.pointer none), .val (.int .i64 0) => match ts.toList with
    | [_, _] => some (.val (.string .empty), s)
    | _ => none
  | .sd es sz r el, .val (.int .i64 n) => match ts.toList with
    | [pt, _] => match und P pt, inf P el, u8s es.flatten with
      | some (.pointer e), some i, some l =>
        if sz = 1 ∧ e = el ∧ i.size = 1 ∧ n = es.length ∧ es ≠ [] ∧ es.length < 1099511627776 ∧ s.live.contains r = true ∧ okBytes l = true then
          some (.val (.string (strOfNums l)), { s with live := s.live.erase r })
        else none
      | _, _, _ => none
    | _ => none
  | _, _ => none

theorem eUnsafeString_sound (h : WRel ng B w0 G w s) {ts : Array TypeId} {ty : TypeId} {x y v : AV} {a b : Value} {s' : St} (hx : VR G w x a) (hy : VR G w y b) (hq : eUnsafeString P s ts x y = some (v, s')) :
    Does P ng B w0 G w (do pure (.value (← Builtin.unsafeString_ ts ty #[a, b]))) v s' := by
  unfold eUnsafeString at hq
  split at hq
  · split at hq
    · rename_i pt it hts
      obtain rfl := ofL2 hts
      cases hq
      simp only [VR] at hx hy
      subst hx
      subst hy
      exact Does.quiet h (Lib.run_unsafeString_none w pt it ty none) (by simp [VR])
    · cases hq
  · rename_i es sz r el n
    split at hq
    · rename_i pt it hts
      obtain rfl := ofL2 hts
      split at hq
      · rename_i e i l hd hi hl
        split at hq
        · rename_i hc
          cases hq
          obtain ⟨rfl, rfl, hsz, rfl, hne, hlt, hlive, hok⟩ := hc
          simp only [VR] at hx hy
          subst hy
          obtain ⟨b, rfl, hel, ⟨c, fz, hh, hs⟩, hr, hτ⟩ := hx
          obtain ⟨hl1, hl2⟩ := u8s_sound es.flatten l hl
          have hlen : l.length = es.length := by rw [hl1, flat_length 1 es hel.lens, Nat.mul_one]
          have hrm : r ∈ s.live := by simpa using hlive
          obtain ⟨f1, f2⟩ := h.freeze hrm hτ es.length
          have hpos : 0 < es.length := List.length_pos_iff.2 hne
          have hcells : P.cellsOf e = 1 := by
            have := inf_sound hi
            simp [Program.cellsOf, this, hsz]
          let bs : List UInt8 := l.map fun n => UInt8.ofNat n.toNat
          have hbl : bs.length = es.length := by simp [bs, hlen]
          have hrun := Lib.run_unsafeString_row (P := P) w pt it ty e (und_sound hd) hcells b c.size (by simp [World.shape?, hh]) bs (fun hn => by rw [hn] at hbl; simp at hbl; omega) (by rw [hbl]; omega) (by rw [hbl]; omega)
            (fun j u hj => by
              have hjl : j < l.length := by
                have := (List.getElem?_eq_some_iff.1 hj).1
                simpa [bs] using this
              have hjf : j < es.flatten.length := by rw [← hl1]; exact hjl
              obtain ⟨_, z, hz, hv⟩ := hel.cells j es.flatten[j] (List.getElem?_eq_getElem hjf)
              rw [hl2 j _ (List.getElem?_eq_getElem hjf)] at hv
              simp only [VR] at hv
              rw [addr_add, hz, hv]
              have hu : u = UInt8.ofNat (l[j]).toNat := by
                simp only [bs, List.getElem?_map, List.getElem?_eq_getElem hjl, Option.map_some, Option.some.injEq] at hj
                exact hj.symm
              have hb := List.all_eq_true.1 hok l[j] (List.getElem_mem hjl)
              simp only [Bool.and_eq_true, decide_eq_true_eq] at hb
              have hd : l.getD j 0 = l[j] := by simp [List.getD_eq_getElem?_getD, List.getElem?_eq_getElem hjl]
              rw [hd, hu, UInt8.toNat_ofNat']
              congr 2
              have : (l[j]).toNat % 2 ^ 8 = (l[j]).toNat := Nat.mod_eq_of_lt (by omega)
              omega)
          rw [hbl] at hrun
          exact ⟨_, _, _, G, run_val hrun, .inl rfl, by simp only [VR]; rfl, f1, f2⟩
        · cases hq
      · cases hq
    · cases hq
  · cases hq

/-! ### a copy of nothing -/
def eCopy0 (P : Program) (s : St) (ts : Array TypeId) (x y : AV) : Option (AV × St) :=
  match ts[0]? with
  | some t0 => match und P t0 with
    | some (.slice e) => match inf P e with
      | some i => match x, srcEls s i.size y with
        | .sl _ _ _, some [] => some (.val (.int .i64 0), s)
        | _, _ => none
      | none => none
    | _ => none
  | none => none

theorem eCopy0_sound (h : WRel ng B w0 G w s) {ts : Array TypeId} {ty : TypeId} {x y v : AV} {a b : Value} {s' : St} (hx : VR G w x a) (hy : VR G w y b) (hq : eCopy0 P s ts x y = some (v, s')) :
    Does P ng B w0 G w (do pure (.value (← Builtin.copy_ ts ty #[a, b]))) v s' := by
  unfold eCopy0 at hq
  split at hq
  · rename_i t0 ht
    split at hq
    · rename_i e hd
      split at hq
      · rename_i i hi
        split at hq
        · rename_i es sz tk hels
          cases hq
          obtain ⟨_, hlen, ys, hys', hyv⟩ := srcEls_sound (P := P) h hy hels
          simp only [List.flatten_nil, VRL] at hyv
          have hys := hys' w rfl
          simp only [List.length_nil] at hlen hys
          have ha : ∃ base n cap, a = .slice base n cap := by
            simp only [VR] at hx
            rcases hx with ⟨_, rfl, _⟩ | ⟨_, bk, o, cap, rfl, _⟩ <;> exact ⟨_, _, _, rfl⟩
          obtain ⟨base, n, cap, rfl⟩ := ha
          have hst : ∀ ad : Addr, (storeCells ad []).run P w = .ok () w := fun ad => rfl
          refine Does.quiet h (y := .int .i64 0) ?_ (by simp [VR])
          cases base with
          | none => simp [Builtin.copy_, ht, r_und hd, hlen, r_size hi, hys, hyv, goInt]
          | some ad => simp [Builtin.copy_, ht, r_und hd, hlen, r_size hi, hys, hyv, hst, goInt]
        · cases hq
      · cases hq
    · cases hq
  · cases hq

/-! ### functions without a body that act -/
def eMakeNoZero (P : Program) (rs : Array TypeId) (s : St) (args : List AV) : Option (AV × St) :=
  match rs[0]?, args with
  | some t, [.val (.int .i64 (.ofNat n))] => match und P t with
    | some (.slice e) => if rs.size = 1 ∧ n ≤ 1099511627776 then some (.raw n 1 s.tok e, s.row) else none
    | _ => none
  | _, _ => none

theorem eMakeNoZero_sound (h : WRel ng B w0 G w s) {ps rs : Array TypeId} {args : List AV} {xs : Array Value} {v : AV} {s' : St} (hx : VRL G w args xs.toList) (hq : eMakeNoZero P rs s args = some (v, s')) :
    ∃ y w' G', (Extern.BytealgMakeNoZero.makeNoZero ps rs xs).run P w = .ok y w' ∧ VR G' w' v y ∧ Ext G w G' w' ∧ WRel ng B w0 G' w' s' := by
  unfold eMakeNoZero at hq
  split at hq
  · rename_i t n ht
    split at hq
    · rename_i e hd
      split at hq
      · rename_i hc
        cases hq
        obtain ⟨hrs, hn⟩ := hc
        have hrs' : rs = #[t] := by
          cases rs with
          | mk l =>
            cases l with
            | nil => simp at hrs
            | cons a l =>
              cases l with
              | nil => simp at ht; rw [ht]
              | cons _ _ => simp at hrs
        subst hrs'
        simp only [VRL, VR] at hx
        obtain ⟨y, r, hxs, rfl, rfl⟩ := hx
        have hxs' : xs = #[.int .i64 (Int.ofNat n)] := by cases xs; simp at hxs; rw [hxs]; rfl
        subst hxs'
        obtain ⟨cs, hrun, hle, _⟩ := Lib.run_makeNoZero (P := P) w ps t e (und_sound hd) n (by omega)
        have hdr : WRel ng B w0 G w.drew.drew s := (h.draw (w.drawn + 1)).draw (w.drew.drawn + 1)
        have hex : Ext G w G w.drew.drew := Ext.heap rfl
        obtain ⟨m1, m2, m3⟩ := hdr.row cs e (0, 0) [] 1 [] cs.toList rfl (fun d hd => by simp at hd) (by simp [VRL]) (fun j _ _ hh => absurd hh.2 (Nat.not_lt_zero _)) cs.size (by simp) (by simp)
        refine ⟨_, _, _, hrun, ?_, hex.trans m1, m2⟩
        simp only [VR] at m3 ⊢
        rcases m3 with ⟨_, m3, _⟩ | ⟨_, b, o, cap, he, _, ⟨c, el, fz, hh, hs⟩, _, hr⟩
        · cases m3
        · cases he
          obtain ⟨g1, g2, _, c3, fz3, g4⟩ := hr s.tok e rfl
          rw [hh] at g4
          cases g4
          exact ⟨_, cs.size, rfl, hle, ⟨c, fz, hh, by simpa using hs⟩, g1, by simpa using g2⟩
      · cases hq
    · cases hq
  · cases hq

end
end
end Go.AVM

namespace Go.AVM
open Go.RowKit
noncomputable section

section
variable {P : Program} {ng B : Nat} {w0 w : World} {G : Ctx} {s : St}

/-! ### a literal's row that nobody appends to: nothing turns but the heap's end -/
def Ctx.rowF (G : Ctx) (w : World) (n : Nat) : Ctx := { G with I := fun b o => G.I b o ∨ (b = w.heap.size ∧ o < n) }

theorem WRel.rowFree (h : WRel ng B w0 G w s) (xs : Array Value) (el : TypeId)
    (es : List (List AV)) (sz : Nat) (hl : ∀ e, e ∈ es → e.length = sz) (hv : VRL G w es.flatten xs.toList) :
    Ext G w (G.rowF w xs.size) (w.alloc (.cells xs el (0, 0))) ∧ WRel ng B w0 (G.rowF w xs.size) (w.alloc (.cells xs el (0, 0))) s ∧
      VR (G.rowF w xs.size) (w.alloc (.cells xs el (0, 0))) (.sl es sz .no) (.slice (some ⟨w.heap.size, 0, none⟩) es.length es.length) := by
  have e : Ext G w (G.rowF w xs.size) (w.alloc (.cells xs el (0, 0))) :=
    Ext.alloc h _ (Nat.le_refl _) (Nat.le_refl _) (fun _ _ => rfl) (fun r hr => rfl) (fun _ _ h => .inl h)
  have hflat : es.flatten.length = es.length * sz := flat_length sz es hl
  have hyl : xs.size = es.length * sz := by rw [← hflat, ← Array.length_toList]; exact hv.length.symm
  refine ⟨e, ?_, ?_⟩
  · constructor
    · exact h.below.alloc h.base _
    · have := h.base; simp; omega
    · exact h.n
    · exact h.m
    · exact h.len
    · exact h.ngle
    · exact h.ngB
    · exact h.glob
    · intro b hb
      obtain ⟨y, h4, h5⟩ := h.obj b hb
      exact ⟨y, by rw [show (G.rowF w xs.size).ρ b = G.ρ b from rfl, heap_alloc_lt w _ (lt_of_heap h4)]; exact h4, OR.ext e _ _ h5⟩
    · intro b hb hd
      obtain ⟨h1, h2⟩ := h.own b hb hd
      obtain ⟨o, h3, _⟩ := h.obj b hd
      have := lt_of_heap h3
      exact ⟨h1, fun off hi => by
        rcases hi with hi | ⟨hi, _⟩
        · exact h2 off hi
        · have : G.ρ b = w.heap.size := hi
          omega⟩
    · exact h.inj
    · intro r hr
      obtain ⟨h1, h2, h3, ⟨c, el', fz', h4, h5⟩, h6⟩ := h.live r hr
      refine ⟨h1, h2, fun j hj hi => ?_, ⟨c, el', fz', by rw [show (G.rowF w xs.size).τ r = G.τ r from rfl, heap_alloc_lt w _ (lt_of_heap h4)]; exact h4, h5⟩, fun b hb hd => h6 b hb hd⟩
      rcases hi with hi | ⟨hi, _⟩
      · exact h3 j hj hi
      · have := lt_of_heap h4
        have : (G.τ r).1 = w.heap.size := hi
        omega
    · exact h.apart
    · intro b o hi
      rcases hi with hi | ⟨hi, _⟩
      · have := h.ib b o hi; simp; omega
      · have : b = w.heap.size := hi
        simp; omega
    · exact h.wm
    · exact h.gwm
    · exact DoneR.ext e _ h.done
  · simp only [VR]
    refine .inr ⟨by simp, w.heap.size, 0, es.length, rfl, Nat.le_refl _, ⟨xs, el, (0, 0), heap_alloc_eq w _, by omega⟩, ?_, fun r el' hr => by cases hr⟩
    refine ElR_of_flat hl fun j c hc => ?_
    obtain ⟨x, hx, hvx⟩ := hv.get hc
    have hj : j < xs.size := by rw [← Array.length_toList]; exact (List.getElem?_eq_some_iff.1 hx).1
    refine ⟨.inr ⟨rfl, by omega⟩, x, ?_, VR.ext e _ _ hvx⟩
    have hcell : (w.alloc (.cells xs el (0, 0))).cell? ⟨w.heap.size, 0 + j, none⟩ = xs[0 + j]? := by
      simp only [World.cell?]
      rw [heap_alloc_eq]
      simp
    rw [hcell, Nat.zero_add, ← Array.getElem?_toList]
    exact hx

def eFreeSlice (P : Program) (t : TypeId) (len : Nat) (parts : List (Nat × AV)) : Option AV :=
  match und P t with
  | some (.slice e) => match inf P e, zeroA P e with
    | some i, some z => match cellsOf z with
      | some zc => if zc.length ≠ i.size ∨ len * i.size > 2 ^ 24 then none else
        match rowsA i.size len zc parts with
        | some rows => some (.sl rows i.size .no)
        | none => none
      | none => none
    | _, _ => none
  | _ => none

theorem eFreeSlice_sound (h : WRel ng B w0 G w s) {t : TypeId} {len : Nat} {parts : List (Nat × AV)} {xs : Array (Nat × Value)} (hp : PartsR G w parts xs.toList) {v : AV}
    (hq : eFreeSlice P t len parts = some v) : Does P ng B w0 G w (do pure (.value (← Instr.buildSlice t len xs))) v s := by
  unfold eFreeSlice at hq
  split at hq
  · rename_i e hd
    split at hq
    · rename_i i z hi hz
      split at hq
      · rename_i zc hzc
        split at hq
        · cases hq
        · rename_i hc
          simp only [not_or, ne_eq, Decidable.not_not, Nat.not_lt] at hc
          obtain ⟨hc1, hc2⟩ := hc
          split at hq
          · rename_i rows hrows
            cases hq
            obtain ⟨cs, hcs, rfl⟩ := rowsA_fill hc1 hrows
            obtain ⟨zv, z1, z2⟩ := zeroA_sound (P := P) (G := G) (w := w) hz
            have hzz := cellsOf_sound z2 hzc
            have hzsz : zv.cells.size = i.size := by rw [← Array.length_toList, ← hc1]; exact hzz.length.symm
            have hrow : ∃ zr : Array Value, ((len * i.size = 0 ∧ zr = #[]) ∨ (¬ len * i.size = 0 ∧ zr = zv.cells)) ∧
                VRL G w (List.replicate len zc).flatten ((Array.range (len * i.size)).map (zr[· % zr.size]!)).toList := by
              by_cases h0 : len * i.size = 0
              · refine ⟨#[], .inl ⟨h0, rfl⟩, ?_⟩
                have : (List.replicate len zc).flatten = [] := List.eq_nil_of_length_eq_zero (by rw [rep_length, hc1]; exact h0)
                rw [this, h0]
                simp [VRL]
              · refine ⟨zv.cells, .inr ⟨h0, rfl⟩, ?_⟩
                have := zeros_VRL hzz len (.inr (by rw [hzsz]; exact Nat.pos_of_ne_zero fun hh => h0 (by rw [hh, Nat.mul_zero])))
                rw [← hzsz]
                exact this
            obtain ⟨zr, hzr1, hzr2⟩ := hrow
            obtain ⟨r', g1, g2⟩ := fillA_sound parts xs.toList _ _ cs hp hzr2 hcs
            have hrun : (Instr.buildSlice t len xs).run P w = .ok (.slice (some ⟨w.heap.size, 0, none⟩) len len) (w.alloc (.cells r' e)) := by
              simp only [Instr.buildSlice, Sem.run_bind, r_und hd, r_size hi, Result.andThen_ok]
              rw [if_neg (by omega)]
              rcases hzr1 with ⟨h0, rfl⟩ | ⟨h0, rfl⟩
              · rw [if_pos h0]
                simp only [Sem.run_bind, Sem.run_pure, Result.andThen_ok]
                rw [g1]
                simp [newRow]
              · rw [if_neg h0]
                simp only [Sem.run_bind, Sem.run_pure, Result.andThen_ok, z1]
                rw [g1]
                simp [newRow]
            have hcl : cs.length = len * i.size := by rw [fillA_length _ _ _ hcs, rep_length, hc1]
            obtain ⟨k1, k2, k3⟩ := chunk_spec i.size len cs hcl
            obtain ⟨m1, m2, m3⟩ := h.rowFree r' e (chunk len i.size cs) i.size k3 (by rw [k1]; exact g2)
            rw [k2] at m3
            exact ⟨.value _, _, _, _, by simp only [Sem.run_bind, hrun, Result.andThen_ok, Sem.run_pure], .inl rfl, m3, m1, m2⟩
          · cases hq
      · cases hq
    · cases hq
  · cases hq

end
end
end Go.AVM

namespace Go.AVM
open Go.RowKit
noncomputable section

/-! ### the operations, all of them -/
def M.opt {α : Type} : Option α → M α
  | some a => .ret a
  | none => .fail

def M.bind {α β : Type} : M α → (α → M β) → M β
  | .fail, _ => .fail
  | .stop o vs, _ => .stop o vs
  | .ret a, f => f a
  | .pick n k, f => .pick n fun i => (k i).bind f

theorem M.all_bind {α β : Type} (f : α → M β) (R : β → Prop) : ∀ m : M α, (m.bind f).all R → m.all fun a => (f a).all R
  | .fail, h => h
  | .stop _ _, h => h
  | .ret a, h => h
  | .pick n k, h => fun i hi => M.all_bind f R (k i) (h i hi)

/-- Where it stopped. -/
def M.tell {α : Type} (o : Oper) (vs : List AV) : M α → M α
  | .fail => .stop o vs
  | m => m

theorem M.all_tell {α : Type} {o : Oper} {vs : List AV} {R : α → Prop} {m : M α} (h : (m.tell o vs).all R) : m.all R := by
  cases m <;> first | exact h | exact h.elim

/-- What the machine is: the program, how many package-level variables, the functions without a body, which rows are written later. -/
structure Mach where
  P : Program
  ng : Nat
  ext : FuncId → List AV → Option AV
  extE : FuncId → List AV → St → Option (AV × St)
  mu : FuncId → Tmp → Bool
  keep : FuncId → Nat → Option (List Tmp)
  pops : FuncId → Bool
  fuel : Nat
  frc : Bool
  σ : Nat → Value
  st : Nat → World → Prop
  ora : Oper → List AV → Option AV

def eop (T : Mach) (mu : Bool) (s : St) (o : Oper) (e : Operand → AV) : M (AV × St) :=
  match o.op with
  | .alloc el => .opt (eAlloc T.P s el)
  | .box el x => .opt (eBox s el (e x))
  | .store t a x => .opt (match eStore T.P T.ng s t (e a) (e x) with
    | some r => some r
    | none => match eStoreP T.P s t (e a) (e x) with
      | some r => some r
      | none => eStoreR T.P T.ng s t (e a) (e x))
  | .makeMap t r => .opt (eMakeMap s (r.map e))
  | .makeSlice t l c => .opt (eMakeSlice T.P s t (e l) (e c))
  | .mapUpdate t m k x => .opt (eMapUpdate T.P T.ng s t (e m) (e k) (e x))
  | .insert t m k x => .opt (eMapUpdate T.P T.ng s t (e m) (e k) (e x))
  | .mapEntry t m k => .opt (eMapEntry T.P T.ng s t (e m) (e k))
  | .entryStore t m st x => .opt (eEntryStore T.P T.ng s (e m) (e st) (e x))
  | .buildSlice t len parts => .opt (eBuildSlice T.P s mu t len (parts.toList.map fun p => (p.1, e p.2)))
  | .convert src dst x => .opt (eStrBytes T.P s src dst (e x))
  | .range t x => .opt (eRange T.P s t (e x))
  | .next it b => mNext T.ng s (e it) b
  | .call c => match c.callee with
    | .builtin .append => match c.args.toList.map e with
      | [x, y] => .opt (match (match mu with
        | true => match eAppendP T.P s c.argTypes x y with
          | some r => some r
          | none => eAppendM T.P T.ng s c.argTypes x y
        | false => none : Option (AV × St)) with
        | some r => some r
        | none => eAppend T.P T.ng s c.argTypes x y)
      | _ => .fail
    | .builtin .copy => match c.args.toList.map e with
      | [x, y] => .opt (match eCopy T.P T.ng s c.argTypes x y with
        | some r => some r
        | none => eCopy0 T.P s c.argTypes x y)
      | _ => .fail
    | .builtin .unsafeSliceData => match c.args.toList.map e with
      | [x] => .opt (eSliceData s x)
      | _ => .fail
    | .builtin .unsafeString => match c.args.toList.map e with
      | [x, y] => .opt (eUnsafeString T.P s c.argTypes x y)
      | _ => .fail
    | _ => .fail
  | _ => .fail

section
variable {T : Mach} {B : Nat} {w0 w : World} {G : Ctx} {s : St}

theorem opt_all {α : Type} {x : Option α} {R : α → Prop} (h : (M.opt x).all R) : ∃ a, x = some a ∧ R a := by
  cases x with
  | none => exact h.elim
  | some a => exact ⟨a, rfl, h⟩

theorem eop_sound (h : WRel T.ng B w0 G w s) {mu : Bool} {o : Oper} {e : Operand → AV} {e' : Operand → Value} (he : ∀ x, x ∈ o.op.operands → VR G w (e x) (e' x)) {R : AV × St → Prop}
    (hq : (eop T mu s o e).all R) : ∃ v s', R (v, s') ∧ Does T.P T.ng B w0 G w (execOp e' o) v s' := by
  unfold eop at hq
  split at hq
  · rename_i el ho
    obtain ⟨⟨v, s'⟩, h1, h2⟩ := opt_all hq
    exact ⟨v, s', h2, by simpa only [execOp, ho] using eAlloc_sound (P := T.P) h h1⟩
  · rename_i el x ho
    rw [ho] at he
    obtain ⟨⟨v, s'⟩, h1, h2⟩ := opt_all hq
    exact ⟨v, s', h2, by simpa only [execOp, ho] using eBox_sound (P := T.P) h (he x (by simp [Op.operands])) h1⟩
  · rename_i t a x ho
    rw [ho] at he
    obtain ⟨⟨v, s'⟩, h1, h2⟩ := opt_all hq
    split at h1
    · rename_i r hr
      cases h1
      exact ⟨v, s', h2, by simpa only [execOp, ho] using eStore_sound (P := T.P) h (he a (by simp [Op.operands])) (he x (by simp [Op.operands])) hr⟩
    · split at h1
      · rename_i r hr
        cases h1
        exact ⟨v, s', h2, by simpa only [execOp, ho] using eStoreP_sound (P := T.P) h (he a (by simp [Op.operands])) (he x (by simp [Op.operands])) hr⟩
      · exact ⟨v, s', h2, by simpa only [execOp, ho] using eStoreR_sound (P := T.P) h (he a (by simp [Op.operands])) (he x (by simp [Op.operands])) h1⟩
  · rename_i t r ho
    rw [ho] at he
    obtain ⟨⟨v, s'⟩, h1, h2⟩ := opt_all hq
    exact ⟨v, s', h2, by simpa only [execOp, ho] using eMakeMap_sound (P := T.P) h (OptR_map r fun y hy => he y (by subst hy; simp [Op.operands])) h1⟩
  · rename_i t l c ho
    rw [ho] at he
    obtain ⟨⟨v, s'⟩, h1, h2⟩ := opt_all hq
    exact ⟨v, s', h2, by simpa only [execOp, ho] using eMakeSlice_sound (P := T.P) h (he l (by simp [Op.operands])) (he c (by simp [Op.operands])) h1⟩
  · rename_i t m k x ho
    rw [ho] at he
    obtain ⟨⟨v, s'⟩, h1, h2⟩ := opt_all hq
    exact ⟨v, s', h2, by simpa only [execOp, ho] using eMapUpdate_sound (P := T.P) h (he m (by simp [Op.operands])) (he k (by simp [Op.operands])) (he x (by simp [Op.operands])) h1⟩
  · rename_i t m k x ho
    rw [ho] at he
    obtain ⟨⟨v, s'⟩, h1, h2⟩ := opt_all hq
    exact ⟨v, s', h2, by simpa only [execOp, ho] using eMapUpdate_sound (P := T.P) h (he m (by simp [Op.operands])) (he k (by simp [Op.operands])) (he x (by simp [Op.operands])) h1⟩
  · rename_i t m k ho
    rw [ho] at he
    obtain ⟨⟨v, s'⟩, h1, h2⟩ := opt_all hq
    exact ⟨v, s', h2, by simpa only [execOp, ho] using eMapEntry_sound (P := T.P) h (he m (by simp [Op.operands])) (he k (by simp [Op.operands])) h1⟩
  · rename_i t m st x ho
    rw [ho] at he
    obtain ⟨⟨v, s'⟩, h1, h2⟩ := opt_all hq
    exact ⟨v, s', h2, by simpa only [execOp, ho] using eEntryStore_sound (P := T.P) h (he m (by simp [Op.operands])) (he st (by simp [Op.operands])) (he x (by simp [Op.operands])) h1⟩
  · rename_i t len parts ho
    rw [ho] at he
    obtain ⟨⟨v, s'⟩, h1, h2⟩ := opt_all hq
    exact ⟨v, s', h2, by simpa only [execOp, ho] using eBuildSlice_sound (P := T.P) h (xs := parts.map fun p => (p.1, e' p.2)) (by rw [Array.toList_map]; exact PartsR_map _ fun x hx => he x (by simpa [Op.operands] using hx)) h1⟩
  · rename_i src dst x ho
    rw [ho] at he
    obtain ⟨⟨v, s'⟩, h1, h2⟩ := opt_all hq
    exact ⟨v, s', h2, by simpa only [execOp, ho] using eStrBytes_sound (P := T.P) h (he x (by simp [Op.operands])) h1⟩
  · rename_i t x ho
    rw [ho] at he
    obtain ⟨⟨v, s'⟩, h1, h2⟩ := opt_all hq
    exact ⟨v, s', h2, by simpa only [execOp, ho] using eRange_sound (P := T.P) h (he x (by simp [Op.operands])) h1⟩
  · rename_i it b ho
    rw [ho] at he
    obtain ⟨v, s', h1, h2⟩ := mNext_sound (P := T.P) (ty := o.type) h (he it (by simp [Op.operands])) hq
    exact ⟨v, s', h1, by simpa only [execOp, ho] using h2⟩
  · rename_i c ho
    rw [ho] at he
    split at hq
    · rename_i hb
      split at hq
      · rename_i x y hxy
        obtain ⟨⟨v, s'⟩, h1, h2⟩ := opt_all hq
        obtain ⟨ox, oy, hargs, rfl, rfl⟩ : ∃ ox oy, c.args.toList = [ox, oy] ∧ e ox = x ∧ e oy = y := by
          cases hl : c.args.toList with
          | nil => rw [hl] at hxy; cases hxy
          | cons a l =>
            cases l with
            | nil => rw [hl] at hxy; cases hxy
            | cons b l =>
              cases l with
              | nil => rw [hl] at hxy; simp at hxy; exact ⟨a, b, rfl, hxy.1, hxy.2⟩
              | cons _ _ => rw [hl] at hxy; simp at hxy
        have ha : c.args = #[ox, oy] := by cases hc : c.args; rw [hc] at hargs; simp at hargs; rw [hargs]
        refine ⟨v, s', h2, ?_⟩
        have hD : Does T.P T.ng B w0 G w (do pure (.value (← Builtin.append_ c.argTypes o.type #[e' ox, e' oy]))) v s' := by
          split at h1
          · rename_i r hr
            cases h1
            split at hr
            · split at hr
              · rename_i q hq2
                cases hr
                exact eAppendP_sound (P := T.P) (ty := o.type) h (he ox (by simp [Op.operands, Call.operands, hb, ha])) (he oy (by simp [Op.operands, Call.operands, hb, ha])) hq2
              · exact eAppendM_sound (P := T.P) (ty := o.type) h (he ox (by simp [Op.operands, Call.operands, hb, ha])) (he oy (by simp [Op.operands, Call.operands, hb, ha])) hr
            · cases hr
          · exact eAppend_sound (P := T.P) (ty := o.type) h (he ox (by simp [Op.operands, Call.operands, hb, ha])) (he oy (by simp [Op.operands, Call.operands, hb, ha])) h1
        simpa [execOp, ho, resolve, hb, ha, invoke, builtin] using hD
      · exact hq.elim
    · rename_i hb
      split at hq
      · rename_i x y hxy
        obtain ⟨⟨v, s'⟩, h1, h2⟩ := opt_all hq
        obtain ⟨ox, oy, hargs, rfl, rfl⟩ : ∃ ox oy, c.args.toList = [ox, oy] ∧ e ox = x ∧ e oy = y := by
          cases hl : c.args.toList with
          | nil => rw [hl] at hxy; cases hxy
          | cons a l =>
            cases l with
            | nil => rw [hl] at hxy; cases hxy
            | cons b l =>
              cases l with
              | nil => rw [hl] at hxy; simp at hxy; exact ⟨a, b, rfl, hxy.1, hxy.2⟩
              | cons _ _ => rw [hl] at hxy; simp at hxy
        have ha : c.args = #[ox, oy] := by cases hc : c.args; rw [hc] at hargs; simp at hargs; rw [hargs]
        refine ⟨v, s', h2, ?_⟩
        have hD : Does T.P T.ng B w0 G w (do pure (.value (← Builtin.copy_ c.argTypes o.type #[e' ox, e' oy]))) v s' := by
          split at h1
          · rename_i r hr
            cases h1
            exact eCopy_sound (P := T.P) (ty := o.type) h (he ox (by simp [Op.operands, Call.operands, hb, ha])) (he oy (by simp [Op.operands, Call.operands, hb, ha])) hr
          · exact eCopy0_sound (P := T.P) (ty := o.type) h (he ox (by simp [Op.operands, Call.operands, hb, ha])) (he oy (by simp [Op.operands, Call.operands, hb, ha])) h1
        simpa [execOp, ho, resolve, hb, ha, invoke, builtin] using hD
      · exact hq.elim
    · rename_i hb
      split at hq
      · rename_i x hxy
        obtain ⟨⟨v, s'⟩, h1, h2⟩ := opt_all hq
        obtain ⟨ox, hargs, rfl⟩ : ∃ ox, c.args.toList = [ox] ∧ e ox = x := by
          cases hl : c.args.toList with
          | nil => rw [hl] at hxy; cases hxy
          | cons a l =>
            cases l with
            | nil => rw [hl] at hxy; simp at hxy; exact ⟨a, rfl, hxy⟩
            | cons _ _ => rw [hl] at hxy; simp at hxy
        have ha : c.args = #[ox] := by cases hc : c.args; rw [hc] at hargs; simp at hargs; rw [hargs]
        refine ⟨v, s', h2, ?_⟩
        have := eSliceData_sound (P := T.P) (ts := c.argTypes) (ty := o.type) h (he ox (by simp [Op.operands, Call.operands, hb, ha])) h1
        simpa [execOp, ho, resolve, hb, ha, invoke, builtin] using this
      · exact hq.elim
    · rename_i hb
      split at hq
      · rename_i x y hxy
        obtain ⟨⟨v, s'⟩, h1, h2⟩ := opt_all hq
        obtain ⟨ox, oy, hargs, rfl, rfl⟩ : ∃ ox oy, c.args.toList = [ox, oy] ∧ e ox = x ∧ e oy = y := by
          cases hl : c.args.toList with
          | nil => rw [hl] at hxy; cases hxy
          | cons a l =>
            cases l with
            | nil => rw [hl] at hxy; cases hxy
            | cons b l =>
              cases l with
              | nil => rw [hl] at hxy; simp at hxy; exact ⟨a, b, rfl, hxy.1, hxy.2⟩
              | cons _ _ => rw [hl] at hxy; simp at hxy
        have ha : c.args = #[ox, oy] := by cases hc : c.args; rw [hc] at hargs; simp at hargs; rw [hargs]
        refine ⟨v, s', h2, ?_⟩
        have := eUnsafeString_sound (P := T.P) (ty := o.type) h (he ox (by simp [Op.operands, Call.operands, hb, ha])) (he oy (by simp [Op.operands, Call.operands, hb, ha])) h1
        simpa [execOp, ho, resolve, hb, ha, invoke, builtin] using this
      · exact hq.elim
    · exact hq.elim
  · exact hq.elim

end
end
end Go.AVM

namespace Go.AVM
open Go.RowKit
noncomputable section

/-! ### frames -/
abbrev Env := List (Nat × AV)

def getA (α : Env) (u : Nat) : AV := α.rec .any fun p _ ih => match Nat.beq p.1 u with
  | true => p.2
  | false => ih
theorem getA_nil (u : Nat) : getA [] u = .any := rfl
theorem getA_cons (t : Nat) (v : AV) (r : Env) (u : Nat) : getA ((t, v) :: r) u = match Nat.beq t u with
    | true => v
    | false => getA r u := rfl

def ev (ng : Nat) (α : Env) : Operand → AV
  | .tmp t => getA α t
  | .const v => match fromV v with
    | some x => x
    | none => .any
  | .global g => match Nat.ble (g + 1) ng with
    | true => .ptr g 0
    | false => .any
  | .func f => .fn (.func f) [] []

/-- A frame's temporaries. -/
structure EnvR (G : Ctx) (w : World) (nt : Nat) (α : Env) (a : Act) : Prop where
  size : a.tmps.size = nt
  defers : a.defers = []
  get : ∀ t, VR G w (getA α t) (a.tmps.getD t undef)

theorem EnvR.ext {G G' : Ctx} {w w' : World} {nt : Nat} {α : Env} {a : Act} (h : EnvR G w nt α a) (e : Ext G w G' w') : EnvR G' w' nt α a :=
  ⟨h.size, h.defers, fun t => VR.ext e _ _ (h.get t)⟩

theorem EnvR.put {G : Ctx} {w : World} {nt : Nat} {α : Env} {a : Act} (h : EnvR G w nt α a) {d : Nat} (hd : d < nt) {v : AV} {x : Value} (hv : VR G w v x) : EnvR G w nt ((d, v) :: α) (a.put (some d) x) := by
  refine ⟨by simp [Act.put, h.size], by simp [Act.put, h.defers], fun t => ?_⟩
  simp only [getA_cons, Act.put]
  by_cases ht : d = t
  · subst ht
    rw [show Nat.beq d d = true from Nat.beq_refl d]
    simp only [Array.getD_eq_getD_getElem?, Array.getElem?_setIfInBounds_self_of_lt (show d < a.tmps.size by rw [h.size]; exact hd), Option.getD_some]
    exact hv
  · rw [show Nat.beq d t = false from by cases hb : Nat.beq d t with | true => exact absurd (Nat.eq_of_beq_eq_true hb) ht | false => rfl]
    simp only [Array.getD_eq_getD_getElem?, Array.getElem?_setIfInBounds_ne ht]
    have := h.get t
    simpa only [Array.getD_eq_getD_getElem?] using this

theorem EnvR.trim {G : Ctx} {w : World} {nt : Nat} {α : Env} {a : Act} (h : EnvR G w nt α a) (l : List Tmp) : EnvR G w nt (l.map fun t => (t, getA α t)) a := by
  refine ⟨h.size, h.defers, fun t => ?_⟩
  induction l with
  | nil => simp [getA_nil, VR]
  | cons u l ih =>
    simp only [List.map_cons, getA_cons]
    split
    · rename_i hb
      have := Nat.eq_of_beq_eq_true hb
      subst this
      exact h.get u
    · exact ih

theorem ev_VR {ng B : Nat} {w0 w : World} {G : Ctx} {s : St} (hw : WRel ng B w0 G w s) {α : Env} {a : Act} {o : Operand} (h : ∀ t, o = .tmp t → VR G w (getA α t) (a.tmps.getD t undef)) : VR G w (ev ng α o) (a.eval o) := by
  cases o with
  | tmp t => exact h t rfl
  | const v =>
    simp only [ev, Act.eval]
    split
    · rename_i x hx; exact fromV_VR v x hx
    · simp [VR]
  | global g =>
    simp only [ev, Act.eval]
    split
    · rename_i hb
      have hlt : g < ng := Nat.le_of_ble_eq_true hb
      simp only [VR]
      exact ⟨Nat.lt_of_lt_of_le hlt hw.ngle, by rw [hw.glob g hlt]⟩
    · simp [VR]
  | func f =>
    simp only [ev, Act.eval, VR, VRL]
    exact ⟨_, _, _, rfl, rfl, rfl, rfl⟩

/-! ### one operation -/
abbrev Ans := M (AV × St)
abbrev Oracle := FuncId → List AV → St → (AV → St → Ans) → Ans

/-- A value worked out before it is handed on. -/
def forceV (b deep : Bool) (v : AV) (k : AV → Ans) : Ans :=
  match b with
  | false => k v
  | true => fAV deep v k
/-- 0: it is there already; 1: this value; else its rows, too. -/
inductive Fm where
  | light
  | this
  | rows
def forceM (b : Bool) (m : Fm) (v : AV) (k : AV → Ans) : Ans :=
  match b with
  | false => k v
  | true => match m with
    | .light => fLight v k
    | .this => fAV false v k
    | .rows => fAV true v k
theorem forceM_eq (b : Bool) (m : Fm) (v : AV) (k : AV → Ans) : forceM b m v k = k v := by
  cases b with
  | false => rfl
  | true => cases m <;> simp only [forceM, fLight_eq, fAV_eq]
def modeOf : Op → Fm
  | .slice .. => .rows
  | .move _ => .light
  | .assign _ => .light
  | .load .. => .light
  | .field .. => .light
  | .extract .. => .light
  | .build .. => .light
  | _ => .this
/-- A state worked out. -/
def fSt (s : St) (k : St → Ans) : Ans :=
  match s with
  | ⟨h, n, t, l, w, d⟩ => fNat n fun n => fNat t fun t => fNat w fun w => k ⟨h, n, t, l, w, d⟩
theorem fSt_eq (s : St) (k : St → Ans) : fSt s k = k s := by
  obtain ⟨h, n, t, l, w, d⟩ := s
  simp only [fSt, fNat_eq]

theorem forceV_eq (b deep : Bool) (v : AV) (k : AV → Ans) : forceV b deep v k = k v := by
  cases b with
  | false => rfl
  | true => exact fAV_eq deep v k

def isSlice : Op → Bool
  | .slice .. => true
  | _ => false

def callee (o : Oper) (e : Operand → AV) : Option (FuncId × List AV) :=
  match o.op with
  | .call c => match c.callee with
    | .value f => match e f with
      | .fn (.func g) first captured => some (g, (first ++ c.args.toList.map e) ++ captured)
      | _ => none
    | _ => none
  | _ => none

def stepOp0 (T : Mach) (C : Oracle) (mu : Bool) (s : St) (o : Oper) (e : Operand → AV) (k : AV → St → Ans) : Ans :=
  match T.ora o (o.op.operands.toList.map e) with
  | some v => k v s
  | none => match qop T.P s o e with
    | some v => forceV T.frc (isSlice o.op) v fun v => k v s
    | none => match callee o e with
      | some (g, args) => match T.ext g args with
        | some v => forceV T.frc false v fun v => k v s
        | none => match T.extE g args s with
          | some r => forceV T.frc false r.1 fun v => k v r.2
          | none => C g args s k
      | none => ((eop T mu s o e).tell o (o.op.operands.toList.map e)).bind fun r => forceV T.frc true r.1 fun v => k v r.2

/-! ### the same, the operation taken apart once -/
inductive SF where
  | mk (q : Option (St → (Operand → AV) → Option AV)) (c : Option (Operand × List Operand)) (m : Option (St → (Operand → AV) → M (AV × St))) (deep : Fm)

def qopC (P : Program) (o : Oper) : Option (St → (Operand → AV) → Option AV) :=
  match o.op with
  | .move x => some fun _ e => some (e x)
  | .assign x => some fun _ e => some (e x)
  | .pick c a b => some fun _ e => match e c with
    | .val (.bool t) => some (if t = true then e a else e b)
    | _ => none
  | .load t a => some fun s e => qLoad P s t (e a)
  | .nilCheck x => some fun _ e => qNil (e x)
  | .binOp op t x y _ => some fun _ e => qBin P op t x y (e x) (e y)
  | .unOp op _ x => some fun _ e => qFlat1 P (Op.unary op) (e x)
  | .convert src dst x => some fun s e => qConv P s src dst (e x)
  | .makeInterface t x => some fun _ e => qMkI P t (e x)
  | .makeFunc f a b => some fun _ e => if Fn.closed f = true then some (.fn f (a.toList.map e) (b.toList.map e)) else none
  | .slice t x lo hi mx => some fun _ e => qSlice P t (e x) (lo.map e) (hi.map e) (mx.map e)
  | .fieldAddr t x f => some fun _ e => qFieldAddr P t (e x) f
  | .field t x f => some fun _ e => qField P t (e x) f
  | .indexAddr t x i => some fun _ e => qIndexAddr P t (e x) (e i)
  | .index t x i => some fun _ e => qIndex P t (e x) (e i)
  | .lookup t x k ok => some fun s e => qLookup P s t (e x) (e k) ok
  | .extract x i => some fun _ e => match e x with
    | .tup cs => rnth cs i
    | _ => none
  | .build t parts => some fun _ e => qBuild P t (parts.toList.map fun p => (p.1, e p.2))
  | .call c => match c.callee with
    | .builtin b => some fun s e => qBuiltin P s b c.argTypes o.type (c.args.toList.map e)
    | _ => none
  | _ => none

theorem qopC_eq (P : Program) (s : St) (o : Oper) (e : Operand → AV) : qop P s o e = match qopC P o with
    | some q => q s e
    | none => none := by
  unfold qop qopC
  cases o.op <;> first
    | rfl
    | (rename_i c; cases hc : c.callee <;> simp only [hc])

def calleeC (o : Oper) : Option (Operand × List Operand) :=
  match o.op with
  | .call c => match c.callee with
    | .value f => some (f, c.args.toList)
    | _ => none
  | _ => none

theorem calleeC_eq (o : Oper) (e : Operand → AV) : callee o e = match calleeC o with
    | some (f, as) => match e f with
      | .fn (.func g) first captured => some (g, (first ++ as.map e) ++ captured)
      | _ => none
    | none => none := by
  unfold callee calleeC
  cases o.op <;> first
    | rfl
    | (rename_i c; cases hc : c.callee <;> simp only [hc])

def eopC (T : Mach) (mu : Bool) (o : Oper) : Option (St → (Operand → AV) → M (AV × St)) :=
  match o.op with
  | .alloc el => some fun s _ => .opt (eAlloc T.P s el)
  | .box el x => some fun s e => .opt (eBox s el (e x))
  | .store t a x => some fun s e => .opt (match eStore T.P T.ng s t (e a) (e x) with
    | some r => some r
    | none => match eStoreP T.P s t (e a) (e x) with
      | some r => some r
      | none => eStoreR T.P T.ng s t (e a) (e x))
  | .move _ | .assign _ | .pick .. | .load .. | .binOp .. | .fieldAddr .. | .field .. | .indexAddr .. | .index .. => none
  | _ => some fun s e => eop T mu s o e

theorem eopC_eq (T : Mach) (mu : Bool) (s : St) (o : Oper) (e : Operand → AV) : eop T mu s o e = match eopC T mu o with
    | some m => m s e
    | none => .fail := by
  unfold eopC eop
  cases o.op <;> rfl

def stepC (T : Mach) (mu : Bool) (o : Oper) : SF := .mk (qopC T.P o) (calleeC o) (eopC T mu o) (modeOf o.op)

/-- A function that is known, in a value. -/
def fnOf : AV → Option (FuncId × List AV × List AV)
  | .fn (.func g) a b => some (g, a, b)
  | _ => none
def retOf {α : Type} : M α → Option α
  | .ret a => some a
  | _ => none

def effK (T : Mach) (m : Option (St → (Operand → AV) → M (AV × St))) (o : Oper) (s : St) (e : Operand → AV) (k : AV → St → Ans) : Ans :=
  match m with
  | some m => match retOf (m s e) with
    | some r => forceV T.frc true r.1 fun v => fSt r.2 fun s => k v s
    | none => ((m s e).tell o (o.op.operands.toList.map e)).bind fun r => forceV T.frc true r.1 fun v => k v r.2
  | none => .stop o (o.op.operands.toList.map e)

def callK (T : Mach) (C : Oracle) (g : FuncId) (args : List AV) (s : St) (k : AV → St → Ans) : Ans :=
  match T.ext g args with
  | some v => forceV T.frc false v fun v => k v s
  | none => match T.extE g args s with
    | some r => forceV T.frc false r.1 fun v => k v r.2
    | none => C g args s k

def slowK (T : Mach) (C : Oracle) (c : Option (Operand × List Operand)) (m : Option (St → (Operand → AV) → M (AV × St))) (o : Oper) (s : St) (e : Operand → AV) (k : AV → St → Ans) : Ans :=
  match c with
  | some (f, as) => match fnOf (e f) with
    | some (g, first, captured) => callK T C g (rapp (rapp first (rmap e as)) captured) s k
    | none => effK T m o s e k
  | none => effK T m o s e k

def stepOpF (T : Mach) (C : Oracle) (mu : Bool) (s : St) (o : Oper) (e : Operand → AV) (k : AV → St → Ans) : Ans :=
  match T.ora o (o.op.operands.toList.map e) with
  | some v => k v s
  | none => match stepC T mu o with
    | .mk q c m deep => match q with
      | some q => match q s e with
        | some v => forceM T.frc deep v fun v => k v s
        | none => slowK T C c m o s e k
      | none => slowK T C c m o s e k

theorem effK_eq (T : Mach) (mu : Bool) (s : St) (o : Oper) (e : Operand → AV) (k : AV → St → Ans) : ((eop T mu s o e).tell o (o.op.operands.toList.map e)).bind (fun r => forceV T.frc true r.1 fun v => k v r.2) = effK T (eopC T mu o) o s e k := by
  rw [eopC_eq]
  unfold effK
  cases eopC T mu o with
  | none => rfl
  | some m =>
    simp only
    cases hm : m s e <;> simp only [retOf, fSt_eq] <;> rfl

theorem slowK_eq (T : Mach) (C : Oracle) (mu : Bool) (s : St) (o : Oper) (e : Operand → AV) (k : AV → St → Ans) : (match callee o e with
      | some (g, args) => callK T C g args s k
      | none => ((eop T mu s o e).tell o (o.op.operands.toList.map e)).bind fun r => forceV T.frc true r.1 fun v => k v r.2 : Ans) = slowK T C (calleeC o) (eopC T mu o) o s e k := by
  rw [calleeC_eq, effK_eq]
  unfold slowK
  cases hc : calleeC o with
  | none => rfl
  | some p =>
    obtain ⟨f, as⟩ := p
    simp only [rapp_eq, rmap_eq]
    cases e f with
    | fn g a b => cases g <;> rfl
    | _ => rfl

theorem stepOpF_eq (T : Mach) (C : Oracle) (mu : Bool) (s : St) (o : Oper) (e : Operand → AV) (k : AV → St → Ans) : stepOpF T C mu s o e k = stepOp0 T C mu s o e k := by
  have h := slowK_eq T C mu s o e k
  unfold stepOpF stepOp0
  rw [qopC_eq]
  simp only [stepC]
  cases T.ora o (o.op.operands.toList.map e) with
  | some v => rfl
  | none =>
    simp only
    rw [← h]
    cases qopC T.P o with
    | none => rfl
    | some q =>
      simp only
      cases q s e with
      | some v => simp only [forceM_eq, forceV_eq]
      | none => rfl

/-- The same, the values as they have become. -/
def stepOp (T : Mach) (C : Oracle) (mu : Bool) (s : St) (o : Oper) (e : Operand → AV) (k : AV → St → Ans) : Ans := stepOpF T C mu s o (rsv s e) k

/-- What stays so all along. -/
def Fit (T : Mach) (B : Nat) (w0 : World) (G : Ctx) : Prop := G.σ = T.σ ∧ T.st B w0

theorem Fit.next {T : Mach} {B : Nat} {w0 w w' : World} {G G' : Ctx} (h : Fit T B w0 G) (e : Ext G w G' w') : Fit T B w0 G' := ⟨e.σ.trans h.1, h.2⟩

/-- What a call does, against the abstract one. -/
def OracleOk (T : Mach) (C : Oracle) : Prop :=
  ∀ f args s k (R : AV × St → Prop) (B : Nat) (w0 : World) (G : Ctx) (w : World) (xs : Array Value), (C f args s k).all R → Fit T B w0 G → WRel T.ng B w0 G w s → VRL G w args xs.toList →
    (callFunc f xs).run T.P w = .ok (.enter f xs) w ∧
    Calls T.P f xs w fun e w' => ∃ y G' v s', e = .returned y ∧ (k v s').all R ∧ VR G' w' v y ∧ WRel T.ng B w0 G' w' s' ∧ Ext G w G' w'

structure MachOk (T : Mach) : Prop where
  ng : T.P.globals.size ≤ T.ng
  ext : ∀ f args v, T.ext f args = some v → ∀ (G : Ctx) (w : World) (xs : Array Value), VRL G w args xs.toList → ∃ y, (callFunc f xs).run T.P w = .ok (.value y) w ∧ VR G w v y
  extE : ∀ f args s v s', T.extE f args s = some (v, s') → ∀ (B : Nat) (w0 : World) (G : Ctx) (w : World) (xs : Array Value), WRel T.ng B w0 G w s → VRL G w args xs.toList → Does T.P T.ng B w0 G w (callFunc f xs) v s'
  ends : ∀ f, f ∈ T.P.funcs.toList → (f.name == "runtime.NumGoroutine") = false
  mixed : T.P.follows .mixedOrders = true
  ora : ∀ (o : Oper) (e : Operand → AV) (v : AV), T.ora o (o.op.operands.toList.map e) = some v → ∀ (B : Nat) (w0 : World) (G : Ctx) (w : World) (s : St) (e' : Operand → Value), Fit T B w0 G → WRel T.ng B w0 G w s → (∀ x, x ∈ o.op.operands → VR G w (e x) (e' x)) →
    ∃ y d, (execOp e' o).run T.P w = .ok (.value y) { w with drawn := d } ∧ VR G w v y

theorem callee_run {T : Mach} {w : World} {G : Ctx} {o : Oper} {e : Operand → AV} {e' : Operand → Value} (he : ∀ x, x ∈ o.op.operands → VR G w (e x) (e' x)) {g : FuncId} {args : List AV} (h : callee o e = some (g, args)) :
    ∃ xs : Array Value, VRL G w args xs.toList ∧ (execOp e' o).run T.P w = (callFunc g xs).run T.P w := by
  unfold callee at h
  split at h
  · rename_i c ho
    rw [ho] at he
    split at h
    · rename_i f hf
      split at h
      · rename_i g' first captured hfe
        cases h
        have hv := he f (by simp [Op.operands, Call.operands, hf])
        rw [hfe] at hv
        simp only [VR, FnR] at hv
        obtain ⟨f', as, bs, hv, rfl, h1, h2⟩ := hv
        refine ⟨as ++ c.args.map e' ++ bs, ?_, ?_⟩
        · rw [Array.toList_append, Array.toList_append, Array.toList_map]
          exact (h1.append (VRL_map _ fun x hx => he x (by simp [Op.operands, Call.operands, hf]; exact .inr (by simpa using hx)))).append h2
        · simp [execOp, ho, resolve, hf, hv, Deferred.ofValue, invoke]
      · cases h
    · cases h
  · cases h

theorem stepOp0_sound {T : Mach} (hT : MachOk T) {C : Oracle} (hC : OracleOk T C) {B : Nat} {w0 w : World} {G : Ctx} {s : St} (hσ : Fit T B w0 G) (hw : WRel T.ng B w0 G w s) {mu : Bool} {o : Oper} {a : Act} {e : Operand → AV}
    (he : ∀ x, x ∈ o.op.operands → VR G w (e x) (a.eval x)) {k : AV → St → Ans} {R : AV × St → Prop} (hq : (stepOp0 T C mu s o e k).all R) {next : Act → World → Prop} {Q : Exit → Act → World → Prop}
    (hn : ∀ v x G' w' s', (k v s').all R → VR G' w' v x → WRel T.ng B w0 G' w' s' → Ext G w G' w' → next (a.put o.dst x) w') : o.wp T.P a w next Q := by
  unfold stepOp0 at hq
  unfold Oper.wp
  split at hq
  · rename_i v hv
    obtain ⟨y, d, h1, h2⟩ := hT.ora o e v hv B w0 G w s a.eval hσ hw he
    rw [h1]
    have e0 : Ext G w G { w with drawn := d } := Ext.heap rfl
    exact hn v y G _ s hq (VR.ext e0 _ _ h2) (hw.draw d) e0
  split at hq
  · rename_i v hv
    rw [forceV_eq] at hq
    obtain ⟨y, h1, h2⟩ := qop_sound (P := T.P) hw he hv
    rw [h1]
    exact hn v y G w s hq h2 hw (Ext.refl _ _)
  · split at hq
    · rename_i g args hc
      obtain ⟨xs, h1, h2⟩ := callee_run (T := T) he hc
      rw [h2]
      split at hq
      · rename_i v hv
        rw [forceV_eq] at hq
        obtain ⟨y, h3, h4⟩ := hT.ext g args v hv G w xs h1
        rw [h3]
        exact hn v y G w s hq h4 hw (Ext.refl _ _)
      · split at hq
        · rename_i r hr
          obtain ⟨v, s'⟩ := r
          rw [forceV_eq] at hq
          obtain ⟨n, y, w', G', h2, h3, h4, h5, h6⟩ := hT.extE g args s v s' hr B w0 G w xs hw h1
          rw [h2]
          rcases h3 with rfl | ⟨rfl, rfl⟩
          · exact hn v y G' w' s' hq h4 h6 h5
          · exact hn v undef G' w' s' hq h4 h6 h5
        · obtain ⟨h3, h4⟩ := hC g args s k R B w0 G w xs hq hσ hw h1
          rw [h3]
          refine h4.mono fun en w' hen => ?_
          obtain ⟨y, G', v, s', rfl, h5, h6, h7, h8⟩ := hen
          exact hn v y G' w' s' h5 h6 h7 h8
    · have hq' := M.all_tell (M.all_bind _ R _ hq)
      obtain ⟨v, s', h1, n, y, w', G', h2, h3, h4, h5, h6⟩ := eop_sound (T := T) hw he hq'
      simp only [forceV_eq] at h1
      rw [h2]
      rcases h3 with rfl | ⟨rfl, rfl⟩
      · exact hn v y G' w' s' h1 h4 h6 h5
      · exact hn v undef G' w' s' h1 h4 h6 h5

theorem stepOp_sound {T : Mach} (hT : MachOk T) {C : Oracle} (hC : OracleOk T C) {B : Nat} {w0 w : World} {G : Ctx} {s : St} (hσ : Fit T B w0 G) (hw : WRel T.ng B w0 G w s) {mu : Bool} {o : Oper} {a : Act} {e : Operand → AV}
    (he : ∀ x, x ∈ o.op.operands → VR G w (e x) (a.eval x)) {k : AV → St → Ans} {R : AV × St → Prop} (hq : (stepOp T C mu s o e k).all R) {next : Act → World → Prop} {Q : Exit → Act → World → Prop}
    (hn : ∀ v x G' w' s', (k v s').all R → VR G' w' v x → WRel T.ng B w0 G' w' s' → Ext G w G' w' → next (a.put o.dst x) w') : o.wp T.P a w next Q :=
  stepOp0_sound hT hC hσ hw (fun x hx => rsv_VR hw (he x hx)) (by unfold stepOp at hq; rw [stepOpF_eq] at hq; exact hq) hn

end
end Go.AVM
