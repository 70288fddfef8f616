/- An interpreter of the model over abstract values, proved sound for every program. Operations that write, and regions whose order is drawn. -/
import Derived.Laws.AppendOwn
import Derived.Laws.IdiomStrings
import Derived.Tactics
import Derived.Test.YtkdemeekbjdlnaaGreatDoorAva
set_option autoImplicit false
set_option linter.unusedVariables false
set_option linter.unusedSimpArgs false

namespace Go.AVM
open Go.RowKit

section
variable {P : Program} {ng B : Nat} {w0 w : World} {G : Ctx} {s : St}

/-! ### names are below the bound -/
mutual
theorem VR.hi : ∀ (v : AV) (x : Value), VR G w v x → v.hi ≤ G.N
  | .any, _, _ => Nat.zero_le _
  | .nan _, _, _ => Nat.zero_le _
  | .sym _, _, _ => Nat.zero_le _
  | .val _, _, _ => Nat.zero_le _
  | .agg cs, x, h => by
    simp only [VR] at h
    obtain ⟨xs, _, hl⟩ := h
    exact VRL.hi cs _ hl
  | .tup cs, x, h => by
    simp only [VR] at h
    obtain ⟨xs, _, hl⟩ := h
    exact VRL.hi cs _ hl
  | .sl es sz t, x, h => by
    simp only [VR] at h
    rcases h with ⟨rfl, _⟩ | ⟨_, b, o, cap, _, _, _, hel, _⟩
    · exact Nat.zero_le _
    · exact ElR.hi es b o sz hel
  | .ptr b o, x, h => by simp only [VR] at h; exact h.1
  | .ep cs o, x, h => by
    simp only [VR] at h
    obtain ⟨b, o', _, hc⟩ := h
    exact ClR.hi cs b o' hc
  | .ms b o n c, x, h => by simp only [VR] at h; exact h.1
  | .map b, x, h => by simp only [VR] at h; exact h.1
  | .fn f fs cs, x, h => by
    simp only [VR] at h
    obtain ⟨f', as, bs, _, hf, h1, h2⟩ := h
    simp only [AV.hi]
    refine Nat.max_le.2 ⟨?_, Nat.max_le.2 ⟨VRL.hi fs _ h1, VRL.hi cs _ h2⟩⟩
    cases f <;> simp only [FnR, Fn.hi] at hf ⊢ <;> first | exact Nat.zero_le _ | exact hf.1
  | .ifc t v, x, h => by
    simp only [VR] at h
    obtain ⟨y, _, hy⟩ := h
    exact VR.hi v y hy
theorem VRL.hi : ∀ (l : List AV) (xs : List Value), VRL G w l xs → hiL l ≤ G.N
  | [], _, _ => Nat.zero_le _
  | c :: cs, xs, h => by
    simp only [VRL] at h
    obtain ⟨y, ys, _, h1, h2⟩ := h
    exact Nat.max_le.2 ⟨VR.hi c y h1, VRL.hi cs ys h2⟩
theorem ClR.hi : ∀ (l : List AV) (b o : Nat), ClR G w b o l → hiL l ≤ G.N
  | [], _, _, _ => Nat.zero_le _
  | c :: cs, b, o, h => by
    simp only [ClR] at h
    obtain ⟨⟨_, x, _, hx⟩, hr⟩ := h
    exact Nat.max_le.2 ⟨VR.hi c x hx, ClR.hi cs b (o + 1) hr⟩
theorem ElR.hi : ∀ (l : List (List AV)) (b o sz : Nat), ElR G w b o sz l → hiE l ≤ G.N
  | [], _, _, _, _ => Nat.zero_le _
  | c :: es, b, o, sz, h => by
    simp only [ElR] at h
    exact Nat.max_le.2 ⟨ClR.hi c b o h.2.1, ElR.hi es b (o + sz) sz h.2.2⟩
end

theorem EnR.hi : ∀ (l : List AE) (xs : List MapEntry), EnR G w l xs → hiM l ≤ G.N
  | [], _, _ => Nat.zero_le _
  | e :: es, xs, h => by
    obtain ⟨y, ys, _, h1, h2, _, h4⟩ := h
    exact Nat.max_le.2 ⟨Nat.max_le.2 ⟨VR.hi _ _ h1, VR.hi _ _ h2⟩, EnR.hi es ys h4⟩

/-- What an operation leaves: a value, or nothing. -/
def NextIs (n : Next) (y : Value) : Prop := n = .value y ∨ (n = .skip ∧ y = undef)

/-- An operation's run, against the abstract one. -/
def Does (P : Program) (ng B : Nat) (w0 : World) (G : Ctx) (w : World) (f : Sem Next) (v : AV) (s' : St) : Prop :=
  ∃ n y w' G', f.run P w = .ok n w' ∧ NextIs n y ∧ VR G' w' v y ∧ Ext G w G' w' ∧ WRel ng B w0 G' w' s'

theorem Does.of_new (h : WRel ng B w0 G w s) {f : Sem Next} {o : AO} {x : Obj} (hx : OR G w o x) (hh : o.hi ≤ G.N) (y : Value) (v : AV)
    (hr : f.run P w = .ok (.value y) (w.alloc x)) (hv : VR (G.new w) (w.alloc x) v y) : Does P ng B w0 G w f v (s.push o) := by
  obtain ⟨h1, h2⟩ := h.new o x hx (by rw [h.n]; exact Nat.le_trans hh (Nat.le_max_left _ _))
  exact ⟨_, y, _, _, hr, .inl rfl, hv, h1, h2⟩

theorem new_ptr (G : Ctx) (w w' : World) (off : Nat) : VR (G.new w) w' (.ptr G.N off) (.pointer (some ⟨w.heap.size, off, none⟩)) := by
  simp [VR, Ctx.new]

theorem OR_cells {cs : List AV} {xs : Array Value} (hv : VRL G w cs xs.toList) (el : TypeId) : OR G w (.cells cs el) (.cells xs el (0, 0)) :=
  ⟨xs, (0, 0), rfl, hv, fun j _ h => absurd h.2 (Nat.not_lt_zero _)⟩

/-! ### variables -/
def eAlloc (P : Program) (s : St) (el : TypeId) : Option (AV × St) :=
  match zeroA P el with
  | some z => match cellsOf z with
    | some cs => some (.ptr s.next 0, s.push (.cells cs el))
    | none => none
  | none => none

theorem eAlloc_sound (h : WRel ng B w0 G w s) {el : TypeId} {v : AV} {s' : St} (hq : eAlloc P s el = some (v, s')) :
    Does P ng B w0 G w (do pure (.value (← Instr.alloc el true (.tuple #[])))) v s' := by
  unfold eAlloc at hq
  split at hq
  · rename_i z hz
    split at hq
    · rename_i cs hcs
      cases hq
      obtain ⟨zv, h1, h2⟩ := zeroA_sound (P := P) (G := G) (w := w) hz
      have hc := cellsOf_sound h2 hcs
      rw [h.n]
      refine Does.of_new h (OR_cells hc el) (VRL.hi cs _ hc) _ _ ?_ (new_ptr G w _ 0)
      simp [Instr.alloc, h1, newVar, newRow]
    · cases hq
  · cases hq

def eBox (s : St) (el : TypeId) (x : AV) : Option (AV × St) :=
  match cellsOf x with
  | some cs => some (.ptr s.next 0, s.push (.cells cs el))
  | none => none

theorem eBox_sound (h : WRel ng B w0 G w s) {el : TypeId} {x v : AV} {a : Value} {s' : St} (hx : VR G w x a) (hq : eBox s el x = some (v, s')) :
    Does P ng B w0 G w (do pure (.value (← Instr.box el a))) v s' := by
  unfold eBox at hq
  split at hq
  · rename_i cs hcs
    cases hq
    have hc := cellsOf_sound hx hcs
    rw [h.n]
    refine Does.of_new h (OR_cells hc el) (VRL.hi cs _ hc) _ _ ?_ (new_ptr G w _ 0)
    simp [Instr.box, newVar, newRow]
  · cases hq

/-! ### store -/
theorem run_storeCells_at' (b o : Nat) : ∀ (vs : List Value) (i : Nat) (w : World) (c : Array Value) (e : TypeId) (fz : Nat × Nat), w.heap[b]? = some (.cells c e fz) → o + i + vs.length ≤ c.size →
    (∀ j, j < c.size → o + i ≤ j → ¬ (fz.1 ≤ j ∧ j < fz.2)) → (∀ v, v ∈ vs → valOne v = true) → (storeCells ⟨b, o, none⟩ vs i).run P w = .ok () (w.putCells b (o + i) vs)
  | [], i, w, c, e, fz, _, _, _, _ => rfl
  | v :: vs, i, w, c, e, fz, hc, hl, hf, ho => by
    have hlt : o + i < c.size := by simp at hl; omega
    have hcell : w.cell? ⟨b, o + i, none⟩ = some c[o + i] := by rw [cell_of_heap hc]; exact Array.getElem?_eq_getElem hlt
    have hfz : w.frozen? ⟨b, o + i, none⟩ = false := by
      simp only [World.frozen?, hc]
      have := hf (o + i) hlt (Nat.le_refl _)
      by_cases g1 : fz.1 ≤ o + i
      · by_cases g2 : o + i < fz.2
        · exact absurd ⟨g1, g2⟩ this
        · simp [g2]
      · simp [g1]
    have hone := ho v (by simp)
    have hst : (store ⟨b, o + i, none⟩ v).run P w = .ok () (w.setCell ⟨b, o + i, none⟩ v) := by
      cases v <;> first | (simp [valOne] at hone; done) | (simp only [store, Sem.run, hcell, hfz]; rfl)
    have hrec := run_storeCells_at' b o vs (i + 1) (w.setCell ⟨b, o + i, none⟩ v) _ e fz (setCell_heap_eq w b (o + i) v hc) (by simp at hl ⊢; omega)
      (fun j hj hj2 => hf j (by simpa using hj) (by omega)) (fun u hu => ho u (by simp [hu]))
    simp only [storeCells, addr_add, Sem.run_bind, hst, Result.andThen_ok]
    rw [hrec, World.putCells]
    rfl

def eStore (P : Program) (ng : Nat) (s : St) (t : TypeId) (x v : AV) : Option (AV × St) :=
  match x with
  | .ptr b off => if b < ng then none else match s.get b, cellsOf v, inf P t with
    | .cells cs e, some vs, some i => if vs.length ≠ i.size ∨ off + vs.length > cs.length ∨ vs.all one = false then none else some (.val undef, s.store b off cs e vs)
    | _, _, _ => none
  | _ => none

theorem eStore_sound (h : WRel ng B w0 G w s) {t : TypeId} {x v r : AV} {a b : Value} {s' : St} (hx : VR G w x a) (hv : VR G w v b) (hq : eStore P ng s t x v = some (r, s')) :
    Does P ng B w0 G w (do Instr.storeAt t a b; pure .skip) r s' := by
  unfold eStore at hq
  split at hq
  · rename_i bk off
    split at hq
    · cases hq
    · rename_i hng
      split at hq
      · rename_i cs e vs i hg hvs hi
        split at hq
        · cases hq
        · rename_i hc
          cases hq
          simp only [not_or, Nat.not_lt, ne_eq, Decidable.not_not] at hc
          obtain ⟨hc1, hc2, hc3⟩ := hc
          simp only [VR] at hx
          obtain ⟨_, rfl⟩ := hx
          have hvl := cellsOf_sound hv hvs
          obtain ⟨c, fz, h1, h2, h3, _⟩ := h.cells hg
          have hlen : b.cells.size = vs.length := by rw [← Array.length_toList]; exact hvl.length.symm
          have hcl : c.size = cs.length := by rw [← Array.length_toList]; exact h2.length.symm
          obtain ⟨g1, g2⟩ := h.store (by omega) hg hvl (off := off)
          have hone : ∀ u, u ∈ b.cells.toList → valOne u = true := by
            intro u hu
            obtain ⟨j, hj⟩ := List.getElem?_of_mem hu
            have hjl : j < vs.length := by rw [← hlen, ← Array.length_toList]; exact (List.getElem?_eq_some_iff.1 hj).1
            obtain ⟨y, hy1, hy2⟩ := hvl.get (List.getElem?_eq_getElem hjl)
            rw [hj] at hy1
            cases hy1
            have : one vs[j] = true := by
              have hall : vs.all one = true := by cases hh : vs.all one <;> simp_all
              exact List.all_eq_true.1 hall _ (List.getElem_mem hjl)
            exact (one_sound hy2 this).1
          have hrun := run_storeCells_at' (P := P) (G.ρ bk) off b.cells.toList 0 w c e fz h1 (by simp [hlen]; omega) (fun j hj _ => h3 j hj) hone
          refine ⟨.skip, undef, _, _, ?_, .inr ⟨rfl, rfl⟩, by simp [VR], g1, g2⟩
          simp only [Instr.storeAt, Instr.sureAddr, Sem.run_bind, Sem.run_pure, Result.andThen_ok, storeVar, r_size hi]
          rw [if_neg (by rw [hlen]; simp [hc1]), hrun]
          rfl
      · cases hq
  · cases hq

/-! ### maps: made, written -/
def eMakeMap (s : St) (r : Option AV) : Option (AV × St) :=
  match r with
  | none => some (.map s.next, s.push (.map [] 0))
  | some _ => none

theorem eMakeMap_sound (h : WRel ng B w0 G w s) {t : TypeId} {r : Option AV} {rv : Option Value} (hr : OptR G w r rv) {v : AV} {s' : St} (hq : eMakeMap s r = some (v, s')) :
    Does P ng B w0 G w (do pure (.value (← Instr.makeMap t rv))) v s' := by
  unfold eMakeMap at hq
  split at hq
  · cases hq
    have : rv = none := hr
    subst this
    rw [h.n]
    refine Does.of_new h (o := .map [] 0) (x := .map #[] 0) ⟨#[], rfl, rfl⟩ (Nat.zero_le _) (.map (some w.heap.size)) _ ?_ (by simp [VR, Ctx.new])
    simp [Instr.makeMap]
  · cases hq

end
end Go.AVM

namespace Go.AVM
open Go.RowKit

section
variable {P : Program} {ng B : Nat} {w0 w : World} {G : Ctx} {s : St}

/-! ### entries -/
theorem EnR.push : ∀ {es : List AE} {xs : List MapEntry} {e : AE} {x : MapEntry}, EnR G w es xs → VR G w e.key x.key → VR G w e.val x.val → x.born = e.born → EnR G w (es ++ [e]) (xs ++ [x])
  | [], xs, e, x, h, h1, h2, h3 => by
    simp only [EnR] at h
    subst h
    exact ⟨x, [], rfl, h1, h2, h3, rfl⟩
  | d :: es, xs, e, x, h, h1, h2, h3 => by
    obtain ⟨y, ys, rfl, g1, g2, g3, g4⟩ := h
    exact ⟨y, ys ++ [x], rfl, g1, g2, g3, EnR.push g4 h1 h2 h3⟩

theorem EnR.modify {f : AE → AE} {g : MapEntry → MapEntry} (hfg : ∀ e x, VR G w e.key x.key → VR G w e.val x.val → x.born = e.born → VR G w (f e).key (g x).key ∧ VR G w (f e).val (g x).val ∧ (g x).born = (f e).born) :
    ∀ {es : List AE} {xs : List MapEntry} (j : Nat), EnR G w es xs → EnR G w (es.modify j f) (xs.modify j g)
  | [], xs, j, h => by
    simp only [EnR] at h
    subst h
    cases j <;> simp [EnR, List.modify]
  | d :: es, xs, 0, h => by
    obtain ⟨y, ys, rfl, g1, g2, g3, g4⟩ := h
    obtain ⟨k1, k2, k3⟩ := hfg d y g1 g2 g3
    exact ⟨g y, ys, rfl, k1, k2, k3, g4⟩
  | d :: es, xs, j + 1, h => by
    obtain ⟨y, ys, rfl, g1, g2, g3, g4⟩ := h
    exact ⟨y, ys.modify j g, rfl, g1, g2, g3, EnR.modify hfg j g4⟩

theorem Does.of_setObj (h : WRel ng B w0 G w s) {f : Sem Next} {b : Nat} (hb : ng ≤ b) {old : Obj} (hd : s.get b ≠ .dead) (hold : w.heap[G.ρ b]? = some old) (hrow : old.isRow = false)
    {o : AO} {x : Obj} (hx : OR G w o x) (hxr : x.isRow = false) {n : Next} {y : Value} {v : AV} (hn : NextIs n y)
    (hr : f.run P w = .ok n { w with heap := w.heap.setIfInBounds (G.ρ b) x }) (hv : VR G w v y) : Does P ng B w0 G w f v ((s.wmUp b o.hi).put b o) := by
  obtain ⟨h1, h2⟩ := h.setObj hb hd hold hrow o x hx hxr
  exact ⟨n, y, _, _, hr, hn, VR.ext h1 _ _ hv, h1, h2⟩

theorem run_setObj_eq {r : Nat} {old o : Obj} (h : w.heap[r]? = some old) (hr : old.isRow = false) : (setObj r o).run P w = .ok () { w with heap := w.heap.setIfInBounds r o } := by
  cases old <;> first | (simp [Obj.isRow] at hr; done) | (simp only [setObj, Sem.run, h])

/-- The map at a name, against the world's. -/
theorem WRel.mapAt (h : WRel ng B w0 G w s) {b : Nat} {es : List AE} {ck : Nat} (hg : s.get b = .map es ck) : ∃ xs : Array MapEntry, w.heap[G.ρ b]? = some (.map xs ck) ∧ EnR G w es xs.toList := by
  obtain ⟨o, h1, h2⟩ := h.obj b (by rw [hg]; simp)
  rw [hg] at h2
  obtain ⟨xs, rfl, h3⟩ := h2
  exact ⟨xs, h1, h3⟩

/-- The key that stays: the new one. -/
def staysA (old new : AV) : Bool :=
  match toV old, toV new with
  | some a, some b => Instr.sameBits 10000 a b
  | _, _ => false

theorem staysA_sound {o k : AV} {a b : Value} (ho : VR G w o a) (hk : VR G w k b) (h : staysA o k = true) : (Instr.keyThatStays a b).run P w = .ok b w := by
  unfold staysA at h
  split at h
  · rename_i x y hx hy
    have e1 := toV_eq _ _ _ hx ho
    have e2 := toV_eq _ _ _ hy hk
    subst e1
    subst e2
    simp [Instr.keyThatStays, h]
  · cases h

def eMapUpdate (P : Program) (ng : Nat) (s : St) (t : TypeId) (m k x : AV) : Option (AV × St) :=
  match und P t, m, toV k with
  | some (.map kt _), .map b, some kv => if b < ng then none else match s.get b with
    | .map es ck => match flat P (Instr.checkKey false 10000 kt kv), findA P kt kv es with
      | some (), some (some j) => match es[j]? with
        | some e => if staysA e.key k = true then
            some (.val undef, (s.wmUp b (AO.map (es.modify j fun e => { e with key := k, val := x }) ck).hi).put b (.map (es.modify j fun e => { e with key := k, val := x }) ck)) else none
        | none => none
      | some (), some none => some (.val undef, (s.wmUp b (AO.map (es ++ [{ key := k, val := x, born := ck }]) (ck + 1)).hi).put b (.map (es ++ [{ key := k, val := x, born := ck }]) (ck + 1)))
      | _, _ => none
    | _ => none
  | _, _, _ => none

theorem findA_at {kt : TypeId} {k : Value} {es : List AE} {xs : Array MapEntry} {j : Nat} {e : AE} (h : EnR G w es xs.toList) (hq : findA P kt k es = some (some j)) (he : es[j]? = some e) :
    ∃ x, xs[j]? = some x ∧ (Instr.findKey kt k xs.toList).run P w = .ok (some (j, x.val)) w ∧ VR G w e.key x.key ∧ VR G w e.val x.val ∧ x.born = e.born := by
  obtain ⟨g1, g2⟩ := findA_sound (P := P) h hq
  obtain ⟨e', x, g3, g4⟩ := g2 j rfl
  rw [he] at g3
  cases g3
  obtain ⟨k1, k2, k3⟩ := EnR.get h he g4
  refine ⟨x, by rw [← Array.getElem?_toList]; exact g4, ?_, k1, k2, k3⟩
  rw [g1]
  simp only [Option.bind_some]
  rw [g4]
  rfl

theorem eMapUpdate_sound (h : WRel ng B w0 G w s) {t : TypeId} {m k x v : AV} {a b c : Value} {s' : St} (hm : VR G w m a) (hk : VR G w k b) (hx : VR G w x c) (hq : eMapUpdate P ng s t m k x = some (v, s')) :
    Does P ng B w0 G w (do Instr.mapUpdate t a b c; pure .skip) v s' := by
  unfold eMapUpdate at hq
  split at hq
  · rename_i kt el bk kv hd hkv
    have e1 := toV_eq k b kv hkv hk
    subst e1
    split at hq
    · cases hq
    · rename_i hng
      split at hq
      · rename_i es ck hg
        simp only [VR] at hm
        obtain ⟨_, rfl⟩ := hm
        obtain ⟨xs, hh, hes⟩ := h.mapAt hg
        have hget := run_getObj_eq (P := P) hh rfl
        split at hq
        · rename_i j hc hf
          split at hq
          · rename_i e he
            split at hq
            · rename_i hst
              cases hq
              have hck := flat_run w _ hc
              obtain ⟨y, g1, g2, g3, g4, g5⟩ := findA_at (P := P) hes hf he
              have hkeep := staysA_sound (P := P) g3 hk hst
              refine Does.of_setObj h (by omega) (by rw [hg]; simp) hh rfl (o := .map (es.modify j fun e => { e with key := k, val := x }) ck) (x := .map (xs.modify j fun e => { e with key := b, val := c }) ck) ?_ rfl (.inr ⟨rfl, rfl⟩) ?_ (by simp [VR])
              · refine ⟨_, rfl, ?_⟩
                rw [Array.toList_modify]
                exact EnR.modify (f := fun e => { e with key := k, val := x }) (g := fun e => { e with key := b, val := c }) (fun e x _ _ h3 => ⟨hk, hx, h3⟩) j hes
              · simp only [Instr.mapUpdate, Sem.run_bind, r_und hd, Result.andThen_ok, hget, hck, g2]
                have : (((xs[j]?).map (·.key)).getD b) = y.key := by rw [g1]; rfl
                rw [this]
                simp only [hkeep, Result.andThen_ok, run_setObj_eq hh rfl, Sem.run_pure]
            · cases hq
          · cases hq
        · rename_i hc hf
          cases hq
          have hck := flat_run w _ hc
          obtain ⟨g1, _⟩ := findA_sound (P := P) hes hf
          refine Does.of_setObj h (by omega) (by rw [hg]; simp) hh rfl (o := .map (es ++ [{ key := k, val := x, born := ck }]) (ck + 1)) (x := .map (xs.push { key := b, val := c, born := ck }) (ck + 1)) (y := undef) (v := .val undef) ?_ rfl (.inr ⟨rfl, rfl⟩) ?_ (by simp [VR])
          · refine ⟨_, rfl, ?_⟩
            rw [Array.toList_push]
            exact EnR.push hes hk hx rfl
          · simp only [Instr.mapUpdate, Sem.run_bind, r_und hd, Result.andThen_ok, hget, hck, g1, Option.bind_none, run_setObj_eq hh rfl, Sem.run_pure]
        · cases hq
      · cases hq
  · cases hq

def eMapEntry (P : Program) (ng : Nat) (s : St) (t : TypeId) (m k : AV) : Option (AV × St) :=
  match und P t, m, toV k with
  | some (.map kt el), .map b, some kv => if b < ng then none else match s.get b with
    | .map es ck => match flat P (Instr.checkKey false 10000 kt kv), findA P kt kv es with
      | some (), some (some j) => match es[j]? with
        | some e => if staysA e.key k = true then
            some (.tup [e.val, .val (.int .i64 e.born)], (s.wmUp b (AO.map (es.modify j fun e => { e with key := k }) ck).hi).put b (.map (es.modify j fun e => { e with key := k }) ck)) else none
        | none => none
      | some (), some none => match zeroA P el with
        | some z => some (.tup [z, .val (.int .i64 ck)], (s.wmUp b (AO.map (es ++ [{ key := k, val := z, born := ck }]) (ck + 1)).hi).put b (.map (es ++ [{ key := k, val := z, born := ck }]) (ck + 1)))
        | none => none
      | _, _ => none
    | _ => none
  | _, _, _ => none

theorem eMapEntry_sound (h : WRel ng B w0 G w s) {t : TypeId} {m k v : AV} {a b : Value} {s' : St} (hm : VR G w m a) (hk : VR G w k b) (hq : eMapEntry P ng s t m k = some (v, s')) :
    Does P ng B w0 G w (do pure (.value (← Instr.mapEntry t a b))) v s' := by
  unfold eMapEntry at hq
  split at hq
  · rename_i kt el bk kv hd hkv
    have e1 := toV_eq k b kv hkv hk
    subst e1
    split at hq
    · cases hq
    · rename_i hng
      split at hq
      · rename_i es ck hg
        simp only [VR] at hm
        obtain ⟨_, rfl⟩ := hm
        obtain ⟨xs, hh, hes⟩ := h.mapAt hg
        have hget := run_getObj_eq (P := P) hh rfl
        split at hq
        · rename_i j hc hf
          split at hq
          · rename_i e he
            split at hq
            · rename_i hst
              cases hq
              have hck := flat_run w _ hc
              obtain ⟨y, g1, g2, g3, g4, g5⟩ := findA_at (P := P) hes hf he
              have hkeep := staysA_sound (P := P) g3 hk hst
              refine Does.of_setObj h (by omega) (by rw [hg]; simp) hh rfl (o := .map (es.modify j fun e => { e with key := k }) ck) (x := .map (xs.modify j fun e => { e with key := b }) ck) (y := .tuple #[y.val, .int .i64 e.born]) ?_ rfl (.inl rfl) ?_ (by simp [VR, VRL, g4])
              · refine ⟨_, rfl, ?_⟩
                rw [Array.toList_modify]
                exact EnR.modify (f := fun e => { e with key := k }) (g := fun e => { e with key := b }) (fun e x _ h2 h3 => ⟨hk, h2, h3⟩) j hes
              · simp only [Instr.mapEntry, Sem.run_bind, r_und hd, Result.andThen_ok, hget, hck, g2]
                have : (((xs[j]?).map (·.key)).getD b) = y.key := by rw [g1]; rfl
                rw [this]
                simp only [hkeep, Result.andThen_ok, run_setObj_eq hh rfl, Sem.run_pure]
                rw [g1]
                simp [goInt, g5]
            · cases hq
          · cases hq
        · rename_i hc hf
          split at hq
          · rename_i z hz
            cases hq
            have hck := flat_run w _ hc
            obtain ⟨zv, z1, z2⟩ := zeroA_sound (P := P) (G := G) (w := w) hz
            obtain ⟨g1, _⟩ := findA_sound (P := P) hes hf
            refine Does.of_setObj h (by omega) (by rw [hg]; simp) hh rfl (o := .map (es ++ [{ key := k, val := z, born := ck }]) (ck + 1)) (x := .map (xs.push { key := b, val := zv, born := ck }) (ck + 1)) (y := .tuple #[zv, .int .i64 ck]) (n := .value (.tuple #[zv, .int .i64 ck])) (v := .tup [z, .val (.int .i64 ck)]) ?_ rfl (.inl rfl) ?_ (by simp [VR, VRL, z2])
            · refine ⟨_, rfl, ?_⟩
              rw [Array.toList_push]
              exact EnR.push hes hk z2 rfl
            · simp only [Instr.mapEntry, Sem.run_bind, r_und hd, Result.andThen_ok, hget, hck, g1, Option.bind_none, z1, run_setObj_eq hh rfl, Sem.run_pure]
              rfl
          · cases hq
        · cases hq
      · cases hq
  · cases hq

theorem EnR.findIdx (n : Int) : ∀ {es : List AE} {xs : List MapEntry}, EnR G w es xs → xs.findIdx? (fun e => (e.born : Int) == n) = es.findIdx? (fun e => (e.born : Int) == n)
  | [], xs, h => by
    simp only [EnR] at h
    subst h
    rfl
  | e :: es, xs, h => by
    obtain ⟨y, ys, rfl, _, _, h3, h4⟩ := h
    rw [List.findIdx?_cons, List.findIdx?_cons, h3, EnR.findIdx n h4]

def eEntryStore (P : Program) (ng : Nat) (s : St) (m st x : AV) : Option (AV × St) :=
  match m, st with
  | .map b, .val (.int _ n) => if b < ng then none else match s.get b with
    | .map es ck => match es.findIdx? (fun e => (e.born : Int) == n) with
      | some j => some (.val undef, (s.wmUp b (AO.map (es.modify j fun e => { e with val := x }) ck).hi).put b (.map (es.modify j fun e => { e with val := x }) ck))
      | none => none
    | _ => none
  | _, _ => none

theorem eEntryStore_sound (h : WRel ng B w0 G w s) {t : TypeId} {m st x v : AV} {a b c : Value} {s' : St} (hm : VR G w m a) (hst : VR G w st b) (hx : VR G w x c) (hq : eEntryStore P ng s m st x = some (v, s')) :
    Does P ng B w0 G w (do Instr.entryStore t a b c; pure .skip) v s' := by
  unfold eEntryStore at hq
  split at hq
  · rename_i bk kd n
    split at hq
    · cases hq
    · rename_i hng
      split at hq
      · rename_i es ck hg
        split at hq
        · rename_i j hj
          cases hq
          simp only [VR] at hm hst
          obtain ⟨_, rfl⟩ := hm
          subst hst
          obtain ⟨xs, hh, hes⟩ := h.mapAt hg
          have hget := run_getObj_eq (P := P) hh rfl
          have hidx : xs.findIdx? (fun e => (e.born : Int) == n) = some j := by
            rw [← hj, ← EnR.findIdx n hes]
            cases xs
            simp
          refine Does.of_setObj h (by omega) (by rw [hg]; simp) hh rfl (o := .map (es.modify j fun e => { e with val := x }) ck) (x := .map (xs.modify j fun e => { e with val := c }) ck) ?_ rfl (.inr ⟨rfl, rfl⟩) ?_ (by simp [VR])
          · refine ⟨_, rfl, ?_⟩
            rw [Array.toList_modify]
            exact EnR.modify (f := fun e => { e with val := x }) (g := fun e => { e with val := c }) (fun e x h1 _ h3 => ⟨h1, hx, h3⟩) j hes
          · simp only [Instr.entryStore, Sem.run_bind, Result.andThen_ok, hget, asInt, asIntOf, Sem.run_pure, hidx, run_setObj_eq hh rfl]
        · cases hq
      · cases hq
  · cases hq

end
end Go.AVM

namespace Go.AVM
open Go.RowKit

section
variable {P : Program} {ng B : Nat} {w0 w : World} {G : Ctx} {s : St}

/-! ### rows out of cells -/
def chunk (n sz : Nat) (l : List AV) : List (List AV) :=
  match n with
  | 0 => []
  | n + 1 => l.take sz :: chunk n sz (l.drop sz)

theorem chunk_spec (sz : Nat) : ∀ (n : Nat) (l : List AV), l.length = n * sz → (chunk n sz l).flatten = l ∧ (chunk n sz l).length = n ∧ ∀ e, e ∈ chunk n sz l → e.length = sz
  | 0, l, h => by
    have : l = [] := List.eq_nil_of_length_eq_zero (by simpa using h)
    subst this
    exact ⟨rfl, rfl, fun e he => by simp [chunk] at he⟩
  | n + 1, l, h => by
    rw [Nat.add_mul] at h
    obtain ⟨h1, h2, h3⟩ := chunk_spec sz n (l.drop sz) (by rw [List.length_drop]; omega)
    refine ⟨?_, by simp [chunk, h2], fun e he => ?_⟩
    · simp only [chunk, List.flatten_cons, h1, List.take_append_drop]
    · simp only [chunk, List.mem_cons] at he
      rcases he with rfl | he
      · rw [List.length_take]; omega
      · exact h3 e he

theorem rep_length {α : Type} (z : List α) (n : Nat) : (List.replicate n z).flatten.length = n * z.length := by
  rw [List.length_flatten]; simp

theorem rep_get {α : Type} (z : List α) : ∀ (n j : Nat), j < n * z.length → (List.replicate n z).flatten[j]? = z[j % z.length]?
  | 0, j, h => by simp at h
  | n + 1, j, h => by
    rw [List.replicate_succ, List.flatten_cons]
    by_cases hj : j < z.length
    · rw [List.getElem?_append_left hj, Nat.mod_eq_of_lt hj]
    · rw [List.getElem?_append_right (by omega), rep_get z n (j - z.length) (by rw [Nat.add_mul] at h; omega)]
      congr 1
      exact (Nat.mod_eq_sub_mod (by omega)).symm

theorem zeros_VRL {zc : List AV} {z : Array Value} (hz : VRL G w zc z.toList) (n : Nat) (hpos : n = 0 ∨ 0 < z.size) :
    VRL G w (List.replicate n zc).flatten ((Array.range (n * z.size)).map (fun i => z[i % z.size]!)).toList := by
  have hzl : zc.length = z.size := by rw [← Array.length_toList]; exact hz.length
  refine (VRL_iff _ _).2 ⟨by rw [rep_length, hzl]; simp, fun j c x hc hx => ?_⟩
  have hj : j < n * z.size := by
    have := (List.getElem?_eq_some_iff.1 hc).1
    rwa [rep_length, hzl] at this
  have hzpos : 0 < z.size := by
    rcases hpos with rfl | h
    · simp at hj
    · exact h
  rw [rep_get zc n j (by rw [hzl]; exact hj), hzl] at hc
  have hm : j % z.size < z.size := Nat.mod_lt _ hzpos
  obtain ⟨y, hy, hv⟩ := hz.get hc
  rw [Array.getElem?_toList] at hy hx
  have hx' : ((Array.range (n * z.size)).map (fun i => z[i % z.size]!))[j]? = some (z[j % z.size]!) := by
    rw [Array.getElem?_map, Array.getElem?_range, if_pos hj]
    rfl
  rw [hx'] at hx
  cases hx
  rw [getElem!_pos z (j % z.size) hm]
  rw [Array.getElem?_eq_getElem hm] at hy
  cases hy
  exact hv

/-! ### slices: literals, make -/
def eBuildSlice (P : Program) (s : St) (mu : Bool) (t : TypeId) (len : Nat) (parts : List (Nat × AV)) : Option (AV × St) :=
  match und P t with
  | some (.slice e) => match inf P e, zeroA P e with
    | some i, some z => match cellsOf z with
      | some zc => if zc.length ≠ i.size ∨ len * i.size > 2 ^ 24 then none else
        match fillA (fun k => some (k * i.size, i.size)) (List.replicate len zc).flatten parts with
        | some cs => if mu = true then some (.ms s.next 0 len len, s.push (.cells cs e)) else some (.sl (chunk len i.size cs) i.size (.own s.tok), s.row)
        | none => none
      | none => none
    | _, _ => none
  | _ => none

theorem fillA_length {place : Nat → Option (Nat × Nat)} : ∀ (l : List (Nat × AV)) (cells r : List AV), fillA place cells l = some r → r.length = cells.length
  | [], cells, r, h => by simp only [fillA] at h; cases h; rfl
  | (i, v) :: l, cells, r, h => by
    simp only [fillA] at h
    split at h
    · split at h
      · cases h
      · rw [fillA_length l _ r h, ow_length]
    · cases h

theorem eBuildSlice_sound (h : WRel ng B w0 G w s) {mu : Bool} {t : TypeId} {len : Nat} {parts : List (Nat × AV)} {xs : Array (Nat × Value)} (hp : PartsR G w parts xs.toList) {v : AV} {s' : St}
    (hq : eBuildSlice P s mu t len parts = some (v, s')) : Does P ng B w0 G w (do pure (.value (← Instr.buildSlice t len xs))) v s' := by
  unfold eBuildSlice at hq
  split at hq
  · rename_i e hd
    split at hq
    · rename_i i z hi hz
      split at hq
      · rename_i zc hzc
        split at hq
        · cases hq
        · rename_i hc
          simp only [not_or, ne_eq, Decidable.not_not, Nat.not_lt] at hc
          obtain ⟨hc1, hc2⟩ := hc
          split at hq
          · rename_i cs hcs
            obtain ⟨zv, z1, z2⟩ := zeroA_sound (P := P) (G := G) (w := w) hz
            have hzz := cellsOf_sound z2 hzc
            have hzsz : zv.cells.size = i.size := by rw [← Array.length_toList, ← hc1]; exact hzz.length.symm
            -- the zero row
            have hrow : ∃ zr : Array Value, ((len * i.size = 0 ∧ zr = #[]) ∨ (¬ len * i.size = 0 ∧ zr = zv.cells)) ∧
                VRL G w (List.replicate len zc).flatten ((Array.range (len * i.size)).map (zr[· % zr.size]!)).toList := by
              by_cases h0 : len * i.size = 0
              · refine ⟨#[], .inl ⟨h0, rfl⟩, ?_⟩
                have : (List.replicate len zc).flatten = [] := List.eq_nil_of_length_eq_zero (by rw [rep_length, hc1]; exact h0)
                rw [this, h0]
                simp [VRL]
              · refine ⟨zv.cells, .inr ⟨h0, rfl⟩, ?_⟩
                have := zeros_VRL hzz len (.inr (by rw [hzsz]; exact Nat.pos_of_ne_zero fun hh => h0 (by rw [hh, Nat.mul_zero])))
                rw [← hzsz]
                exact this
            obtain ⟨zr, hzr1, hzr2⟩ := hrow
            obtain ⟨r', g1, g2⟩ := fillA_sound parts xs.toList _ _ cs hp hzr2 hcs
            have hrun : (Instr.buildSlice t len xs).run P w = .ok (.slice (some ⟨w.heap.size, 0, none⟩) len len) (w.alloc (.cells r' e)) := by
              simp only [Instr.buildSlice, Sem.run_bind, r_und hd, r_size hi, Result.andThen_ok]
              rw [if_neg (by omega)]
              rcases hzr1 with ⟨h0, rfl⟩ | ⟨h0, rfl⟩
              · rw [if_pos h0]
                simp only [Sem.run_bind, Sem.run_pure, Result.andThen_ok]
                rw [g1]
                simp [newRow]
              · rw [if_neg h0]
                simp only [Sem.run_bind, Sem.run_pure, Result.andThen_ok, z1]
                rw [g1]
                simp [newRow]
            have hcl : cs.length = len * i.size := by rw [fillA_length _ _ _ hcs, rep_length, hc1]
            split at hq
            · cases hq
              rw [h.n]
              refine Does.of_new h (OR_cells g2 e) (VRL.hi cs _ g2) (.slice (some ⟨w.heap.size, 0, none⟩) len len) _ ?_ (by simp [VR, Ctx.new])
              simp [hrun]
            · cases hq
              obtain ⟨k1, k2, k3⟩ := chunk_spec i.size len cs hcl
              have hsz : r'.size = len * i.size := by rw [← Array.length_toList, ← hcl]; exact g2.length.symm
              obtain ⟨m1, m2, m3⟩ := h.row r' e (0, 0) (chunk len i.size cs) i.size r'.toList [] (by simp) k3 (by rw [k1]; exact g2) (fun j _ _ hh => absurd hh.2 (Nat.not_lt_zero _)) len (by rw [k2]; exact Nat.le_refl _) (by rw [hsz]; exact Nat.le_refl _)
              rw [k2] at m3
              exact ⟨.value _, _, _, _, by simp only [Sem.run_bind, hrun, Result.andThen_ok, Sem.run_pure], .inl rfl, m3, m1, m2⟩
          · cases hq
      · cases hq
    · cases hq
  · cases hq

def eMakeSlice (P : Program) (s : St) (t : TypeId) (l c : AV) : Option (AV × St) :=
  match und P t, l, c with
  | some (.slice e), .val (.int _ (.ofNat n)), .val (.int _ (.ofNat m)) => match inf P e, zeroA P e with
    | some i, some z => match cellsOf z with
      | some zc => if zc.length ≠ i.size ∨ n > m ∨ m > 1099511627776 ∨ i.bytes * m > 140737488355328 then none else
          some (.ms s.next 0 n m, s.push (.cells (List.replicate m zc).flatten e))
      | none => none
    | _, _ => none
  | _, _, _ => none

theorem wrap_small {n : Nat} (h : n ≤ 1099511627776) : IntKind.i64.wrap (n : Int) = n := IntWalk.i64_in _ (by omega)

theorem eMakeSlice_sound (h : WRel ng B w0 G w s) {t : TypeId} {l c v : AV} {a b : Value} {s' : St} (hl : VR G w l a) (hcv : VR G w c b) (hq : eMakeSlice P s t l c = some (v, s')) :
    Does P ng B w0 G w (do pure (.value (← Instr.makeSlice t a b))) v s' := by
  unfold eMakeSlice at hq
  split at hq
  · rename_i e k1 n k2 m hd
    simp only [VR] at hl hcv
    subst hl
    subst hcv
    split at hq
    · rename_i i z hi hz
      split at hq
      · rename_i zc hzc
        split at hq
        · cases hq
        · rename_i hc
          simp only [not_or, ne_eq, Decidable.not_not, Nat.not_lt] at hc
          obtain ⟨hc1, hc2, hc3, hc4⟩ := hc
          cases hq
          obtain ⟨zv, z1, z2⟩ := zeroA_sound (P := P) (G := G) (w := w) hz
          have hzz := cellsOf_sound z2 hzc
          have hzsz : zv.cells.size = i.size := by rw [← Array.length_toList, ← hc1]; exact hzz.length.symm
          have hrow : ∃ zr : Array Value, ((m * i.size = 0 ∧ zr = #[]) ∨ (¬ m * i.size = 0 ∧ zr = zv.cells)) ∧
              VRL G w (List.replicate m zc).flatten ((Array.range (m * i.size)).map (zr[· % zr.size]!)).toList := by
            by_cases h0 : m * i.size = 0
            · refine ⟨#[], .inl ⟨h0, rfl⟩, ?_⟩
              have : (List.replicate m zc).flatten = [] := List.eq_nil_of_length_eq_zero (by rw [rep_length, hc1]; exact h0)
              rw [this, h0]
              simp [VRL]
            · refine ⟨zv.cells, .inr ⟨h0, rfl⟩, ?_⟩
              have := zeros_VRL hzz m (.inr (by rw [hzsz]; exact Nat.pos_of_ne_zero fun hh => h0 (by rw [hh, Nat.mul_zero])))
              rw [← hzsz]
              exact this
          obtain ⟨zr, hzr1, hzr2⟩ := hrow
          have wn : IntKind.i64.wrap (Int.ofNat n) = (n : Int) := wrap_small (by omega)
          have wm : IntKind.i64.wrap (Int.ofNat m) = (m : Int) := wrap_small hc3
          rw [h.n]
          refine Does.of_new h (OR_cells hzr2 e) (VRL.hi _ _ hzr2) (.slice (some ⟨w.heap.size, 0, none⟩) n m) _ ?_ (by simp [VR, Ctx.new])
          have p48 : (2 : Int) ^ 48 = 281474976710656 := by simp
          have proom : roomBytes = 140737488355328 := by simp [roomBytes]
          have hb : ((i.bytes : Int) * (m : Int)) ≤ 140737488355328 := by
            have : ((i.bytes * m : Nat) : Int) ≤ ((140737488355328 : Nat) : Int) := Int.ofNat_le.2 hc4
            simpa using this
          have hcond : ¬ ((decide ((m : Int) < 0) || decide ((i.bytes : Int) * (m : Int) > 2 ^ 48) || decide ((n : Int) < 0) || decide ((n : Int) > (m : Int))) = true) := by
            rw [p48]
            simp only [Bool.or_eq_true, decide_eq_true_eq, not_or]
            refine ⟨⟨⟨by omega, by omega⟩, by omega⟩, by omega⟩
          have hroom : (askRoom (m * i.bytes)).run P w = .ok () w := by
            simp only [askRoom]
            rw [if_neg (by rw [proom, Nat.mul_comm]; omega)]
            rfl
          simp only [Instr.makeSlice, Sem.run_bind, r_und hd, r_info hi, Result.andThen_ok, asInt, asIntOf, Sem.run_pure, wn, wm]
          rw [if_neg (by simpa using hcond)]
          simp only [Sem.run_bind, Int.toNat_natCast, hroom, Result.andThen_ok, r_size hi]
          rcases hzr1 with ⟨h0, rfl⟩ | ⟨h0, rfl⟩
          · rw [if_pos h0]
            simp [newRow]
          · rw [if_neg h0]
            simp [newRow, z1]
      · cases hq
    · cases hq
  · cases hq

/-! ### ranging -/
def eRange (P : Program) (s : St) (t : TypeId) (x : AV) : Option (AV × St) :=
  match und P t, x with
  | some .string, .val (.string sv) => some (.ptr s.next 0, s.push (.siter sv 0))
  | some (.map _ _), .val (.map none) => some (.ptr s.next 0, s.push (.miter none 0 [] 0))
  | some (.map _ _), .map m => match s.get m with
    | .map _ ck => some (.ptr s.next 0, s.push (.miter (some m) ck [] ck))
    | _ => none
  | _, _ => none

theorem eRange_sound (h : WRel ng B w0 G w s) {t : TypeId} {x v : AV} {a : Value} {s' : St} (hx : VR G w x a) (hq : eRange P s t x = some (v, s')) :
    Does P ng B w0 G w (do pure (.value (← Instr.range t a))) v s' := by
  unfold eRange at hq
  split at hq
  · rename_i sv hd
    cases hq
    simp only [VR] at hx
    subst hx
    rw [h.n]
    refine Does.of_new h (o := .siter sv 0) (x := .stringIter sv 0) rfl (Nat.zero_le _) _ _ ?_ (new_ptr G w _ 0)
    simp [Instr.range, r_und hd]
  · rename_i k e hd
    cases hq
    simp only [VR] at hx
    subst hx
    rw [h.n]
    refine Does.of_new h (o := .miter none 0 [] 0) (x := .mapIter none 0 #[] 0) ⟨fun b hb => (by cases hb), rfl⟩ (Nat.zero_le _) _ _ ?_ (new_ptr G w _ 0)
    simp [Instr.range, r_und hd]
  · rename_i k e m hd
    split at hq
    · rename_i es ck hg
      cases hq
      simp only [VR] at hx
      obtain ⟨hm, rfl⟩ := hx
      obtain ⟨xs, hh, hes⟩ := h.mapAt hg
      have hget := run_getObj_eq (P := P) hh rfl
      rw [h.n]
      refine Does.of_new h (o := .miter (some m) ck [] ck) (x := .mapIter (some (G.ρ m)) ck #[] ck) ⟨fun b hb => (by cases hb; exact hm), rfl⟩ hm _ _ ?_ (new_ptr G w _ 0)
      simp [Instr.range, r_und hd, hget]
    · cases hq
  · cases hq

end
end Go.AVM

namespace Go.AVM
open Go.RowKit

section
variable {P : Program} {ng B : Nat} {w0 w : World} {G : Ctx} {s : St}

theorem gather {b : Nat} : ∀ (l : List AV) (o : Nat), (∀ (j : Nat) (c : AV), l[j]? = some c → ∃ x, w.cell? ⟨b, o + j, none⟩ = some x ∧ VR G w c x) →
    ∃ xs : List Value, VRL G w l xs ∧ ∀ (j : Nat) (v : Value), xs[j]? = some v → w.cell? ⟨b, o + j, none⟩ = some v
  | [], o, _ => ⟨[], by simp [VRL], fun j v hj => by simp at hj⟩
  | c :: l, o, h => by
    obtain ⟨x, hx, hv⟩ := h 0 c rfl
    obtain ⟨xs, h1, h2⟩ := gather l (o + 1) (fun j d hd => by
      have := h (j + 1) d (by simpa using hd)
      rwa [show o + (j + 1) = o + 1 + j by omega] at this)
    refine ⟨x :: xs, by simp only [VRL]; exact ⟨x, xs, rfl, hv, h1⟩, fun j v hj => ?_⟩
    cases j with
    | zero => simp at hj; subst hj; exact hx
    | succ j =>
      have := h2 j v (by simpa using hj)
      rwa [show o + 1 + j = o + (j + 1) by omega] at this

/-- The elements of what is appended. -/
def srcEls (s : St) (size : Nat) : AV → Option (List (List AV))
  | .sl es sz _ => if sz = size ∨ es = [] then some es else none
  | .ms b off n _ => match s.get b with
    | .cells cs _ => if off + n * size ≤ cs.length then some (chunk n size ((cs.drop off).take (n * size))) else none
    | _ => none
  | .val (.string sv) => if size = 1 then some (sv.data.toList.map fun u => [.val (.int .u8 u.toNat)]) else none
  | _ => none

theorem ElR.cells {b o sz : Nat} {es : List (List AV)} (h : ElR G w b o sz es) : ∀ (j : Nat) (c : AV), es.flatten[j]? = some c → G.I b (o + j) ∧ ∃ x, w.cell? ⟨b, o + j, none⟩ = some x ∧ VR G w c x := by
  intro j c hj
  have hl := h.lens
  have hjl : j < es.length * sz := by
    have := (List.getElem?_eq_some_iff.1 hj).1
    rwa [flat_length sz es hl] at this
  have hsz : 0 < sz := by
    rcases Nat.eq_zero_or_pos sz with rfl | hh
    · simp at hjl
    · exact hh
  have hi : j / sz < es.length := (Nat.div_lt_iff_lt_mul hsz).2 hjl
  obtain ⟨h1, h2⟩ := (ElR_iff sz es b o).1 h (j / sz) es[j / sz] (List.getElem?_eq_getElem hi)
  have hm : j % sz < es[j / sz].length := by rw [h1]; exact Nat.mod_lt _ hsz
  have hf := flat_get sz es hl (j / sz) es[j / sz] (j % sz) es[j / sz][j % sz] (List.getElem?_eq_getElem hi) (List.getElem?_eq_getElem hm)
  have hdm : j / sz * sz + j % sz = j := by rw [Nat.mul_comm]; exact Nat.div_add_mod j sz
  rw [hdm, hj] at hf
  cases hf
  have := (ClR_iff _ b _).1 h2 (j % sz) _ (List.getElem?_eq_getElem hm)
  rwa [show o + j / sz * sz + j % sz = o + j by omega] at this

theorem srcEls_sound (h : WRel ng B w0 G w s) {size : Nat} {x : AV} {a : Value} {els : List (List AV)} (hx : VR G w x a) (hq : srcEls s size x = some els) :
    (∀ e, e ∈ els → e.length = size) ∧ (Builtin.lenOf a).run P w = .ok els.length w ∧ ∃ ys : Array Value, (∀ w' : World, w'.heap = w.heap → (Builtin.firstCells size els.length a).run P w' = .ok ys w') ∧ VRL G w els.flatten ys.toList := by
  unfold srcEls at hq
  split at hq
  · rename_i es sz tk
    split at hq
    · rename_i hs
      obtain rfl : es = els := by simpa using hq
      simp only [VR] at hx
      rcases hx with ⟨rfl, rfl, _⟩ | ⟨_, b, o, cap, rfl, _, _, hel, _⟩
      · exact ⟨fun e he => by simp at he, by simp [Builtin.lenOf], #[], fun w' _ => by simp [Builtin.firstCells], by simp [VRL]⟩
      · have hl : ∀ e, e ∈ es → e.length = size := fun e he => by
          rcases hs with rfl | rfl
          · exact hel.lens e he
          · simp at he
        refine ⟨hl, by simp [Builtin.lenOf], ?_⟩
        obtain ⟨xs, h1, h2⟩ := gather (b := b) es.flatten o (fun j c hj => (hel.cells j c hj).2)
        have hxl : xs.length = es.length * size := by rw [← flat_length size es hl]; exact h1.length.symm
        refine ⟨xs.toArray, fun w' hw' => ?_, by simpa using h1⟩
        simp only [Builtin.firstCells]
        rw [← hxl]
        refine run_loadCells_list (P := P) w' ⟨b, o, none⟩ xs (fun j v hj => ?_)
        rw [addr_add]
        have := h2 j v hj
        simpa only [World.cell?, hw'] using this
    · cases hq
  · rename_i b off n cap
    split at hq
    · rename_i cs el hg
      split at hq
      · rename_i hn
        cases hq
        simp only [VR] at hx
        obtain ⟨_, rfl⟩ := hx
        obtain ⟨c, fz, g1, g2, g3, g4⟩ := h.cells hg
        have hlen : ((cs.drop off).take (n * size)).length = n * size := by rw [List.length_take, List.length_drop, Nat.min_eq_left (by omega)]
        obtain ⟨k1, k2, k3⟩ := chunk_spec size n _ hlen
        refine ⟨k3, by simp [Builtin.lenOf, k2], ?_⟩
        obtain ⟨xs, h1, h2⟩ := gather (b := G.ρ b) ((cs.drop off).take (n * size)) off (fun j c hj => by
          rw [List.getElem?_take] at hj
          split at hj
          · rw [List.getElem?_drop] at hj
            obtain ⟨x, hx, hv⟩ := g4 (off + j) c hj
            exact ⟨x, by rwa [Nat.zero_add] at hx, hv⟩
          · cases hj)
        have hxl : xs.length = n * size := by rw [← hlen]; exact h1.length.symm
        rw [k1, k2]
        refine ⟨xs.toArray, fun w' hw' => ?_, by simpa using h1⟩
        simp only [Builtin.firstCells]
        rw [← hxl]
        refine run_loadCells_list (P := P) w' ⟨G.ρ b, off, none⟩ xs (fun j v hj => ?_)
        rw [addr_add]
        have := h2 j v hj
        simpa only [World.cell?, hw'] using this
      · cases hq
    · cases hq
  · rename_i sv
    split at hq
    · rename_i hs
      cases hq
      simp only [VR] at hx
      subst hx
      subst hs
      refine ⟨fun e he => by simp at he; obtain ⟨u, _, rfl⟩ := he; rfl, by rw [List.length_map, Array.length_toList]; rfl, (sv.data.map fun u => .int .u8 u.toNat), fun w' _ => ?_, ?_⟩
      · have : sv.extract 0 (sv.data.toList.map fun u => [AV.val (.int .u8 u.toNat)]).length = sv := by
          simp only [List.length_map, Array.length_toList]
          exact ByteArray.extract_zero_size
        simp only [Builtin.firstCells, this, Sem.run_pure]
      · rw [Array.toList_map]
        generalize sv.data.toList = l
        induction l with
        | nil => simp [VRL]
        | cons u l ih =>
          simp only [List.map_cons, List.flatten_cons, List.singleton_append, VRL]
          exact ⟨_, _, rfl, by simp [VR], ih⟩
    · cases hq
  · cases hq

theorem run_val {f : Sem Value} {y : Value} {w' : World} (h : f.run P w = .ok y w') : (do pure (Next.value (← f)) : Sem Next).run P w = .ok (.value y) w' := by
  simp only [Sem.run_bind, h, Result.andThen_ok, Sem.run_pure]

theorem Does.quiet (h : WRel ng B w0 G w s) {f : Sem Value} {y : Value} {v : AV} (hr : f.run P w = .ok y w) (hv : VR G w v y) : Does P ng B w0 G w (do pure (.value (← f))) v s :=
  ⟨_, y, w, G, run_val hr, .inl rfl, hv, Ext.refl _ _, h⟩

theorem growBy_le (newLen : Nat) : ∀ (r c : Nat), c < newLen → Builtin.growBy newLen r c ≤ newLen + (newLen + 768) / 4
  | 0, c, h => by simp only [Builtin.growBy]; omega
  | r + 1, c, h => by
    simp only [Builtin.growBy]
    rw [if_neg (by omega)]
    by_cases h2 : c + (c + 768) / 4 < newLen
    · exact growBy_le newLen r _ h2
    · cases r with
      | zero => simp only [Builtin.growBy]; omega
      | succ r => simp only [Builtin.growBy]; rw [if_pos (by omega)]; omega

theorem nextcap_le {need cap : Nat} (h : cap < need) : Builtin.nextslicecap need cap ≤ 2 * need + 192 := by
  unfold Builtin.nextslicecap
  split
  · omega
  · split
    · omega
    · have := growBy_le need 4 cap h
      omega

/-- append where it grows: the new row. -/
theorem run_append_grow' {ts : Array TypeId} {t0 t1 e : TypeId} {i : TypeInfo} {d1 : TypeDesc} (ht : ts[0]? = some t0) (ht1 : ts[1]? = some t1) (hd : und P t0 = some (.slice e)) (hd1 : und P t1 = some d1)
    (hni : (∃ e1, d1 = .slice e1) ∨ d1 = .string) (hi : inf P e = some i) {z : Value} (hz : i.zero = some z) (hb : i.bytes ≤ 4096) {base : Option Addr} {n cap : Nat} {x : Value} {k : Nat} (hk : n + k ≤ 1073741824) (hg : cap < n + k)
    {old new : Array Value} (hlen : (Builtin.lenOf x).run P w = .ok k w) (hold : ∀ w' : World, w'.heap = w.heap → (Builtin.firstCells i.size n (.slice base n cap)).run P w' = .ok old w') (hnew : ∀ w' : World, w'.heap = w.heap → (Builtin.firstCells i.size k x).run P w' = .ok new w') (ty : TypeId) :
    ∃ cp, n + k ≤ cp ∧ (Builtin.append_ ts ty #[.slice base n cap, x]).run P w = .ok (.slice (some ⟨w.heap.size, 0, none⟩) (n + k) cp) (w.drew.alloc (.cells (old ++ new ++ Builtin.zeroCells z.cells (cp - (n + k))) e)) := by
  refine ⟨grownCap w (n + k) cap e, grownCap_ge w (n + k) cap e, ?_⟩
  have hcap := nextcap_le hg
  have hmul : Builtin.nextslicecap (n + k) cap * i.bytes ≤ (2 * (n + k) + 192) * 4096 := Nat.mul_le_mul hcap hb
  have h48 : ¬ (281474976710656 < Builtin.nextslicecap (n + k) cap * i.bytes) := by omega
  have h63' : ¬ (9223372036854775807 < ((n : Int) + (k : Int))) := by omega
  have hn : ¬ (n + k ≤ cap) := by omega
  have hro := hold w.drew rfl
  have hrn := hnew w.drew rfl
  have hroom : ∀ m, (askRoom m).run P w.drew = .ok () w.drew := by
    intro m
    simp only [askRoom]
    split <;> rfl
  rcases hni with ⟨e1, rfl⟩ | rfl <;>
    simp [Builtin.append_, ht, ht1, r_und hd, r_und hd1, r_size hi, r_info hi, hlen, hn, h63', h48, Question.forced, hroom, hro, hrn, r_zero hi hz, newRow, grownCap]

end
end Go.AVM

namespace Go.AVM
open Go.RowKit

section
variable {P : Program} {ng B : Nat} {w0 w : World} {G : Ctx} {s : St}

theorem run_append_in {ts : Array TypeId} {t0 t1 e : TypeId} {i : TypeInfo} {d1 : TypeDesc} (ht : ts[0]? = some t0) (ht1 : ts[1]? = some t1) (hd : und P t0 = some (.slice e)) (hd1 : und P t1 = some d1)
    (hni : (∃ e1, d1 = .slice e1) ∨ d1 = .string) (hi : inf P e = some i) {b o n cap k : Nat} {x : Value} (hg : n + k ≤ cap) {new : Array Value}
    (hlen : (Builtin.lenOf x).run P w = .ok k w) (hnew : (Builtin.firstCells i.size k x).run P w = .ok new w)
    {c : Array Value} {el : TypeId} {fz : Nat × Nat} (hc : w.heap[b]? = some (.cells c el fz)) (hsz : o + n * i.size + new.size ≤ c.size)
    (hfz : ∀ j, j < c.size → o + n * i.size ≤ j → ¬ (fz.1 ≤ j ∧ j < fz.2)) (hone : ∀ u, u ∈ new.toList → valOne u = true) (ty : TypeId) :
    (Builtin.append_ ts ty #[.slice (some ⟨b, o, none⟩) n cap, x]).run P w = .ok (.slice (some ⟨b, o, none⟩) (n + k) cap) (w.putCells b (o + n * i.size) new.toList) := by
  have hst := run_storeCells_at' (P := P) b (o + n * i.size) new.toList 0 w c el fz hc (by simpa using hsz) (by simpa using hfz) hone
  simp only [Nat.add_zero] at hst
  rcases hni with ⟨e1, rfl⟩ | rfl <;>
    simp [Builtin.append_, ht, ht1, r_und hd, r_und hd1, r_size hi, r_info hi, hlen, hg, hnew, addr_add, hst]

theorem run_append_zero {ts : Array TypeId} {t0 t1 e : TypeId} {i : TypeInfo} {d1 : TypeDesc} (ht : ts[0]? = some t0) (ht1 : ts[1]? = some t1) (hd : und P t0 = some (.slice e)) (hd1 : und P t1 = some d1)
    (hni : (∃ e1, d1 = .slice e1) ∨ d1 = .string) (hi : inf P e = some i) {base : Option Addr} {n cap : Nat} {x : Value} (hg : n ≤ cap)
    (hlen : (Builtin.lenOf x).run P w = .ok 0 w) (hnew : (Builtin.firstCells i.size 0 x).run P w = .ok #[] w) (ty : TypeId) :
    (Builtin.append_ ts ty #[.slice base n cap, x]).run P w = .ok (.slice base n cap) w := by
  cases base <;> rcases hni with ⟨e1, rfl⟩ | rfl <;>
    simp [Builtin.append_, ht, ht1, r_und hd, r_und hd1, r_size hi, r_info hi, hlen, hg, hnew, storeCells]

def strOrSl : TypeDesc → Bool
  | .slice _ => true
  | .string => true
  | _ => false

def eAppend (P : Program) (ng : Nat) (s : St) (ts : Array TypeId) (x y : AV) : Option (AV × St) :=
  match ts[0]?, ts[1]? with
  | some t0, some t1 => match und P t0, und P t1 with
    | some (.slice e), some d1 => match inf P e, zeroA P e with
      | some i, some z => match cellsOf z, srcEls s i.size y with
        | some zc, some els =>
          if strOrSl d1 = false ∨ i.bytes > 4096 ∨ zc.length ≠ i.size ∨ els.flatten.all one = false then none else
          match x with
          | .sl es sz tk => match els with
            | [] => some (.sl es sz tk, s)
            | _ => if es.length + els.length > 1073741824 then none else
              match tk with
              | .nil => if es.isEmpty = true then some (.sl els i.size (.own s.tok), s.row) else none
              | .own r => if sz = i.size ∧ s.live.contains r = true then some (.sl (es ++ els) i.size (.own s.tok), s.retok r) else none
              | .no => none
          | .ms b off n cap => match s.get b with
            | .cells cs el => if b < ng ∨ n + els.length > 1073741824 ∨ n > cap then none else
              if n + els.length ≤ cap then
                (if off + (n + els.length) * i.size ≤ cs.length then some (.ms b off (n + els.length) cap, s.store b (off + n * i.size) cs el els.flatten) else none)
              else (if off + n * i.size ≤ cs.length then some (.sl (chunk n i.size ((cs.drop off).take (n * i.size)) ++ els) i.size (.own s.tok), s.row) else none)
            | _ => none
          | _ => none
        | _, _ => none
      | _, _ => none
    | _, _ => none
  | _, _ => none

theorem zeroA_info {t : TypeId} {v : AV} {i : TypeInfo} (h : zeroA P t = some v) (hi : inf P t = some i) : ∃ z, i.zero = some z ∧ VR G w v z := by
  unfold zeroA at h
  rw [hi] at h
  simp only at h
  split at h
  · rename_i z hz
    exact ⟨z, hz, fromV_VR z v h⟩
  · cases h

/-- Behind a growth: the new row. -/
theorem Does.of_grow (h : WRel ng B w0 G w s) {f : Sem Next} {els : List (List AV)} {size : Nat} {ys zs : List Value} {e : TypeId} {xs : Array Value} {cp : Nat}
    (hl : ∀ d, d ∈ els → d.length = size) (hv : VRL G w els.flatten ys) (hxs : xs.toList = ys ++ zs) (hcp : els.length ≤ cp) (hsz : cp * size ≤ xs.size)
    (hr : f.run P w = .ok (.value (.slice (some ⟨w.heap.size, 0, none⟩) els.length cp)) (w.drew.alloc (.cells xs e))) {live : List Nat} (hlive : (s.tok :: live).Sublist (s.tok :: s.live)) :
    Does P ng B w0 G w f (.sl els size (.own s.tok)) { s with tok := s.tok + 1, live := s.tok :: live } := by
  have hdr : WRel ng B w0 G w.drew s := h.draw (w.drawn + 1)
  have hex : Ext G w G w.drew := Ext.heap rfl
  obtain ⟨m1, m2, m3⟩ := hdr.row xs e (0, 0) els size ys zs hxs hl (VRL.ext hex _ _ hv) (fun j _ _ hh => absurd hh.2 (Nat.not_lt_zero _)) cp hcp hsz
  exact ⟨_, _, _, _, hr, .inl rfl, m3, hex.trans m1, m2.unlive hlive⟩

theorem size_zeros (z : Array Value) (n : Nat) : (Builtin.zeroCells z n).size = n * z.size := by simp [Builtin.zeroCells]

theorem eAppend_sound (h : WRel ng B w0 G w s) {ts : Array TypeId} {ty : TypeId} {x y v : AV} {a b : Value} {s' : St} (hx : VR G w x a) (hy : VR G w y b) (hq : eAppend P ng s ts x y = some (v, s')) :
    Does P ng B w0 G w (do pure (.value (← Builtin.append_ ts ty #[a, b]))) v s' := by
  unfold eAppend at hq
  split at hq
  · rename_i t0 t1 ht ht1
    split at hq
    · rename_i e d1 hd hd1
      split at hq
      · rename_i i z hi hz
        split at hq
        · rename_i zc els hzc hels
          split at hq
          · cases hq
          · rename_i hc
            simp only [not_or, Nat.not_lt, ne_eq, Decidable.not_not, gt_iff_lt] at hc
            obtain ⟨hc1, hc2, hc3, hc4⟩ := hc
            have hni : (∃ e1, d1 = .slice e1) ∨ d1 = .string := by
              cases d1 <;> first | (simp [strOrSl] at hc1; done) | exact .inl ⟨_, rfl⟩ | exact .inr rfl
            obtain ⟨zv, hzi, hzv⟩ := zeroA_info (P := P) (G := G) (w := w) hz hi
            have hzsz : zv.cells.size = i.size := by rw [← Array.length_toList, ← hc3]; exact (cellsOf_sound hzv hzc).length.symm
            obtain ⟨hl, hlen, ys, hys', hyv⟩ := srcEls_sound (P := P) h hy hels
            have hysz : ys.size = els.length * i.size := by rw [← Array.length_toList, ← flat_length i.size els hl]; exact hyv.length.symm
            have hyone : ∀ u, u ∈ ys.toList → valOne u = true := by
              intro u hu
              obtain ⟨j, hj⟩ := List.getElem?_of_mem hu
              have hjl : j < els.flatten.length := by
                rw [hyv.length]; exact (List.getElem?_eq_some_iff.1 hj).1
              obtain ⟨y', hy1, hy2⟩ := hyv.get (List.getElem?_eq_getElem hjl)
              rw [hj] at hy1
              cases hy1
              have hall : els.flatten.all one = true := by cases hh : els.flatten.all one <;> simp_all
              exact (one_sound hy2 (List.all_eq_true.1 hall _ (List.getElem_mem hjl))).1
            have hys := hys' w rfl
            split at hq
            · rename_i es sz tk
              split at hq
              · cases hq
                have hys0 : ys = #[] := by
                  have : ys.size = 0 := by rw [hysz]; simp
                  exact Array.eq_empty_of_size_eq_zero this
                subst hys0
                simp only [VR] at hx
                rcases hx with ⟨rfl, rfl, htk⟩ | ⟨htk, bk, o, cap, rfl, hle, hrest⟩
                · have := run_append_zero (P := P) (w := w) ht ht1 hd hd1 hni hi (base := none) (Nat.le_refl 0) hlen hys ty
                  exact Does.quiet h this (by simp [VR, htk])
                · have := run_append_zero (P := P) (w := w) ht ht1 hd hd1 hni hi (base := some ⟨bk, o, none⟩) hle hlen hys ty
                  exact Does.quiet h this (by simp only [VR]; exact .inr ⟨htk, bk, o, cap, rfl, hle, hrest⟩)
              · rename_i hne
                have hpos : 0 < els.length := by
                  cases els with
                  | nil => exact absurd rfl (hne ·)
                  | cons _ _ => simp
                split at hq
                · cases hq
                · rename_i hsmall
                  split at hq
                  · split at hq
                    · rename_i hemp
                      cases hq
                      have hes : es = [] := by simpa using hemp
                      subst hes
                      simp only [VR] at hx
                      rcases hx with ⟨_, rfl, _⟩ | ⟨htk, _⟩
                      · obtain ⟨cp, hcp, hrun⟩ := run_append_grow' (P := P) (w := w) ht ht1 hd hd1 hni hi hzi hc2 (base := none) (n := 0) (cap := 0) (k := els.length) (by simp at hsmall; omega) (by omega) (old := #[]) hlen
                          (fun w' _ => by simp [Builtin.firstCells]) hys' ty
                        simp only [Nat.zero_add, Array.empty_append] at hrun hcp
                        refine Does.of_grow h (ys := ys.toList) (zs := (Builtin.zeroCells zv.cells (cp - els.length)).toList) (cp := cp) hl hyv (by rw [Array.toList_append]) hcp ?_ (run_val hrun) (List.Sublist.refl _)
                        rw [Array.size_append, hysz, size_zeros, hzsz, ← Nat.add_mul]
                        rw [show els.length + (cp - els.length) = cp by omega]
                        exact Nat.le_refl _
                      · exact absurd rfl htk
                    · cases hq
                  · rename_i r
                    split at hq
                    · rename_i hr
                      cases hq
                      obtain ⟨hsz, hrl⟩ := hr
                      subst hsz
                      have hrmem : r ∈ s.live := by simpa using hrl
                      have hx0 := hx
                      simp only [VR] at hx
                      rcases hx with ⟨_, _, htk⟩ | ⟨_, bk, o, cap, rfl, hle, ⟨c, el, fz, hh, hcs⟩, hel, hτ⟩
                      · rcases htk with htk | htk <;> cases htk
                      · obtain ⟨hrM, hτ⟩ := hτ r rfl
                        by_cases hroom : es.length + els.length ≤ cap
                        · obtain ⟨_, _, _, ⟨c0, el0, fz0, h4, h5⟩, _⟩ := h.live r hrmem
                          rw [hτ] at h4 h5
                          have hce : some (Obj.cells c el fz) = some (Obj.cells c0 el0 fz0) := hh.symm.trans h4
                          cases hce
                          have hbound : o + es.length * i.size + ys.size ≤ c.size := by
                            have := Nat.mul_le_mul_right i.size hroom
                            rw [Nat.add_mul] at this
                            rw [hysz]; omega
                          have hrun := run_append_in (P := P) (w := w) ht ht1 hd hd1 hni hi (b := bk) (o := o) hroom hlen hys hh hbound (fun j hj hj2 => h5 j hj2 hj) hyone ty
                          obtain ⟨g1, g2⟩ := h.appendIn hrmem hτ hh hyv (by simpa using hbound)
                          have g3 := VR.appendIn hx0 hyv hl hroom g1
                          have hlen2 : ys.toList.length = ys.size := Array.length_toList
                          rw [← h.m] at g3
                          exact ⟨_, _, _, _, run_val hrun, .inl rfl, g3, g1, g2⟩
                        · obtain ⟨xs, k1, k2⟩ := gather (b := bk) es.flatten o (fun j c hj => (hel.cells j c hj).2)
                          have hlo := hel.lens
                          have hxl : xs.length = es.length * i.size := by rw [← flat_length i.size es hlo]; exact k1.length.symm
                          have hold : ∀ w' : World, w'.heap = w.heap → (Builtin.firstCells i.size es.length (.slice (some ⟨bk, o, none⟩) es.length cap)).run P w' = .ok xs.toArray w' := by
                            intro w' hw'
                            simp only [Builtin.firstCells]
                            rw [← hxl]
                            refine run_loadCells_list (P := P) w' ⟨bk, o, none⟩ xs (fun j v hj => ?_)
                            rw [addr_add]
                            have := k2 j v hj
                            simpa only [World.cell?, hw'] using this
                          obtain ⟨cp, hcp, hrun⟩ := run_append_grow' (P := P) (w := w) ht ht1 hd hd1 hni hi hzi hc2 (k := els.length) (by omega) (by omega) hlen hold hys' ty
                          have hll : (es ++ els).length = es.length + els.length := List.length_append
                          have hlv : ∀ d, d ∈ es ++ els → d.length = i.size := fun d hd => by
                            rcases List.mem_append.1 hd with hd | hd
                            · exact hlo d hd
                            · exact hl d hd
                          refine Does.of_grow h (xs := xs.toArray ++ ys ++ Builtin.zeroCells zv.cells (cp - (es.length + els.length))) (els := es ++ els) (ys := xs ++ ys.toList) (zs := (Builtin.zeroCells zv.cells (cp - (es.length + els.length))).toList) (cp := cp) hlv ?_ (by simp) (by rw [hll]; exact hcp) ?_ (by rw [hll]; exact run_val hrun) (List.Sublist.cons_cons _ List.erase_sublist)
                          · rw [List.flatten_append]; exact k1.append hyv
                          · rw [Array.size_append, Array.size_append, hysz, size_zeros, hzsz, List.size_toArray, hxl, ← Nat.add_mul, ← Nat.add_mul]
                            rw [show es.length + els.length + (cp - (es.length + els.length)) = cp by omega]
                            exact Nat.le_refl _
                    · cases hq
                  · cases hq
            · rename_i bk off n cap
              split at hq
              · rename_i cs el hg
                split at hq
                · cases hq
                · rename_i hcc
                  simp only [not_or, Nat.not_lt, gt_iff_lt] at hcc
                  obtain ⟨hb, hsmall, hncap⟩ := hcc
                  simp only [VR] at hx
                  obtain ⟨hbN, rfl⟩ := hx
                  obtain ⟨c, fz, g1, g2, g3, g4⟩ := h.cells hg
                  have hcl : c.size = cs.length := by rw [← Array.length_toList]; exact g2.length.symm
                  split at hq
                  · rename_i hroom
                    split at hq
                    · rename_i hfit
                      cases hq
                      have hbound : off + n * i.size + ys.size ≤ c.size := by
                        rw [hysz, hcl]; rw [Nat.add_mul] at hfit; omega
                      have hrun := run_append_in (P := P) (w := w) ht ht1 hd hd1 hni hi (b := G.ρ bk) (o := off) hroom hlen hys g1 hbound (fun j hj _ => g3 j hj) hyone ty
                      obtain ⟨k1, k2⟩ := h.store hb hg hyv (off := off + n * i.size)
                      exact ⟨_, _, _, _, run_val hrun, .inl rfl, by simp [VR, hbN], k1, k2⟩
                    · cases hq
                  · rename_i hroom
                    split at hq
                    · rename_i hfit
                      cases hq
                      have hlen3 : ((cs.drop off).take (n * i.size)).length = n * i.size := by rw [List.length_take, List.length_drop, Nat.min_eq_left (by omega)]
                      obtain ⟨q1, q2, q3⟩ := chunk_spec i.size n _ hlen3
                      obtain ⟨xs, k1, k2⟩ := gather (b := G.ρ bk) ((cs.drop off).take (n * i.size)) off (fun j c hj => by
                        rw [List.getElem?_take] at hj
                        split at hj
                        · rw [List.getElem?_drop] at hj
                          obtain ⟨x, hx, hv⟩ := g4 (off + j) c hj
                          exact ⟨x, by rwa [Nat.zero_add] at hx, hv⟩
                        · cases hj)
                      have hxl : xs.length = n * i.size := by rw [← hlen3]; exact k1.length.symm
                      have hold : ∀ w' : World, w'.heap = w.heap → (Builtin.firstCells i.size n (.slice (some ⟨G.ρ bk, off, none⟩) n cap)).run P w' = .ok xs.toArray w' := by
                        intro w' hw'
                        simp only [Builtin.firstCells]
                        rw [← hxl]
                        refine run_loadCells_list (P := P) w' ⟨G.ρ bk, off, none⟩ xs (fun j v hj => ?_)
                        rw [addr_add]
                        have := k2 j v hj
                        simpa only [World.cell?, hw'] using this
                      obtain ⟨cp, hcp, hrun⟩ := run_append_grow' (P := P) (w := w) ht ht1 hd hd1 hni hi hzi hc2 (k := els.length) (by omega) (by omega) hlen hold hys' ty
                      have hll : (chunk n i.size ((cs.drop off).take (n * i.size)) ++ els).length = n + els.length := by rw [List.length_append, q2]
                      have hlv : ∀ d, d ∈ chunk n i.size ((cs.drop off).take (n * i.size)) ++ els → d.length = i.size := fun d hd => by
                        rcases List.mem_append.1 hd with hd | hd
                        · exact q3 d hd
                        · exact hl d hd
                      refine Does.of_grow h (xs := xs.toArray ++ ys ++ Builtin.zeroCells zv.cells (cp - (n + els.length))) (els := chunk n i.size ((cs.drop off).take (n * i.size)) ++ els) (ys := xs ++ ys.toList) (zs := (Builtin.zeroCells zv.cells (cp - (n + els.length))).toList) (cp := cp) hlv ?_ (by simp) (by rw [hll]; exact hcp) ?_ (by rw [hll]; exact run_val hrun) (List.Sublist.refl _)
                      · rw [List.flatten_append, q1]; exact k1.append hyv
                      · rw [Array.size_append, Array.size_append, hysz, size_zeros, hzsz, List.size_toArray, hxl, ← Nat.add_mul, ← Nat.add_mul]
                        rw [show n + els.length + (cp - (n + els.length)) = cp by omega]
                        exact Nat.le_refl _
                    · cases hq
              · cases hq
            · cases hq
        · cases hq
      · cases hq
    · cases hq
  · cases hq

end
end Go.AVM

namespace Go.AVM
open Go.RowKit

section
variable {P : Program} {ng B : Nat} {w0 w : World} {G : Ctx} {s : St}

/-! ### []byte(s) -/
def eStrBytes (P : Program) (s : St) (src dst : TypeId) (x : AV) : Option (AV × St) :=
  match und P src, und P dst, x with
  | some .string, some (.slice e), .val (.string sv) => match und P e with
    | some (.int .u8) => some (.sl (sv.data.toList.map fun u => [.val (.int .u8 u.toNat)]) 1 (.own s.tok), s.row)
    | _ => none
  | _, _, _ => none

theorem bytes_VRL (l : List UInt8) : VRL G w (l.map fun u => [AV.val (.int .u8 u.toNat)]).flatten (l.map fun u => Value.int .u8 u.toNat) := by
  induction l with
  | nil => simp [VRL]
  | cons u l ih =>
    simp only [List.map_cons, List.flatten_cons, List.singleton_append, VRL]
    exact ⟨_, _, rfl, by simp [VR], ih⟩

theorem eStrBytes_sound (h : WRel ng B w0 G w s) {src dst : TypeId} {x v : AV} {a : Value} {s' : St} (hx : VR G w x a) (hq : eStrBytes P s src dst x = some (v, s')) :
    Does P ng B w0 G w (do pure (.value (← convert src dst a))) v s' := by
  unfold eStrBytes at hq
  split at hq
  · rename_i e sv hs hd
    split at hq
    · rename_i he
      cases hq
      simp only [VR] at hx
      subst hx
      have hsz : sv.data.size = sv.size := rfl
      have hcap : sv.size ≤ grownCap w sv.size 0 e := grownCap_ge w sv.size 0 e
      have hrun := run_bytes_of_string (P := P) w src dst e sv (und_sound hs) (und_sound hd) (und_sound he)
      have hbr : (bytesRow sv (grownCap w sv.size 0 e)).toList = (sv.data.toList.map fun u => Value.int .u8 u.toNat) ++ List.replicate (grownCap w sv.size 0 e - sv.size) (.int .u8 0) := by
        simp [bytesRow]
      have hbs : (bytesRow sv (grownCap w sv.size 0 e)).size = grownCap w sv.size 0 e := by
        rw [← Array.length_toList, hbr, List.length_append, List.length_map, Array.length_toList, hsz, List.length_replicate]; omega
      have hdr : WRel ng B w0 G w.drew s := h.draw (w.drawn + 1)
      have hex : Ext G w G w.drew := Ext.heap rfl
      have hlen : (sv.data.toList.map fun u => [AV.val (.int .u8 u.toNat)]).length = sv.size := by rw [List.length_map, Array.length_toList]; rfl
      obtain ⟨m1, m2, m3⟩ := hdr.row (bytesRow sv (grownCap w sv.size 0 e)) e ((bytesRow sv (grownCap w sv.size 0 e)).size, (bytesRow sv (grownCap w sv.size 0 e)).size + 1)
        (sv.data.toList.map fun u => [AV.val (.int .u8 u.toNat)]) 1 (sv.data.toList.map fun u => Value.int .u8 u.toNat) (List.replicate (grownCap w sv.size 0 e - sv.size) (.int .u8 0))
        hbr (fun d hd => by simp at hd; obtain ⟨u, _, rfl⟩ := hd; rfl) (bytes_VRL _) (fun j _ hj hh => by
          have := hh.1
          simp only at this
          omega) (grownCap w sv.size 0 e) (by rw [hlen]; exact hcap) (by rw [hbs]; omega)
      rw [hlen] at m3
      exact ⟨_, _, _, _, run_val hrun, .inl rfl, m3, hex.trans m1, m2⟩
    · cases hq
  · cases hq

end
end Go.AVM

namespace Go.AVM
open Go.RowKit

section
variable {P : Program} {ng B : Nat} {w0 w : World} {G : Ctx} {s : St}

/-! ### copy into a row -/
def eCopy (P : Program) (ng : Nat) (s : St) (ts : Array TypeId) (x y : AV) : Option (AV × St) :=
  match ts[0]? with
  | some t0 => match und P t0 with
    | some (.slice e) => match inf P e with
      | some i => match x, srcEls s i.size y with
        | .ms b off n cap, some els => match s.get b with
          | .cells cs el => if b < ng ∨ n < els.length ∨ off + els.length * i.size > cs.length ∨ els.flatten.all one = false then none else
              some (.val (.int .i64 els.length), s.store b off cs el els.flatten)
          | _ => none
        | _, _ => none
      | none => none
    | _ => none
  | none => none

theorem eCopy_sound (h : WRel ng B w0 G w s) {ts : Array TypeId} {ty : TypeId} {x y v : AV} {a b : Value} {s' : St} (hx : VR G w x a) (hy : VR G w y b) (hq : eCopy P ng s ts x y = some (v, s')) :
    Does P ng B w0 G w (do pure (.value (← Builtin.copy_ ts ty #[a, b]))) v s' := by
  unfold eCopy at hq
  split at hq
  · rename_i t0 ht
    split at hq
    · rename_i e hd
      split at hq
      · rename_i i hi
        split at hq
        · rename_i bk off n cap els hels
          split at hq
          · rename_i cs el hg
            split at hq
            · cases hq
            · rename_i hc
              simp only [not_or, Nat.not_lt, gt_iff_lt] at hc
              obtain ⟨hb, hn, hsz, hone⟩ := hc
              cases hq
              simp only [VR] at hx
              obtain ⟨hbN, rfl⟩ := hx
              obtain ⟨hl, hlen, ys, hys', hyv⟩ := srcEls_sound (P := P) h hy hels
              have hysz : ys.size = els.length * i.size := by rw [← Array.length_toList, ← flat_length i.size els hl]; exact hyv.length.symm
              have hyone : ∀ u, u ∈ ys.toList → valOne u = true := by
                intro u hu
                obtain ⟨j, hj⟩ := List.getElem?_of_mem hu
                have hjl : j < els.flatten.length := by
                  rw [hyv.length]; exact (List.getElem?_eq_some_iff.1 hj).1
                obtain ⟨y', hy1, hy2⟩ := hyv.get (List.getElem?_eq_getElem hjl)
                rw [hj] at hy1
                cases hy1
                have hall : els.flatten.all one = true := by cases hh : els.flatten.all one <;> simp_all
                exact (one_sound hy2 (List.all_eq_true.1 hall _ (List.getElem_mem hjl))).1
              obtain ⟨c, fz, g1, g2, g3, g4⟩ := h.cells hg
              have hcl : c.size = cs.length := by rw [← Array.length_toList]; exact g2.length.symm
              have hst := run_storeCells_at' (P := P) (G.ρ bk) off ys.toList 0 w c el fz g1 (by simp [hysz]; omega) (fun j hj _ => g3 j hj) hyone
              simp only [Nat.add_zero] at hst
              obtain ⟨k1, k2⟩ := h.store hb hg hyv (off := off)
              have hmin : Nat.min els.length n = els.length := Nat.min_eq_left hn
              have hrun : (Builtin.copy_ ts ty #[.slice (some ⟨G.ρ bk, off, none⟩) n cap, b]).run P w = .ok (.int .i64 els.length) (w.putCells (G.ρ bk) off ys.toList) := by
                simp [Builtin.copy_, ht, r_und hd, hlen, hmin, r_size hi, hys' w rfl, hst, goInt]
              exact ⟨_, _, _, _, run_val hrun, .inl rfl, by simp [VR], k1, k2⟩
          · cases hq
        · cases hq
      · cases hq
    · cases hq
  · cases hq

/-! ### the next of a range -/
theorem EnR.filter (p : Nat → Bool) : ∀ {es : List AE} {xs : List MapEntry}, EnR G w es xs → EnR G w (es.filter fun e => p e.born) (xs.filter fun e => p e.born)
  | [], xs, h => by
    simp only [EnR] at h
    subst h
    simp [EnR]
  | e :: es, xs, h => by
    obtain ⟨y, ys, rfl, h1, h2, h3, h4⟩ := h
    have ih := EnR.filter p h4
    simp only [List.filter_cons, h3]
    by_cases hp : p e.born = true
    · rw [if_pos hp, if_pos hp]
      exact ⟨y, _, rfl, h1, h2, h3, ih⟩
    · rw [if_neg hp, if_neg hp]
      exact ih

theorem EnR.append : ∀ {es fs : List AE} {xs ys : List MapEntry}, EnR G w es xs → EnR G w fs ys → EnR G w (es ++ fs) (xs ++ ys)
  | [], fs, xs, ys, h, k => by
    simp only [EnR] at h
    subst h
    simpa using k
  | e :: es, fs, xs, ys, h, k => by
    obtain ⟨y, zs, rfl, h1, h2, h3, h4⟩ := h
    exact ⟨y, zs ++ ys, rfl, h1, h2, h3, EnR.append h4 k⟩

theorem EnR.all (p : Nat → Bool) : ∀ {es : List AE} {xs : List MapEntry}, EnR G w es xs → (xs.all fun e => p e.born) = (es.all fun e => p e.born)
  | [], xs, h => by
    simp only [EnR] at h
    subst h
    rfl
  | e :: es, xs, h => by
    obtain ⟨y, ys, rfl, h1, h2, h3, h4⟩ := h
    simp only [List.all_cons, h3, EnR.all p h4]

def cands (es : List AE) (since : Nat) (seen : List Nat) : List (Option AE) :=
  let left := es.filter fun e => !seen.contains e.born
  let old := left.filter fun e => decide (e.born < since)
  let new := left.filter fun e => decide (e.born ≥ since)
  (if old.isEmpty then [none] else []) ++ (old ++ new).map some

def nextOf (s : St) (b m since : Nat) (seen : List Nat) (ck : Nat) : Option (Option AE) → M (AV × St)
  | some (some e) => .ret (.tup [.val (.bool true), e.key, e.val], (s.wmUp b (m + 1)).put b (.miter (some m) since (seen ++ [e.born]) ck))
  | some none => .ret (.tup [.val (.bool false)], s)
  | none => .fail

def mNext (ng : Nat) (s : St) (it : AV) (isStr : Bool) : M (AV × St) :=
  match it with
  | .ptr b 0 => if b < ng then .fail else
    match s.get b, isStr with
    | .siter sv pos, true => if pos < sv.size then
        .ret (.tup [.val (.bool true), .val (.int .i64 pos), .val (.int .i32 (Utf8.decode sv pos).1)], (s.wmUp b 0).put b (.siter sv (pos + (Utf8.decode sv pos).2)))
      else .ret (.tup [.val (.bool false)], s)
    | .miter none _ _ _, false => .ret (.tup [.val (.bool false)], s)
    | _, _ => .fail
  | _ => .fail

theorem toArray_contains (l : List Nat) (x : Nat) : l.toArray.contains x = l.contains x := by simp

theorem mNext_sound (h : WRel ng B w0 G w s) {it : AV} {isStr : Bool} {a : Value} {ty : TypeId} (hx : VR G w it a) {R : AV × St → Prop} (hq : (mNext ng s it isStr).all R) :
    ∃ v s', R (v, s') ∧ Does P ng B w0 G w (do pure (.value (← Instr.next a isStr ty))) v s' := by
  unfold mNext at hq
  split at hq
  · rename_i b
    split at hq
    · exact hq.elim
    · rename_i hng
      simp only [VR] at hx
      obtain ⟨hbN, rfl⟩ := hx
      split at hq
      · rename_i sv pos hg
        obtain ⟨o, h1, h2⟩ := h.obj b (by rw [hg]; simp)
        rw [hg] at h2
        have h2' : o = .stringIter sv pos := h2
        subst h2'
        have hget := run_getObj_eq (P := P) h1 rfl
        split at hq
        · rename_i hpos
          refine ⟨_, _, hq, Does.of_setObj h (by omega) (by rw [hg]; simp) h1 rfl (o := .siter sv (pos + (Utf8.decode sv pos).2)) (x := .stringIter sv (pos + (Utf8.decode sv pos).2)) rfl rfl
            (n := .value (.tuple #[.bool true, .int .i64 pos, .int .i32 (Utf8.decode sv pos).1])) (.inl rfl) ?_ (by simp [VR, VRL])⟩
          refine run_val ?_
          simp only [Instr.next, Sem.run_bind, hget, Result.andThen_ok]
          rw [if_pos hpos]
          simp only [Sem.run_bind, run_setObj_eq h1 rfl, Result.andThen_ok, Sem.run_pure, goInt]
        · rename_i hpos
          refine ⟨_, _, hq, Does.quiet h (y := .tuple #[.bool false]) ?_ (by simp [VR, VRL])⟩
          simp only [Instr.next, Sem.run_bind, hget, Result.andThen_ok]
          rw [if_neg hpos]
          rfl
      · rename_i since seen last hg
        obtain ⟨o, h1, h2⟩ := h.obj b (by rw [hg]; simp)
        rw [hg] at h2
        obtain ⟨_, h2'⟩ := h2
        have h2'' : o = .mapIter none since seen.toArray last := h2'
        subst h2''
        have hget := run_getObj_eq (P := P) h1 rfl
        refine ⟨_, _, hq, Does.quiet h (y := .tuple #[.bool false]) ?_ (by simp [VR, VRL])⟩
        simp only [Instr.next, Sem.run_bind, hget, Result.andThen_ok]
        rfl
      · exact hq.elim
  · exact hq.elim

end
end Go.AVM

namespace Go.AVM
open Go.RowKit

/-! ### the operations, all of them -/
def M.opt {α : Type} : Option α → M α
  | some a => .ret a
  | none => .fail

def M.bind {α β : Type} : M α → (α → M β) → M β
  | .fail, _ => .fail
  | .stop o, _ => .stop o
  | .ret a, f => f a
  | .pick n k, f => .pick n fun i => (k i).bind f

theorem M.all_bind {α β : Type} (f : α → M β) (R : β → Prop) : ∀ m : M α, (m.bind f).all R → m.all fun a => (f a).all R
  | .fail, h => h
  | .stop _, h => h
  | .ret a, h => h
  | .pick n k, h => fun i hi => M.all_bind f R (k i) (h i hi)

/-- Where it stopped. -/
def M.tell {α : Type} (o : Oper) : M α → M α
  | .fail => .stop o
  | m => m

theorem M.all_tell {α : Type} {o : Oper} {R : α → Prop} {m : M α} (h : (m.tell o).all R) : m.all R := by
  cases m <;> first | exact h | exact h.elim

/-- What the machine is: the program, how many package-level variables, the functions without a body, which rows are written later. -/
structure Mach where
  P : Program
  ng : Nat
  ext : FuncId → List AV → Option AV
  mu : FuncId → Tmp → Bool
  keep : FuncId → Nat → Option (List Tmp)
  pops : FuncId → Bool
  fuel : Nat
  frc : Bool
  σ : Nat → Value
  st : Nat → World → Prop
  ora : Oper → List AV → Option AV

def eop (T : Mach) (mu : Bool) (s : St) (o : Oper) (e : Operand → AV) : M (AV × St) :=
  match o.op with
  | .alloc el => .opt (eAlloc T.P s el)
  | .box el x => .opt (eBox s el (e x))
  | .store t a x => .opt (eStore T.P T.ng s t (e a) (e x))
  | .makeMap t r => .opt (eMakeMap s (r.map e))
  | .makeSlice t l c => .opt (eMakeSlice T.P s t (e l) (e c))
  | .mapUpdate t m k x => .opt (eMapUpdate T.P T.ng s t (e m) (e k) (e x))
  | .insert t m k x => .opt (eMapUpdate T.P T.ng s t (e m) (e k) (e x))
  | .mapEntry t m k => .opt (eMapEntry T.P T.ng s t (e m) (e k))
  | .entryStore t m st x => .opt (eEntryStore T.P T.ng s (e m) (e st) (e x))
  | .buildSlice t len parts => .opt (eBuildSlice T.P s mu t len (parts.toList.map fun p => (p.1, e p.2)))
  | .convert src dst x => .opt (eStrBytes T.P s src dst (e x))
  | .range t x => .opt (eRange T.P s t (e x))
  | .next it b => mNext T.ng s (e it) b
  | .call c => match c.callee with
    | .builtin .append => match c.args.toList.map e with
      | [x, y] => .opt (eAppend T.P T.ng s c.argTypes x y)
      | _ => .fail
    | .builtin .copy => match c.args.toList.map e with
      | [x, y] => .opt (eCopy T.P T.ng s c.argTypes x y)
      | _ => .fail
    | _ => .fail
  | _ => .fail

section
variable {T : Mach} {B : Nat} {w0 w : World} {G : Ctx} {s : St}

theorem opt_all {α : Type} {x : Option α} {R : α → Prop} (h : (M.opt x).all R) : ∃ a, x = some a ∧ R a := by
  cases x with
  | none => exact h.elim
  | some a => exact ⟨a, rfl, h⟩

theorem eop_sound (h : WRel T.ng B w0 G w s) {mu : Bool} {o : Oper} {e : Operand → AV} {e' : Operand → Value} (he : ∀ x, x ∈ o.op.operands → VR G w (e x) (e' x)) {R : AV × St → Prop}
    (hq : (eop T mu s o e).all R) : ∃ v s', R (v, s') ∧ Does T.P T.ng B w0 G w (execOp e' o) v s' := by
  unfold eop at hq
  split at hq
  · rename_i el ho
    obtain ⟨⟨v, s'⟩, h1, h2⟩ := opt_all hq
    exact ⟨v, s', h2, by simpa only [execOp, ho] using eAlloc_sound (P := T.P) h h1⟩
  · rename_i el x ho
    rw [ho] at he
    obtain ⟨⟨v, s'⟩, h1, h2⟩ := opt_all hq
    exact ⟨v, s', h2, by simpa only [execOp, ho] using eBox_sound (P := T.P) h (he x (by simp [Op.operands])) h1⟩
  · rename_i t a x ho
    rw [ho] at he
    obtain ⟨⟨v, s'⟩, h1, h2⟩ := opt_all hq
    exact ⟨v, s', h2, by simpa only [execOp, ho] using eStore_sound (P := T.P) h (he a (by simp [Op.operands])) (he x (by simp [Op.operands])) h1⟩
  · rename_i t r ho
    rw [ho] at he
    obtain ⟨⟨v, s'⟩, h1, h2⟩ := opt_all hq
    exact ⟨v, s', h2, by simpa only [execOp, ho] using eMakeMap_sound (P := T.P) h (OptR_map r fun y hy => he y (by subst hy; simp [Op.operands])) h1⟩
  · rename_i t l c ho
    rw [ho] at he
    obtain ⟨⟨v, s'⟩, h1, h2⟩ := opt_all hq
    exact ⟨v, s', h2, by simpa only [execOp, ho] using eMakeSlice_sound (P := T.P) h (he l (by simp [Op.operands])) (he c (by simp [Op.operands])) h1⟩
  · rename_i t m k x ho
    rw [ho] at he
    obtain ⟨⟨v, s'⟩, h1, h2⟩ := opt_all hq
    exact ⟨v, s', h2, by simpa only [execOp, ho] using eMapUpdate_sound (P := T.P) h (he m (by simp [Op.operands])) (he k (by simp [Op.operands])) (he x (by simp [Op.operands])) h1⟩
  · rename_i t m k x ho
    rw [ho] at he
    obtain ⟨⟨v, s'⟩, h1, h2⟩ := opt_all hq
    exact ⟨v, s', h2, by simpa only [execOp, ho] using eMapUpdate_sound (P := T.P) h (he m (by simp [Op.operands])) (he k (by simp [Op.operands])) (he x (by simp [Op.operands])) h1⟩
  · rename_i t m k ho
    rw [ho] at he
    obtain ⟨⟨v, s'⟩, h1, h2⟩ := opt_all hq
    exact ⟨v, s', h2, by simpa only [execOp, ho] using eMapEntry_sound (P := T.P) h (he m (by simp [Op.operands])) (he k (by simp [Op.operands])) h1⟩
  · rename_i t m st x ho
    rw [ho] at he
    obtain ⟨⟨v, s'⟩, h1, h2⟩ := opt_all hq
    exact ⟨v, s', h2, by simpa only [execOp, ho] using eEntryStore_sound (P := T.P) h (he m (by simp [Op.operands])) (he st (by simp [Op.operands])) (he x (by simp [Op.operands])) h1⟩
  · rename_i t len parts ho
    rw [ho] at he
    obtain ⟨⟨v, s'⟩, h1, h2⟩ := opt_all hq
    exact ⟨v, s', h2, by simpa only [execOp, ho] using eBuildSlice_sound (P := T.P) h (xs := parts.map fun p => (p.1, e' p.2)) (by rw [Array.toList_map]; exact PartsR_map _ fun x hx => he x (by simpa [Op.operands] using hx)) h1⟩
  · rename_i src dst x ho
    rw [ho] at he
    obtain ⟨⟨v, s'⟩, h1, h2⟩ := opt_all hq
    exact ⟨v, s', h2, by simpa only [execOp, ho] using eStrBytes_sound (P := T.P) h (he x (by simp [Op.operands])) h1⟩
  · rename_i t x ho
    rw [ho] at he
    obtain ⟨⟨v, s'⟩, h1, h2⟩ := opt_all hq
    exact ⟨v, s', h2, by simpa only [execOp, ho] using eRange_sound (P := T.P) h (he x (by simp [Op.operands])) h1⟩
  · rename_i it b ho
    rw [ho] at he
    obtain ⟨v, s', h1, h2⟩ := mNext_sound (P := T.P) (ty := o.type) h (he it (by simp [Op.operands])) hq
    exact ⟨v, s', h1, by simpa only [execOp, ho] using h2⟩
  · rename_i c ho
    rw [ho] at he
    split at hq
    · rename_i hb
      split at hq
      · rename_i x y hxy
        obtain ⟨⟨v, s'⟩, h1, h2⟩ := opt_all hq
        obtain ⟨ox, oy, hargs, rfl, rfl⟩ : ∃ ox oy, c.args.toList = [ox, oy] ∧ e ox = x ∧ e oy = y := by
          cases hl : c.args.toList with
          | nil => rw [hl] at hxy; cases hxy
          | cons a l =>
            cases l with
            | nil => rw [hl] at hxy; cases hxy
            | cons b l =>
              cases l with
              | nil => rw [hl] at hxy; simp at hxy; exact ⟨a, b, rfl, hxy.1, hxy.2⟩
              | cons _ _ => rw [hl] at hxy; simp at hxy
        have ha : c.args = #[ox, oy] := by cases hc : c.args; rw [hc] at hargs; simp at hargs; rw [hargs]
        refine ⟨v, s', h2, ?_⟩
        have := eAppend_sound (P := T.P) (ty := o.type) h (he ox (by simp [Op.operands, Call.operands, hb, ha])) (he oy (by simp [Op.operands, Call.operands, hb, ha])) h1
        simpa [execOp, ho, resolve, hb, ha, invoke, builtin] using this
      · exact hq.elim
    · rename_i hb
      split at hq
      · rename_i x y hxy
        obtain ⟨⟨v, s'⟩, h1, h2⟩ := opt_all hq
        obtain ⟨ox, oy, hargs, rfl, rfl⟩ : ∃ ox oy, c.args.toList = [ox, oy] ∧ e ox = x ∧ e oy = y := by
          cases hl : c.args.toList with
          | nil => rw [hl] at hxy; cases hxy
          | cons a l =>
            cases l with
            | nil => rw [hl] at hxy; cases hxy
            | cons b l =>
              cases l with
              | nil => rw [hl] at hxy; simp at hxy; exact ⟨a, b, rfl, hxy.1, hxy.2⟩
              | cons _ _ => rw [hl] at hxy; simp at hxy
        have ha : c.args = #[ox, oy] := by cases hc : c.args; rw [hc] at hargs; simp at hargs; rw [hargs]
        refine ⟨v, s', h2, ?_⟩
        have := eCopy_sound (P := T.P) (ty := o.type) h (he ox (by simp [Op.operands, Call.operands, hb, ha])) (he oy (by simp [Op.operands, Call.operands, hb, ha])) h1
        simpa [execOp, ho, resolve, hb, ha, invoke, builtin] using this
      · exact hq.elim
    · exact hq.elim
  · exact hq.elim

end
end Go.AVM

namespace Go.AVM
open Go.RowKit

/-! ### frames -/
abbrev Env := List (Nat × AV)

def getA : Env → Nat → AV
  | [], _ => .any
  | (t, v) :: r, u => match Nat.beq t u with
    | true => v
    | false => getA r u

def ev (ng : Nat) (α : Env) : Operand → AV
  | .tmp t => getA α t
  | .const v => match fromV v with
    | some x => x
    | none => .any
  | .global g => match Nat.ble (g + 1) ng with
    | true => .ptr g 0
    | false => .any
  | .func f => .fn (.func f) [] []

/-- A frame's temporaries. -/
structure EnvR (G : Ctx) (w : World) (nt : Nat) (α : Env) (a : Act) : Prop where
  size : a.tmps.size = nt
  defers : a.defers = []
  get : ∀ t, VR G w (getA α t) (a.tmps.getD t undef)

theorem EnvR.ext {G G' : Ctx} {w w' : World} {nt : Nat} {α : Env} {a : Act} (h : EnvR G w nt α a) (e : Ext G w G' w') : EnvR G' w' nt α a :=
  ⟨h.size, h.defers, fun t => VR.ext e _ _ (h.get t)⟩

theorem EnvR.put {G : Ctx} {w : World} {nt : Nat} {α : Env} {a : Act} (h : EnvR G w nt α a) {d : Nat} (hd : d < nt) {v : AV} {x : Value} (hv : VR G w v x) : EnvR G w nt ((d, v) :: α) (a.put (some d) x) := by
  refine ⟨by simp [Act.put, h.size], by simp [Act.put, h.defers], fun t => ?_⟩
  simp only [getA, Act.put]
  by_cases ht : d = t
  · subst ht
    rw [show Nat.beq d d = true from Nat.beq_refl d]
    simp only [Array.getD_eq_getD_getElem?, Array.getElem?_setIfInBounds_self_of_lt (show d < a.tmps.size by rw [h.size]; exact hd), Option.getD_some]
    exact hv
  · rw [show Nat.beq d t = false from by cases hb : Nat.beq d t with | true => exact absurd (Nat.eq_of_beq_eq_true hb) ht | false => rfl]
    simp only [Array.getD_eq_getD_getElem?, Array.getElem?_setIfInBounds_ne ht]
    have := h.get t
    simpa only [Array.getD_eq_getD_getElem?] using this

theorem EnvR.trim {G : Ctx} {w : World} {nt : Nat} {α : Env} {a : Act} (h : EnvR G w nt α a) (l : List Tmp) : EnvR G w nt (l.map fun t => (t, getA α t)) a := by
  refine ⟨h.size, h.defers, fun t => ?_⟩
  induction l with
  | nil => simp [getA, VR]
  | cons u l ih =>
    simp only [List.map_cons, getA]
    split
    · rename_i hb
      have := Nat.eq_of_beq_eq_true hb
      subst this
      exact h.get u
    · exact ih

theorem ev_VR {ng B : Nat} {w0 w : World} {G : Ctx} {s : St} (hw : WRel ng B w0 G w s) {α : Env} {a : Act} {o : Operand} (h : ∀ t, o = .tmp t → VR G w (getA α t) (a.tmps.getD t undef)) : VR G w (ev ng α o) (a.eval o) := by
  cases o with
  | tmp t => exact h t rfl
  | const v =>
    simp only [ev, Act.eval]
    split
    · rename_i x hx; exact fromV_VR v x hx
    · simp [VR]
  | global g =>
    simp only [ev, Act.eval]
    split
    · rename_i hb
      have hlt : g < ng := Nat.le_of_ble_eq_true hb
      simp only [VR]
      exact ⟨Nat.lt_of_lt_of_le hlt hw.ngle, by rw [hw.glob g hlt]⟩
    · simp [VR]
  | func f =>
    simp only [ev, Act.eval, VR, VRL]
    exact ⟨_, _, _, rfl, rfl, rfl, rfl⟩

/-! ### one operation -/
abbrev Ans := M (AV × St)
abbrev Oracle := FuncId → List AV → St → (AV → St → Ans) → Ans

/-- A value worked out before it is handed on. -/
def forceV (b : Bool) (v : AV) (k : AV → Ans) : Ans :=
  match b with
  | false => k v
  | true => match v with
    | .val (.int kd n) => match n with
      | .ofNat m => match m with
        | 0 => k (.val (.int kd (.ofNat 0)))
        | p + 1 => k (.val (.int kd (.ofNat (p + 1))))
      | .negSucc m => match m with
        | 0 => k (.val (.int kd (.negSucc 0)))
        | p + 1 => k (.val (.int kd (.negSucc (p + 1))))
    | .val (.bool t) => match t with
      | true => k (.val (.bool true))
      | false => k (.val (.bool false))
    | .ptr b o => match b, o with
      | 0, 0 => k (.ptr 0 0)
      | b + 1, 0 => k (.ptr (b + 1) 0)
      | 0, o + 1 => k (.ptr 0 (o + 1))
      | b + 1, o + 1 => k (.ptr (b + 1) (o + 1))
    | v => k v

theorem forceV_eq (b : Bool) (v : AV) (k : AV → Ans) : forceV b v k = k v := by
  cases b with
  | false => rfl
  | true =>
    cases v with
    | val u =>
      cases u with
      | int kd n =>
        cases n with
        | ofNat m => cases m <;> rfl
        | negSucc m => cases m <;> rfl
      | bool t => cases t <;> rfl
      | _ => rfl
    | ptr b o => cases b <;> cases o <;> rfl
    | _ => rfl

def callee (o : Oper) (e : Operand → AV) : Option (FuncId × List AV) :=
  match o.op with
  | .call c => match c.callee with
    | .value f => match e f with
      | .fn (.func g) first captured => some (g, (first ++ c.args.toList.map e) ++ captured)
      | _ => none
    | _ => none
  | _ => none

def stepOp (T : Mach) (C : Oracle) (mu : Bool) (s : St) (o : Oper) (e : Operand → AV) (k : AV → St → Ans) : Ans :=
  match T.ora o (o.op.operands.toList.map e) with
  | some v => k v s
  | none => match qop T.P s o e with
    | some v => forceV T.frc v fun v => k v s
    | none => match callee o e with
      | some (g, args) => match T.ext g args with
        | some v => forceV T.frc v fun v => k v s
        | none => C g args s k
      | none => ((eop T mu s o e).tell o).bind fun r => forceV T.frc r.1 fun v => k v r.2

/-- What stays so all along. -/
def Fit (T : Mach) (B : Nat) (w0 : World) (G : Ctx) : Prop := G.σ = T.σ ∧ T.st B w0

theorem Fit.next {T : Mach} {B : Nat} {w0 w w' : World} {G G' : Ctx} (h : Fit T B w0 G) (e : Ext G w G' w') : Fit T B w0 G' := ⟨e.σ.trans h.1, h.2⟩

/-- What a call does, against the abstract one. -/
def OracleOk (T : Mach) (C : Oracle) : Prop :=
  ∀ f args s k (R : AV × St → Prop) (B : Nat) (w0 : World) (G : Ctx) (w : World) (xs : Array Value), (C f args s k).all R → Fit T B w0 G → WRel T.ng B w0 G w s → VRL G w args xs.toList →
    (callFunc f xs).run T.P w = .ok (.enter f xs) w ∧
    Calls T.P f xs w fun e w' => ∃ y G' v s', e = .returned y ∧ (k v s').all R ∧ VR G' w' v y ∧ WRel T.ng B w0 G' w' s' ∧ Ext G w G' w'

structure MachOk (T : Mach) : Prop where
  ng : T.P.globals.size ≤ T.ng
  ext : ∀ f args v, T.ext f args = some v → ∀ (G : Ctx) (w : World) (xs : Array Value), VRL G w args xs.toList → ∃ y, (callFunc f xs).run T.P w = .ok (.value y) w ∧ VR G w v y
  ends : ∀ f, f ∈ T.P.funcs.toList → (f.name == "runtime.NumGoroutine") = false
  mixed : T.P.follows .mixedOrders = true
  ora : ∀ (o : Oper) (e : Operand → AV) (v : AV), T.ora o (o.op.operands.toList.map e) = some v → ∀ (G : Ctx) (w : World) (e' : Operand → Value), G.σ = T.σ → (∀ x, x ∈ o.op.operands → VR G w (e x) (e' x)) →
    ∃ y d, (execOp e' o).run T.P w = .ok (.value y) { w with drawn := d } ∧ VR G w v y

theorem callee_run {T : Mach} {w : World} {G : Ctx} {o : Oper} {e : Operand → AV} {e' : Operand → Value} (he : ∀ x, x ∈ o.op.operands → VR G w (e x) (e' x)) {g : FuncId} {args : List AV} (h : callee o e = some (g, args)) :
    ∃ xs : Array Value, VRL G w args xs.toList ∧ (execOp e' o).run T.P w = (callFunc g xs).run T.P w := by
  unfold callee at h
  split at h
  · rename_i c ho
    rw [ho] at he
    split at h
    · rename_i f hf
      split at h
      · rename_i g' first captured hfe
        cases h
        have hv := he f (by simp [Op.operands, Call.operands, hf])
        rw [hfe] at hv
        simp only [VR, FnR] at hv
        obtain ⟨f', as, bs, hv, rfl, h1, h2⟩ := hv
        refine ⟨as ++ c.args.map e' ++ bs, ?_, ?_⟩
        · rw [Array.toList_append, Array.toList_append, Array.toList_map]
          exact (h1.append (VRL_map _ fun x hx => he x (by simp [Op.operands, Call.operands, hf]; exact .inr (by simpa using hx)))).append h2
        · simp [execOp, ho, resolve, hf, hv, Deferred.ofValue, invoke]
      · cases h
    · cases h
  · cases h

theorem stepOp_sound {T : Mach} (hT : MachOk T) {C : Oracle} (hC : OracleOk T C) {B : Nat} {w0 w : World} {G : Ctx} {s : St} (hσ : Fit T B w0 G) (hw : WRel T.ng B w0 G w s) {mu : Bool} {o : Oper} {a : Act} {e : Operand → AV}
    (he : ∀ x, x ∈ o.op.operands → VR G w (e x) (a.eval x)) {k : AV → St → Ans} {R : AV × St → Prop} (hq : (stepOp T C mu s o e k).all R) {next : Act → World → Prop} {Q : Exit → Act → World → Prop}
    (hn : ∀ v x G' w' s', (k v s').all R → VR G' w' v x → WRel T.ng B w0 G' w' s' → Ext G w G' w' → next (a.put o.dst x) w') : o.wp T.P a w next Q := by
  unfold stepOp at hq
  unfold Oper.wp
  split at hq
  · rename_i v hv
    obtain ⟨y, d, h1, h2⟩ := hT.ora o e v hv G w a.eval hσ.1 he
    rw [h1]
    have e0 : Ext G w G { w with drawn := d } := Ext.heap rfl
    exact hn v y G _ s hq (VR.ext e0 _ _ h2) (hw.draw d) e0
  split at hq
  · rename_i v hv
    rw [forceV_eq] at hq
    obtain ⟨y, h1, h2⟩ := qop_sound (P := T.P) hw he hv
    rw [h1]
    exact hn v y G w s hq h2 hw (Ext.refl _ _)
  · split at hq
    · rename_i g args hc
      obtain ⟨xs, h1, h2⟩ := callee_run (T := T) he hc
      rw [h2]
      split at hq
      · rename_i v hv
        rw [forceV_eq] at hq
        obtain ⟨y, h3, h4⟩ := hT.ext g args v hv G w xs h1
        rw [h3]
        exact hn v y G w s hq h4 hw (Ext.refl _ _)
      · obtain ⟨h3, h4⟩ := hC g args s k R B w0 G w xs hq hσ hw h1
        rw [h3]
        refine h4.mono fun en w' hen => ?_
        obtain ⟨y, G', v, s', rfl, h5, h6, h7, h8⟩ := hen
        exact hn v y G' w' s' h5 h6 h7 h8
    · have hq' := M.all_tell (M.all_bind _ R _ hq)
      obtain ⟨v, s', h1, n, y, w', G', h2, h3, h4, h5, h6⟩ := eop_sound (T := T) hw he hq'
      simp only [forceV_eq] at h1
      rw [h2]
      rcases h3 with rfl | ⟨rfl, rfl⟩
      · exact hn v y G' w' s' h1 h4 h6 h5
      · exact hn v undef G' w' s' h1 h4 h6 h5

end Go.AVM

namespace Go.AVM
open Go.RowKit

/-! ### are two values the same, for sure? -/
def beqV : Value → Value → Bool
  | .bool a, .bool b => a == b
  | .int j a, .int k b => decide (j = k) && decide (a = b)
  | .float j a, .float k b => decide (j = k) && decide (a = b)
  | .string a, .string b => decide (a.data.toList = b.data.toList)
  | .pointer none, .pointer none => true
  | .nilFunc, .nilFunc => true
  | .nilIface, .nilIface => true
  | .map none, .map none => true
  | .tuple a, .tuple b => a.size == 0 && b.size == 0
  | _, _ => false

theorem beqV_eq {a b : Value} (h : beqV a b = true) : a = b := by
  unfold beqV at h
  split at h
  · simpa using h
  · simp only [Bool.and_eq_true, decide_eq_true_eq] at h; rw [h.1, h.2]
  · simp only [Bool.and_eq_true, decide_eq_true_eq] at h; rw [h.1, h.2]
  · rename_i a b
    simp only [decide_eq_true_eq] at h
    obtain ⟨⟨a⟩⟩ := a
    obtain ⟨⟨b⟩⟩ := b
    simp at h
    rw [h]
  · rfl
  · rfl
  · rfl
  · rfl
  · rename_i a b
    simp only [Bool.and_eq_true, beq_iff_eq] at h
    rw [Array.eq_empty_of_size_eq_zero h.1, Array.eq_empty_of_size_eq_zero h.2]
  · cases h

mutual
def beqA : AV → AV → Bool
  | .val a, .val b => beqV a b
  | .agg a, .agg b => beqL a b
  | .tup a, .tup b => beqL a b
  | .sl a n t, .sl b m u => beqE a b && decide (n = m) && decide (t = u)
  | .ptr a o, .ptr b p => decide (a = b) && decide (o = p)
  | .ep a o, .ep b p => beqL a b && decide (o = p)
  | .ms a o n c, .ms b p m d => decide (a = b) && decide (o = p) && decide (n = m) && decide (c = d)
  | .map a, .map b => decide (a = b)
  | .ifc t a, .ifc u b => decide (t = u) && beqA a b
  | .sym i, .sym j => decide (i = j)
  | .fn f a b, .fn g c d => decide (f = g) && beqL a c && beqL b d
  | _, _ => false
def beqL : List AV → List AV → Bool
  | [], [] => true
  | a :: as, b :: bs => beqA a b && beqL as bs
  | _, _ => false
def beqE : List (List AV) → List (List AV) → Bool
  | [], [] => true
  | a :: as, b :: bs => beqL a b && beqE as bs
  | _, _ => false
end

mutual
theorem beqA_eq : ∀ (a b : AV), beqA a b = true → a = b
  | .val a, b, h => by
    cases b <;> simp only [beqA] at h <;> first | cases h | exact congrArg _ (beqV_eq h)
  | .agg a, b, h => by
    cases b <;> simp only [beqA] at h <;> first | cases h | exact congrArg _ (beqL_eq a _ h)
  | .tup a, b, h => by
    cases b <;> simp only [beqA] at h <;> first | cases h | exact congrArg _ (beqL_eq a _ h)
  | .sl a n t, b, h => by
    cases b <;> simp only [beqA] at h <;> first | cases h | (simp only [Bool.and_eq_true, decide_eq_true_eq] at h; rw [beqE_eq a _ h.1.1, h.1.2, h.2])
  | .ptr a o, b, h => by
    cases b <;> simp only [beqA] at h <;> first | cases h | (simp only [Bool.and_eq_true, decide_eq_true_eq] at h; rw [h.1, h.2])
  | .ep a o, b, h => by
    cases b <;> simp only [beqA] at h <;> first | cases h | (simp only [Bool.and_eq_true, decide_eq_true_eq] at h; rw [beqL_eq a _ h.1, h.2])
  | .ms a o n c, b, h => by
    cases b <;> simp only [beqA] at h <;> first | cases h | (simp only [Bool.and_eq_true, decide_eq_true_eq] at h; rw [h.1.1.1, h.1.1.2, h.1.2, h.2])
  | .map a, b, h => by
    cases b <;> simp only [beqA] at h <;> first | cases h | (simp only [decide_eq_true_eq] at h; rw [h])
  | .ifc t a, b, h => by
    cases b <;> simp only [beqA] at h <;> first | cases h | (simp only [Bool.and_eq_true, decide_eq_true_eq] at h; rw [h.1, beqA_eq a _ h.2])
  | .fn f a c, b, h => by
    cases b <;> simp only [beqA] at h <;> first | cases h | (simp only [Bool.and_eq_true, decide_eq_true_eq] at h; rw [h.1.1, beqL_eq a _ h.1.2, beqL_eq c _ h.2])
  | .any, b, h => by cases b <;> simp only [beqA] at h <;> cases h
  | .nan k, b, h => by cases b <;> simp only [beqA] at h <;> cases h
  | .sym i, b, h => by
    cases b <;> simp only [beqA] at h <;> first | cases h | (simp only [decide_eq_true_eq] at h; rw [h])
theorem beqL_eq : ∀ (a b : List AV), beqL a b = true → a = b
  | [], b, h => by cases b <;> simp only [beqL] at h <;> first | rfl | cases h
  | x :: a, b, h => by
    cases b <;> simp only [beqL] at h <;> first | cases h | (simp only [Bool.and_eq_true] at h; rw [beqA_eq x _ h.1, beqL_eq a _ h.2])
theorem beqE_eq : ∀ (a b : List (List AV)), beqE a b = true → a = b
  | [], b, h => by cases b <;> simp only [beqE] at h <;> first | rfl | cases h
  | x :: a, b, h => by
    cases b <;> simp only [beqE] at h <;> first | cases h | (simp only [Bool.and_eq_true] at h; rw [beqL_eq x _ h.1, beqE_eq a _ h.2])
end

end Go.AVM

namespace Go.AVM
open Go.RowKit

/-! ### guards -/
def isUndef : Value → Bool
  | .tuple a => a.size == 0
  | _ => false

def dstOf (ops : Array Oper) (j : Nat) : Option Tmp := (ops[j]?).bind (·.dst)

def wantedA (ops : Array Oper) (α : Env) (o : Oper) : Option Bool :=
  match o.guard with
  | none => some true
  | some (j, want) => match dstOf ops j with
    | some d => match getA α d with
      | .val (.bool b) => some (b == want)
      | .val v => if isUndef v = true then some false else none
      | _ => none
    | none => some false

theorem wantedA_sound {G : Ctx} {w : World} {ops : Array Oper} {α : Env} {a : Act} {o : Oper} {b : Bool} (hq : wantedA ops α o = some b)
    (h : ∀ j want d, o.guard = some (j, want) → dstOf ops j = some d → VR G w (getA α d) (a.tmps.getD d undef)) : Region.wanted o (yielded ops a.tmps) = b := by
  unfold wantedA at hq
  unfold Region.wanted
  cases hg : o.guard with
  | none => rw [hg] at hq; simpa using hq
  | some p =>
    obtain ⟨j, want⟩ := p
    rw [hg] at hq
    simp only at hq ⊢
    cases hd : dstOf ops j with
    | none =>
      rw [hd] at hq
      have hy : yielded ops a.tmps j = none := by
        unfold yielded
        rw [show (ops[j]?).bind (·.dst) = none from hd]
        rfl
      rw [hy]
      simp only [Option.some.injEq] at hq
      rw [← hq]
      rfl
    | some d =>
      rw [hd] at hq
      have hv := h j want d hg hd
      simp only at hq
      have hyd : yielded ops a.tmps j = match a.tmps[d]? with | some (.bool b) => some b | _ => none := by
        unfold yielded
        rw [show (ops[j]?).bind (·.dst) = some d from hd]
        rfl
      split at hq
      · rename_i bb hb
        rw [hb] at hv
        simp only [VR] at hv
        have : a.tmps[d]? = some (.bool bb) := by
          cases hx : a.tmps[d]? with
          | none => simp [hx, undef] at hv
          | some x => simp [hx] at hv; rw [hv]
        rw [hyd, this]
        simp only [Option.some.injEq] at hq
        rw [← hq]
        cases bb <;> cases want <;> rfl
      · rename_i v hnb hb
        rw [hb] at hv
        simp only [VR] at hv
        split at hq
        · rename_i hu
          have hyn : yielded ops a.tmps j = none := by
            rw [hyd]
            cases hx : a.tmps[d]? with
            | none => rfl
            | some x =>
              have : x = v := by simpa [hx] using hv
              subst this
              cases x <;> first | rfl | exact absurd rfl (hnb _)
          rw [hyn]
          simp only [Option.some.injEq] at hq
          rw [← hq]
          rfl
        · cases hq
      · cases hq

/-! ### what comes surely before what -/
def onsOf (o : Oper) : List Nat := (o.after.toList.filter (Region.binds .any)).map (·.on)
def maskOf (prev : List Nat) : List Nat → Nat
  | [] => 0
  | u :: us => (2 ^ u ||| prev.getD u 0) ||| maskOf prev us
def masks : List Oper → List Nat → List Nat
  | [], prev => prev
  | o :: os, prev => masks os (prev ++ [maskOf prev (onsOf o)])

theorem maskOf_bit {prev : List Nat} {b : Nat} : ∀ {us : List Nat}, (maskOf prev us).testBit b = true → ∃ u, u ∈ us ∧ (b = u ∨ (prev.getD u 0).testBit b = true)
  | [], h => by simp [maskOf] at h
  | u :: us, h => by
    simp only [maskOf, Nat.testBit_or, Bool.or_eq_true] at h
    rcases h with (h | h) | h
    · rw [Nat.testBit_two_pow] at h
      exact ⟨u, by simp, .inl (by simpa using (of_decide_eq_true h).symm)⟩
    · exact ⟨u, by simp, .inr h⟩
    · obtain ⟨v, h1, h2⟩ := maskOf_bit h
      exact ⟨v, by simp [h1], h2⟩

theorem maskOf_congr {p q : List Nat} : ∀ {us : List Nat}, (∀ u, u ∈ us → p.getD u 0 = q.getD u 0) → maskOf p us = maskOf q us
  | [], _ => rfl
  | u :: us, h => by simp only [maskOf]; rw [h u (by simp), maskOf_congr fun v hv => h v (by simp [hv])]

theorem masks_prefix : ∀ (l : List Oper) (prev : List Nat), (masks l prev).take prev.length = prev ∧ (masks l prev).length = prev.length + l.length
  | [], prev => by simp [masks]
  | o :: l, prev => by
    obtain ⟨h1, h2⟩ := masks_prefix l (prev ++ [maskOf prev (onsOf o)])
    refine ⟨?_, by simp only [masks, h2, List.length_append, List.length_cons, List.length_nil]; omega⟩
    simp only [masks]
    have := congrArg (List.take prev.length) h1
    rw [List.take_take, List.length_append, Nat.min_eq_left (by omega)] at this
    rw [this]
    simp

theorem masks_at : ∀ (l : List Oper) (prev : List Nat) (i : Nat) (o : Oper), l[i]? = some o → (masks l prev)[prev.length + i]? = some (maskOf ((masks l prev).take (prev.length + i)) (onsOf o))
  | [], _, i, o, h => by simp at h
  | o :: l, prev, 0, p, h => by
    simp at h
    subst h
    obtain ⟨h1, h2⟩ := masks_prefix l (prev ++ [maskOf prev (onsOf o)])
    simp only [masks, Nat.add_zero]
    have h3 : (masks l (prev ++ [maskOf prev (onsOf o)])).take prev.length = prev := (masks_prefix (o :: l) prev).1
    rw [h3]
    have h4 : (masks l (prev ++ [maskOf prev (onsOf o)]))[prev.length]? = ((masks l (prev ++ [maskOf prev (onsOf o)])).take (prev ++ [maskOf prev (onsOf o)]).length)[prev.length]? := by
      rw [List.getElem?_take, if_pos (by simp)]
    rw [h4, h1]
    simp
  | o :: l, prev, i + 1, p, h => by
    have := masks_at l (prev ++ [maskOf prev (onsOf o)]) i p (by simpa using h)
    simp only [masks]
    simp only [List.length_append, List.length_cons, List.length_nil, Nat.zero_add] at this
    rw [show prev.length + (i + 1) = prev.length + 1 + i by omega]
    exact this

/-- Of operation i, by its number. -/
theorem masks_get (l : List Oper) (i : Nat) (o : Oper) (h : l[i]? = some o) : (masks l []).getD i 0 = maskOf ((masks l []).take i) (onsOf o) := by
  have := masks_at l [] i o h
  simp only [List.length_nil, Nat.zero_add] at this
  rw [List.getD_eq_getElem?_getD, this]
  rfl

theorem closed_mask (l : List Oper) (listed : Nat → Bool) (hlt : ∀ i o, l[i]? = some o → ∀ u, u ∈ onsOf o → u < i) (hc : ∀ i o, l[i]? = some o → listed i = true → ∀ u, u ∈ onsOf o → listed u = true) :
    ∀ (i : Nat) (o : Oper), l[i]? = some o → (∀ u, u ∈ onsOf o → listed u = true) → ∀ b, ((masks l []).getD i 0).testBit b = true → listed b = true := by
  intro i
  induction i using Nat.strongRecOn with
  | _ i ih =>
    intro o ho hl b hb
    rw [masks_get l i o ho] at hb
    obtain ⟨u, hu, h⟩ := maskOf_bit hb
    have hui := hlt i o ho u hu
    rcases h with rfl | h
    · exact hl b hu
    · have hul : u < l.length := by
        have := (List.getElem?_eq_some_iff.1 ho).1
        omega
      have hg : ((masks l []).take i).getD u 0 = (masks l []).getD u 0 := by
        rw [List.getD_eq_getElem?_getD, List.getElem?_take, if_pos hui, ← List.getD_eq_getElem?_getD]
      rw [hg] at h
      exact ih u hui l[u] (List.getElem?_eq_getElem hul) (hc u l[u] (List.getElem?_eq_getElem hul) (hl u hu)) b h

end Go.AVM

namespace Go.AVM
open Go.RowKit

def pushE : Option Tmp → AV → Env → Env
  | some d, v, α => (d, v) :: α
  | none, _, α => α

theorem EnvR.putO {G : Ctx} {w : World} {nt : Nat} {α : Env} {a : Act} (h : EnvR G w nt α a) {d : Option Tmp} (hd : ∀ t, d = some t → t < nt) {v : AV} {x : Value} (hv : VR G w v x) : EnvR G w nt (pushE d v α) (a.put d x) := by
  cases d with
  | none => exact h
  | some d => exact h.put (hd d rfl) hv

def undefA : AV := .val undef

/-- A region's operations, as they are written. -/
noncomputable def opsK (T : Mach) (C : Oracle) (mu : Tmp → Bool) (ops : Array Oper) (l : List Oper) : Env → St → (Env → St → Ans) → Ans :=
  l.rec (fun α s k => k α s) fun o _ ih α s k => match wantedA ops α o with
    | some true => stepOp T C (match o.dst with | some d => mu d | none => false) s o (ev T.ng α) fun v s' => ih (pushE o.dst v α) s' k
    | some false => ih (pushE o.dst undefA α) s k
    | none => .stop o

theorem opsK_cons (T : Mach) (C : Oracle) (mu : Tmp → Bool) (ops : Array Oper) (o : Oper) (l : List Oper) (α : Env) (s : St) (k : Env → St → Ans) :
    opsK T C mu ops (o :: l) α s k = match wantedA ops α o with
    | some true => stepOp T C (match o.dst with | some d => mu d | none => false) s o (ev T.ng α) fun v s' => opsK T C mu ops l (pushE o.dst v α) s' k
    | some false => opsK T C mu ops l (pushE o.dst undefA α) s k
    | none => .stop o := rfl

theorem opsK_sound {T : Mach} (hT : MachOk T) {C : Oracle} (hC : OracleOk T C) {B : Nat} {w0 : World} {mu : Tmp → Bool} {ops : Array Oper} {nt : Nat} {k : Env → St → Ans} {R : AV × St → Prop} {Q : Exit → Act → World → Prop} :
    ∀ (l : List Oper) (α : Env) (a : Act) (G : Ctx) (w : World) (s : St), (opsK T C mu ops l α s k).all R → EnvR G w nt α a → Fit T B w0 G → WRel T.ng B w0 G w s → (∀ o, o ∈ l → ∀ d, o.dst = some d → d < nt) →
      (∀ α a G' w' s, (k α s).all R → EnvR G' w' nt α a → WRel T.ng B w0 G' w' s → Ext G w G' w' → Q .normal a w') → wpList T.P ops Q l a w
  | [], α, a, G, w, s, hq, he, hσ, hw, hd, hk => hk α a G w s hq he hw (Ext.refl _ _)
  | o :: l, α, a, G, w, s, hq, he, hσ, hw, hd, hk => by
    rw [opsK_cons] at hq
    unfold wpList
    split at hq
    · rename_i hwt
      rw [if_pos (wantedA_sound (w := w) (G := G) hwt fun j want d _ _ => he.get d)]
      refine .inl (stepOp_sound hT hC hσ hw (fun x _ => ev_VR hw fun t _ => he.get t) hq fun v x G' w' s' h1 h2 h3 h4 => ?_)
      exact opsK_sound hT hC l _ _ G' w' s' h1 ((he.ext h4).putO (hd o (by simp)) h2) (hσ.next h4) h3 (fun o ho => hd o (by simp [ho]))
        fun α a G'' w'' s hk' h5 h6 h7 => hk α a G'' w'' s hk' h5 h6 (h4.trans h7)
    · rename_i hwt
      rw [if_neg (by rw [wantedA_sound (w := w) (G := G) hwt fun j want d _ _ => he.get d]; simp)]
      exact opsK_sound hT hC l _ _ G w s hq (he.putO (hd o (by simp)) (by simp [VR, undefA])) hσ hw (fun o ho => hd o (by simp [ho])) hk
    · exact hq.elim

end Go.AVM

namespace Go.AVM
open Go.RowKit

/-! ### regions whose order is drawn -/
def envF (α : Env) : List Oper → List (Option AV) → Env
  | o :: os, some v :: vs => envF (pushE o.dst v α) os vs
  | _ :: os, none :: vs => envF α os vs
  | _, _ => α

theorem getA_push (d : Option Tmp) (v : AV) (α : Env) (t : Nat) : getA (pushE d v α) t = if d = some t then v else getA α t := by
  cases d with
  | none => simp [pushE]
  | some d =>
    simp only [pushE, getA]
    by_cases h : d = t
    · subst h; rw [show Nat.beq d d = true from Nat.beq_refl d]; simp
    · rw [show Nat.beq d t = false from by cases hb : Nat.beq d t with | true => exact absurd (Nat.eq_of_beq_eq_true hb) h | false => rfl]
      simp [h]

theorem envF_get (t : Nat) : ∀ (ops : List Oper) (vs : List (Option AV)) (α : Env),
    (∃ (j : Nat) (o : Oper) (v : AV), ops[j]? = some o ∧ o.dst = some t ∧ vs[j]? = some (some v) ∧ getA (envF α ops vs) t = v ∧ ∀ (k : Nat) (o' : Oper) (v' : AV), ops[k]? = some o' → o'.dst = some t → vs[k]? = some (some v') → k ≤ j) ∨
    (getA (envF α ops vs) t = getA α t ∧ ∀ (j : Nat) (o : Oper) (v : AV), ops[j]? = some o → o.dst = some t → vs[j]? = some (some v) → False)
  | [], vs, α => .inr ⟨by simp [envF], fun j o v h => by simp at h⟩
  | o :: os, [], α => .inr ⟨by simp [envF], fun j o v _ _ h => by simp at h⟩
  | o :: os, none :: vs, α => by
    rcases envF_get t os vs α with ⟨j, p, v, h1, h2, h3, h4, h5⟩ | ⟨h1, h2⟩
    · refine .inl ⟨j + 1, p, v, by simpa using h1, h2, by simpa using h3, by simpa [envF] using h4, fun k o' v' a b c => ?_⟩
      cases k with
      | zero => exact Nat.zero_le _
      | succ k => exact Nat.succ_le_succ (h5 k o' v' (by simpa using a) b (by simpa using c))
    · refine .inr ⟨by simpa [envF] using h1, fun j o v a b c => ?_⟩
      cases j with
      | zero => simp at c
      | succ j => exact h2 j o v (by simpa using a) b (by simpa using c)
  | o :: os, some u :: vs, α => by
    rcases envF_get t os vs (pushE o.dst u α) with ⟨j, p, v, h1, h2, h3, h4, h5⟩ | ⟨h1, h2⟩
    · refine .inl ⟨j + 1, p, v, by simpa using h1, h2, by simpa using h3, by simpa [envF] using h4, fun k o' v' a b c => ?_⟩
      cases k with
      | zero => exact Nat.zero_le _
      | succ k => exact Nat.succ_le_succ (h5 k o' v' (by simpa using a) b (by simpa using c))
    · by_cases hd : o.dst = some t
      · refine .inl ⟨0, o, u, by simp, hd, by simp, by simp only [envF]; rw [h1, getA_push, if_pos hd], fun k o' v' a b c => ?_⟩
        cases k with
        | zero => exact Nat.le_refl _
        | succ k => exact (h2 k o' v' (by simpa using a) b (by simpa using c)).elim
      · refine .inr ⟨by simp only [envF]; rw [h1, getA_push, if_neg hd], fun j p v a b c => ?_⟩
        cases j with
        | zero => simp at a; subst a; exact hd b
        | succ j => exact h2 j p v (by simpa using a) b (by simpa using c)

def isEff (o : Oper) : Bool :=
  match o.op with
  | .alloc .. | .box .. | .store .. | .makeMap .. | .makeSlice .. | .mapUpdate .. | .insert .. | .mapEntry .. | .entryStore .. | .buildSlice .. | .range .. | .next .. => true
  | .call c => match c.callee with
    | .builtin .len | .builtin .cap | .builtin .min | .builtin .max => false
    | _ => true
  | _ => false

def bit (m i : Nat) : Bool := Nat.beq (Nat.land (Nat.shiftRight m i) 1) 1

theorem bit_eq (m i : Nat) : bit m i = m.testBit i := by
  unfold bit
  have h : Nat.land (Nat.shiftRight m i) 1 = (m >>> i) % 2 := Nat.and_one_is_mod _
  rw [h, Nat.testBit_eq_decide_div_mod_eq, Nat.shiftRight_eq_div_pow]
  rcases Nat.mod_two_eq_zero_or_one (m / 2 ^ i) with h | h <;> rw [h] <;> rfl

def quietVal (T : Mach) (ops : Array Oper) (s : St) (α : Env) (o : Oper) : Option AV :=
  match wantedA ops α o with
  | some true => qop T.P s o (ev T.ng α)
  | some false => some undefA
  | none => none

def skipOp (sure rem : Nat) (i : Nat) (o : Oper) (m : Nat) : Bool := isEff o || bit sure i || !(Nat.beq (Nat.land m rem) 0)

def consO (v : Option AV) : Option (List (Option AV)) → Option (List (Option AV))
  | some l => some (v :: l)
  | none => none

def passL (T : Mach) (ops : Array Oper) (s : St) (sure rem : Nat) : List Oper → List Nat → List (Option AV) → Nat → Env → Option (List (Option AV))
  | o :: l, m :: ms, ov :: vs, i, α => match skipOp sure rem i o m with
    | true => consO ov (passL T ops s sure rem l ms vs (i + 1) (match ov with | some v => pushE o.dst v α | none => α))
    | false => match quietVal T ops s α o with
      | none => none
      | some v => match ov with
        | none => consO (some v) (passL T ops s sure rem l ms vs (i + 1) (pushE o.dst v α))
        | some u => match beqA u v with
          | true => consO (some u) (passL T ops s sure rem l ms vs (i + 1) (pushE o.dst u α))
          | false => none
  | [], [], [], _, _ => some []
  | _, _, _, _, _ => none

theorem consO_some {v : Option AV} {x : Option (List (Option AV))} {l : List (Option AV)} (h : consO v x = some l) : ∃ r, x = some r ∧ l = v :: r := by
  cases x with
  | none => cases h
  | some r => cases h; exact ⟨r, rfl, rfl⟩

theorem passL_spec (T : Mach) (ops : Array Oper) (s : St) (sure rem : Nat) : ∀ (l : List Oper) (ms : List Nat) (vs : List (Option AV)) (i : Nat) (α : Env) (vs' : List (Option AV)), passL T ops s sure rem l ms vs i α = some vs' →
    vs'.length = l.length ∧ vs.length = l.length ∧ (∀ (j : Nat) (u : AV), vs[j]? = some (some u) → vs'[j]? = some (some u)) ∧
    ∀ (j : Nat) (o : Oper) (m : Nat), l[j]? = some o → ms[j]? = some m → skipOp sure rem (i + j) o m = false → ∃ v, vs'[j]? = some (some v) ∧ quietVal T ops s (envF α (l.take j) (vs'.take j)) o = some v
  | [], [], [], i, α, vs', h => by
    simp only [passL, Option.some.injEq] at h
    subst h
    exact ⟨rfl, rfl, fun j u h => by simp at h, fun j o m h => by simp at h⟩
  | o :: l, m :: ms, ov :: vs, i, α, vs', h => by
    simp only [passL] at h
    split at h
    · rename_i hs
      obtain ⟨r, h1, rfl⟩ := consO_some h
      obtain ⟨a1, a2, a3, a4⟩ := passL_spec T ops s sure rem l ms vs (i + 1) _ r h1
      refine ⟨by simp [a1], by simp [a2], fun j u hj => ?_, fun j p q hj hm hk => ?_⟩
      · cases j with
        | zero => simpa using hj
        | succ j => simpa using a3 j u (by simpa using hj)
      · cases j with
        | zero =>
          simp at hj hm
          subst hj hm
          rw [Nat.add_zero, hs] at hk
          cases hk
        | succ j =>
          obtain ⟨v, b1, b2⟩ := a4 j p q (by simpa using hj) (by simpa using hm) (by rw [show i + 1 + j = i + (j + 1) by omega]; exact hk)
          refine ⟨v, by simpa using b1, ?_⟩
          cases ov <;> simpa [envF] using b2
    · rename_i hs
      split at h
      · cases h
      · rename_i v hv
        split at h
        · obtain ⟨r, h1, rfl⟩ := consO_some h
          obtain ⟨a1, a2, a3, a4⟩ := passL_spec T ops s sure rem l ms vs (i + 1) _ r h1
          refine ⟨by simp [a1], by simp [a2], fun j u hj => ?_, fun j p q hj hm hk => ?_⟩
          · cases j with
            | zero => simp at hj
            | succ j => simpa using a3 j u (by simpa using hj)
          · cases j with
            | zero =>
              simp at hj hm
              subst hj hm
              exact ⟨v, by simp, by simpa [envF] using hv⟩
            | succ j =>
              obtain ⟨v', b1, b2⟩ := a4 j p q (by simpa using hj) (by simpa using hm) (by rw [show i + 1 + j = i + (j + 1) by omega]; exact hk)
              exact ⟨v', by simpa using b1, by simpa [envF] using b2⟩
        · rename_i u
          split at h
          · rename_i hb
            have := beqA_eq _ _ hb
            subst this
            obtain ⟨r, h1, rfl⟩ := consO_some h
            obtain ⟨a1, a2, a3, a4⟩ := passL_spec T ops s sure rem l ms vs (i + 1) _ r h1
            refine ⟨by simp [a1], by simp [a2], fun j u' hj => ?_, fun j p q hj hm hk => ?_⟩
            · cases j with
              | zero => simpa using hj
              | succ j => simpa using a3 j u' (by simpa using hj)
            · cases j with
              | zero =>
                simp at hj hm
                subst hj hm
                exact ⟨u, by simp, by simpa [envF] using hv⟩
              | succ j =>
                obtain ⟨v', b1, b2⟩ := a4 j p q (by simpa using hj) (by simpa using hm) (by rw [show i + 1 + j = i + (j + 1) by omega]; exact hk)
                exact ⟨v', by simpa using b1, by simpa [envF] using b2⟩
          · cases h
  | [], [], _ :: _, _, _, _, h => by simp [passL] at h
  | [], _ :: _, _, _, _, _, h => by simp [passL] at h
  | _ :: _, [], _, _, _, _, h => by simp [passL] at h
  | _ :: _, _ :: _, [], _, _, _, h => by simp [passL] at h

/-- The effects not done yet, as bits. -/
def remOf : List (Nat × Oper × Nat) → Nat
  | [] => 0
  | e :: r => 2 ^ e.1 ||| remOf r

theorem remOf_bit {l : List (Nat × Oper × Nat)} {i : Nat} (h : (remOf l).testBit i = true) : ∃ e, e ∈ l ∧ e.1 = i := by
  induction l with
  | nil => simp [remOf] at h
  | cons e l ih =>
    simp only [remOf, Nat.testBit_or, Bool.or_eq_true, Nat.testBit_two_pow] at h
    rcases h with h | h
    · exact ⟨e, by simp, by simpa using h⟩
    · obtain ⟨e', h1, h2⟩ := ih h
      exact ⟨e', by simp [h1], h2⟩

def muOf (mu : Tmp → Bool) (o : Oper) : Bool := match o.dst with | some d => mu d | none => false

def drawnK (T : Mach) (C : Oracle) (mu : Tmp → Bool) (ops : Array Oper) (ms : List Nat) (α : Env) (k : Env → St → Ans) : List (Nat × Oper × Nat) → List (Option AV) → St → Nat → Ans
  | [], vs, s, sure => match passL T ops s sure 0 ops.toList ms vs 0 α with
    | none => .fail
    | some vs' => k (envF α ops.toList vs') s
  | (i, o, m) :: r, vs, s, sure => match passL T ops s sure (remOf ((i, o, m) :: r)) ops.toList ms vs 0 α with
    | none => .fail
    | some vs' => match wantedA ops (envF α (ops.toList.take i) (vs'.take i)) o with
      | some true => stepOp T C (muOf mu o) s o (ev T.ng (envF α (ops.toList.take i) (vs'.take i))) fun v s' => drawnK T C mu ops ms α k r (vs'.set i (some v)) s' (sure ||| (m ||| 2 ^ i))
      | some false => drawnK T C mu ops ms α k r (vs'.set i (some undefA)) s (sure ||| (m ||| 2 ^ i))
      | none => .stop o

def trip (l : List Oper) (ms : List Nat) (i : Nat) : List (Nat × Oper × Nat) :=
  match l, ms with
  | o :: l, m :: ms => (i, o, m) :: trip l ms (i + 1)
  | _, _ => []

def effsOf (ops : Array Oper) (ms : List Nat) : List (Nat × Oper × Nat) := (trip ops.toList ms 0).filter fun e => isEff e.2.1

def drawn (T : Mach) (C : Oracle) (mu : Tmp → Bool) (ops : Array Oper) (α : Env) (s : St) (k : Env → St → Ans) : Ans :=
  drawnK T C mu ops (masks ops.toList []) α k (effsOf ops (masks ops.toList [])) (ops.toList.map fun _ => none) s 0

end Go.AVM

namespace Go.AVM
open Go.RowKit

/-! ### what is looked at once, for each region -/
def memT (t : Nat) : List Nat → Bool
  | [] => false
  | u :: r => match Nat.beq t u with | true => true | false => memT t r

theorem memT_of {t : Nat} : ∀ {l : List Nat}, t ∈ l → memT t l = true
  | u :: r, h => by
    simp only [memT]
    by_cases hu : t = u
    · subst hu; rw [show Nat.beq t t = true from Nat.beq_refl t]
    · rw [show Nat.beq t u = false from by cases hb : Nat.beq t u with | true => exact absurd (Nat.eq_of_beq_eq_true hb) hu | false => rfl]
      exact memT_of (by simpa [hu] using h)

def hits (d : Option Tmp) (l : List Nat) : Bool := match d with | some t => memT t l | none => false

def names (ops : Array Oper) (o : Oper) : List Tmp := o.dst.toList ++ o.looksAt ops

/-- Two of them are in order, or apart. -/
def pairOk (ops : Array Oper) (x y : Nat × Oper × Nat) : Bool :=
  bit y.2.2 x.1 || !(hits x.2.1.dst (names ops y.2.1) || hits y.2.1.dst (names ops x.2.1) || (isEff x.2.1 && isEff y.2.1))

def allPairs (ops : Array Oper) : List (Nat × Oper × Nat) → Bool
  | [] => true
  | x :: r => r.all (pairOk ops x) && allPairs ops r

def oneOk (nt : Nat) (x : Nat × Oper × Nat) : Bool :=
  (onsOf x.2.1).all (fun u => Nat.ble (u + 1) x.1) && (match x.2.1.dst with | some d => Nat.ble (d + 1) nt | none => true)

def opsOk (nt : Nat) (ops : Array Oper) : Bool :=
  let t := trip ops.toList (masks ops.toList []) 0
  t.all (oneOk nt) && allPairs ops t

theorem trip_get : ∀ (l : List Oper) (ms : List Nat) (i j : Nat), l.length = ms.length → (trip l ms i)[j]? = (l[j]?).map fun o => (i + j, o, ms.getD j 0)
  | [], [], _, _, _ => by simp [trip]
  | o :: l, m :: ms, i, 0, _ => by simp [trip]
  | o :: l, m :: ms, i, j + 1, h => by
    simp only [trip, List.getElem?_cons_succ, List.getD_cons_succ]
    rw [trip_get l ms (i + 1) j (by simpa using h)]
    congr 1
    funext p
    rw [show i + 1 + j = i + (j + 1) by omega]
  | [], _ :: _, _, _, h => by simp at h
  | _ :: _, [], _, _, h => by simp at h

theorem allPairs_get (ops : Array Oper) : ∀ (l : List (Nat × Oper × Nat)), allPairs ops l = true → ∀ (i j : Nat) (x y : Nat × Oper × Nat), i < j → l[i]? = some x → l[j]? = some y → pairOk ops x y = true
  | [], _, i, j, x, y, _, h, _ => by simp at h
  | z :: r, h, i, j, x, y, hij, hx, hy => by
    simp only [allPairs, Bool.and_eq_true, List.all_eq_true] at h
    cases i with
    | zero =>
      simp at hx
      subst hx
      cases j with
      | zero => omega
      | succ j => exact h.1 y (List.mem_of_getElem? (by simpa using hy))
    | succ i =>
      cases j with
      | zero => omega
      | succ j => exact allPairs_get ops r h.2 i j x y (by omega) (by simpa using hx) (by simpa using hy)

def maskAt (ops : Array Oper) (i : Nat) : Nat := (masks ops.toList []).getD i 0

theorem masks_len (l : List Oper) : (masks l []).length = l.length := by
  have := (masks_prefix l []).2
  simpa using this

theorem trip_at (ops : Array Oper) (j : Nat) (o : Oper) (h : ops[j]? = some o) : (trip ops.toList (masks ops.toList []) 0)[j]? = some (j, o, maskAt ops j) := by
  rw [trip_get _ _ _ _ (masks_len _).symm, Array.getElem?_toList, h]
  simp [maskAt]

structure OpsOk (nt : Nat) (ops : Array Oper) : Prop where
  lt : ∀ (i : Nat) (o : Oper), ops[i]? = some o → ∀ u, u ∈ onsOf o → u < i
  dst : ∀ (i : Nat) (o : Oper), ops[i]? = some o → ∀ d, o.dst = some d → d < nt
  pair : ∀ (i j : Nat) (x y : Oper), i < j → ops[i]? = some x → ops[j]? = some y → (maskAt ops j).testBit i = true ∨
    ((∀ t, x.dst = some t → t ∉ names ops y) ∧ (∀ t, y.dst = some t → t ∉ names ops x) ∧ ¬ (isEff x = true ∧ isEff y = true))

theorem hits_false {d : Option Tmp} {l : List Nat} (h : hits d l = false) (t : Nat) (ht : d = some t) : t ∉ l := by
  subst ht
  intro hm
  simp only [hits] at h
  rw [memT_of hm] at h
  cases h

theorem opsOk_spec {nt : Nat} {ops : Array Oper} (h : opsOk nt ops = true) : OpsOk nt ops := by
  simp only [opsOk, Bool.and_eq_true, List.all_eq_true] at h
  have one : ∀ (i : Nat) (o : Oper), ops[i]? = some o → oneOk nt (i, o, maskAt ops i) = true := fun i o ho => h.1 _ (List.mem_of_getElem? (trip_at ops i o ho))
  refine ⟨fun i o ho u hu => ?_, fun i o ho d hd => ?_, fun i j x y hij hx hy => ?_⟩
  · have := one i o ho
    simp only [oneOk, Bool.and_eq_true, List.all_eq_true] at this
    exact Nat.le_of_ble_eq_true (this.1 u hu)
  · have := one i o ho
    simp only [oneOk, Bool.and_eq_true, hd] at this
    exact Nat.le_of_ble_eq_true this.2
  · have := allPairs_get ops _ h.2 i j _ _ hij (trip_at ops i x hx) (trip_at ops j y hy)
    simp only [pairOk, Bool.or_eq_true, bit_eq, Bool.not_eq_true', Bool.or_eq_false_iff] at this
    rcases this with h1 | ⟨⟨h1, h2⟩, h3⟩
    · exact .inl h1
    · exact .inr ⟨hits_false h1, hits_false h2, fun hb => by rw [hb.1, hb.2] at h3; cases h3⟩

/-! ### listed operations -/
def OpsClosed (ops : Array Oper) (L : Nat → Bool) : Prop := ∀ (i : Nat) (o : Oper), ops[i]? = some o → L i = true → ∀ u, u ∈ onsOf o → L u = true

theorem mask_listed {nt : Nat} {ops : Array Oper} (hok : OpsOk nt ops) {L : Nat → Bool} (hc : OpsClosed ops L) {i : Nat} {o : Oper} (ho : ops[i]? = some o) (hl : ∀ u, u ∈ onsOf o → L u = true) {b : Nat}
    (hb : (maskAt ops i).testBit b = true) : L b = true :=
  closed_mask ops.toList L (fun i o h => hok.lt i o (by simpa using h)) (fun i o h => hc i o (by simpa using h)) i o (by simpa using ho) hl b hb

theorem ready_iff {ops : Array Oper} {listed : Array Bool} {j : Nat} : j ∈ Region.ready .any ops listed ↔ listed.getD j true = false ∧ ∃ o, ops[j]? = some o ∧ ∀ u, u ∈ onsOf o → listed.getD u false = true := by
  rw [mem_ready]
  refine and_congr_right fun _ => exists_congr fun o => and_congr_right fun _ => ⟨fun h u hu => ?_, fun h e he hb => ?_⟩
  · simp only [onsOf, List.mem_map, List.mem_filter] at hu
    obtain ⟨e, ⟨he, hb⟩, rfl⟩ := hu
    exact h e (by simpa using he) hb
  · exact h e.on (by simp only [onsOf, List.mem_map, List.mem_filter]; exact ⟨e, ⟨by simpa using he, hb⟩, rfl⟩)

/-- What the slots hold. -/
structure Slots (G : Ctx) (w : World) (nt : Nat) (ops : Array Oper) (α : Env) (L : Nat → Bool) (vs : List (Option AV)) (a : Act) : Prop where
  size : a.tmps.size = nt
  defers : a.defers = []
  get : ∀ t, (∃ (j : Nat) (o : Oper) (v : AV), L j = true ∧ ops[j]? = some o ∧ o.dst = some t ∧ vs[j]? = some (some v) ∧ VR G w v (a.tmps.getD t undef) ∧ ∀ (k : Nat) (o' : Oper), L k = true → ops[k]? = some o' → o'.dst = some t → k ≤ j) ∨
    (VR G w (getA α t) (a.tmps.getD t undef) ∧ ∀ (j : Nat) (o : Oper), L j = true → ops[j]? = some o → o.dst = some t → False)
  known : ∀ (j : Nat) (o : Oper), L j = true → ops[j]? = some o → ∃ v, vs[j]? = some (some v)

/-- A slot as operation i sees it. -/
theorem Slots.read {G : Ctx} {w : World} {nt : Nat} {ops : Array Oper} {α : Env} {L : Nat → Bool} {vs : List (Option AV)} {a : Act} (h : Slots G w nt ops α L vs a) {t i : Nat}
    (hi : ∀ (j : Nat) (o : Oper), ops[j]? = some o → o.dst = some t → (j < i ↔ L j = true)) : VR G w (getA (envF α (ops.toList.take i) (vs.take i)) t) (a.tmps.getD t undef) := by
  have tk : ∀ (j : Nat) (o : Oper), (ops.toList.take i)[j]? = some o ↔ j < i ∧ ops[j]? = some o := fun j o => by
    rw [List.getElem?_take]
    by_cases hj : j < i
    · rw [if_pos hj]; simp [hj]
    · rw [if_neg hj]; simp [hj]
  have tv : ∀ (j : Nat) (v : AV), (vs.take i)[j]? = some (some v) ↔ j < i ∧ vs[j]? = some (some v) := fun j v => by
    rw [List.getElem?_take]
    by_cases hj : j < i
    · rw [if_pos hj]; simp [hj]
    · rw [if_neg hj]; simp [hj]
  rcases envF_get t (ops.toList.take i) (vs.take i) α with ⟨j, o, v, h1, h2, h3, h4, h5⟩ | ⟨h1, h2⟩
  · obtain ⟨hji, hjo⟩ := (tk j o).1 h1
    obtain ⟨_, hjv⟩ := (tv j v).1 h3
    have hLj : L j = true := (hi j o hjo h2).1 hji
    rcases h.get t with ⟨j', o', v', b1, b2, b3, b4, b5, b6⟩ | ⟨b1, b2⟩
    · have hle := b6 j o hLj hjo h2
      have hj'i := (hi j' o' b2 b3).2 b1
      have hle' := h5 j' o' v' ((tk _ _).2 ⟨hj'i, b2⟩) b3 ((tv _ _).2 ⟨hj'i, b4⟩)
      have : j = j' := by omega
      subst this
      rw [hjv] at b4
      simp only [Option.some.injEq] at b4
      rw [h4, b4]
      exact b5
    · exact (b2 j o hLj hjo h2).elim
  · rw [h1]
    rcases h.get t with ⟨j', o', v', b1, b2, b3, b4, b5, b6⟩ | ⟨b1, b2⟩
    · have hj'i := (hi j' o' b2 b3).2 b1
      exact (h2 j' o' v' ((tk _ _).2 ⟨hj'i, b2⟩) b3 ((tv _ _).2 ⟨hj'i, b4⟩)).elim
    · exact b1

theorem Slots.ext {G G' : Ctx} {w w' : World} {nt : Nat} {ops : Array Oper} {α : Env} {L : Nat → Bool} {vs : List (Option AV)} {a : Act} (h : Slots G w nt ops α L vs a) (e : Ext G w G' w') : Slots G' w' nt ops α L vs a := by
  refine ⟨h.size, h.defers, fun t => ?_, h.known⟩
  rcases h.get t with ⟨j, o, v, b1, b2, b3, b4, b5, b6⟩ | ⟨b1, b2⟩
  · exact .inl ⟨j, o, v, b1, b2, b3, b4, VR.ext e _ _ b5, b6⟩
  · exact .inr ⟨VR.ext e _ _ b1, b2⟩

/-- More values known. -/
theorem Slots.more {G : Ctx} {w : World} {nt : Nat} {ops : Array Oper} {α : Env} {L : Nat → Bool} {vs vs' : List (Option AV)} {a : Act} (h : Slots G w nt ops α L vs a) (e : ∀ (j : Nat) (u : AV), vs[j]? = some (some u) → vs'[j]? = some (some u)) : Slots G w nt ops α L vs' a := by
  refine ⟨h.size, h.defers, fun t => ?_, fun j o h1 h2 => ?_⟩
  · rcases h.get t with ⟨j, o, v, b1, b2, b3, b4, b5, b6⟩ | ⟨b1, b2⟩
    · exact .inl ⟨j, o, v, b1, b2, b3, e _ _ b4, b5, b6⟩
    · exact .inr ⟨b1, b2⟩
  · obtain ⟨v, hv⟩ := h.known j o h1 h2
    exact ⟨v, e _ _ hv⟩

/-- Operation i is done. -/
theorem Slots.put {G : Ctx} {w : World} {nt : Nat} {ops : Array Oper} {α : Env} {L L' : Nat → Bool} {vs : List (Option AV)} {a : Act} (h : Slots G w nt ops α L vs a) {i : Nat} {o : Oper} {v : AV} {x : Value}
    (ho : ops[i]? = some o) (hd : ∀ d, o.dst = some d → d < nt) (hv : vs[i]? = some (some v)) (hx : VR G w v x) (hL : ∀ j, L' j = (L j || decide (j = i))) (hl : ∀ (k : Nat) (o' : Oper), L k = true → ops[k]? = some o' → ∀ t, o.dst = some t → o'.dst = some t → k ≤ i) :
    Slots G w nt ops α L' vs (a.put o.dst x) := by
  refine ⟨by unfold Act.put; split <;> simp [h.size], by unfold Act.put; split <;> simp [h.defers], fun t => ?_, fun j p h1 h2 => ?_⟩
  · by_cases ht : o.dst = some t
    · refine .inl ⟨i, o, v, by simp [hL], ho, ht, hv, ?_, fun k o' h1 h2 h3 => ?_⟩
      · rw [ht]
        simp only [Act.put, Array.getD_eq_getD_getElem?, Array.getElem?_setIfInBounds_self_of_lt (show t < a.tmps.size by rw [h.size]; exact hd t ht), Option.getD_some]
        exact hx
      · rw [hL] at h1
        by_cases hk : k = i
        · omega
        · exact hl k o' (by simpa [hk] using h1) h2 t ht h3
    · have hsame : (a.put o.dst x).tmps.getD t undef = a.tmps.getD t undef := by
        cases hod : o.dst with
        | none => rfl
        | some d =>
          have hne : d ≠ t := fun e => ht (by rw [hod, e])
          simp only [Act.put, Array.getD_eq_getD_getElem?, Array.getElem?_setIfInBounds_ne hne]
      rw [hsame]
      rcases h.get t with ⟨j, p, u, b1, b2, b3, b4, b5, b6⟩ | ⟨b1, b2⟩
      · refine .inl ⟨j, p, u, by simp [hL, b1], b2, b3, b4, b5, fun k o' h1 h2 h3 => ?_⟩
        rw [hL] at h1
        by_cases hk : k = i
        · subst hk
          rw [ho] at h2
          cases h2
          exact absurd h3 ht
        · exact b6 k o' (by simpa [hk] using h1) h2 h3
      · refine .inr ⟨b1, fun j p h1 h2 h3 => ?_⟩
        rw [hL] at h1
        by_cases hk : j = i
        · subst hk
          rw [ho] at h2
          cases h2
          exact absurd h3 ht
        · exact b2 j p (by simpa [hk] using h1) h2 h3
  · rw [hL] at h1
    by_cases hk : j = i
    · subst hk; exact ⟨v, hv⟩
    · exact h.known j p (by simpa [hk] using h1) h2

end Go.AVM

namespace Go.AVM
open Go.RowKit

/-- After the pass. -/
def nextK (T : Mach) (C : Oracle) (mu : Tmp → Bool) (ops : Array Oper) (ms : List Nat) (α : Env) (k : Env → St → Ans) : List (Nat × Oper × Nat) → List (Option AV) → St → Nat → Ans
  | [], vs', s, sure => k (envF α ops.toList vs') s
  | (i, o, m) :: r, vs', s, sure => match wantedA ops (envF α (ops.toList.take i) (vs'.take i)) o with
      | some true => stepOp T C (muOf mu o) s o (ev T.ng (envF α (ops.toList.take i) (vs'.take i))) fun v s' => drawnK T C mu ops ms α k r (vs'.set i (some v)) s' (sure ||| (m ||| 2 ^ i))
      | some false => drawnK T C mu ops ms α k r (vs'.set i (some undefA)) s (sure ||| (m ||| 2 ^ i))
      | none => .stop o

theorem drawnK_eq (T : Mach) (C : Oracle) (mu : Tmp → Bool) (ops : Array Oper) (ms : List Nat) (α : Env) (k : Env → St → Ans) (effs : List (Nat × Oper × Nat)) (vs : List (Option AV)) (s : St) (sure : Nat) :
    drawnK T C mu ops ms α k effs vs s sure = match passL T ops s sure (remOf effs) ops.toList ms vs 0 α with
    | none => .fail
    | some vs' => nextK T C mu ops ms α k effs vs' s sure := by
  cases effs with
  | nil =>
    simp only [drawnK, remOf, nextK]
    all_goals (cases passL T ops s sure 0 ops.toList ms vs 0 α <;> rfl)
  | cons e r =>
    obtain ⟨i, o, m⟩ := e
    simp only [drawnK, nextK]
    all_goals (cases passL T ops s sure (remOf ((i, o, m) :: r)) ops.toList ms vs 0 α <;> rfl)

structure Inv (ops : Array Oper) (effs : List (Nat × Oper × Nat)) (listed : Array Bool) (sure : Nat) : Prop where
  size : listed.size = ops.size
  closed : OpsClosed ops fun i => listed.getD i false
  effOk : ∀ e, e ∈ effs → ops[e.1]? = some e.2.1 ∧ e.2.2 = maskAt ops e.1 ∧ isEff e.2.1 = true ∧ listed.getD e.1 false = false
  all : ∀ (i : Nat) (o : Oper), ops[i]? = some o → isEff o = true → listed.getD i false = true ∨ ∃ e : Nat × Oper × Nat, e ∈ effs ∧ e.1 = i
  pair : effs.Pairwise fun e f => (maskAt ops f.1).testBit e.1 = true
  sureOk : ∀ i, sure.testBit i = true → listed.getD i false = true

theorem getD_set (listed : Array Bool) {i : Nat} (h : i < listed.size) (j : Nat) : (listed.setIfInBounds i true).getD j false = (listed.getD j false || decide (j = i)) := by
  by_cases hj : j = i
  · subst hj
    simp [h]
  · have : i ≠ j := fun e => hj e.symm
    simp [Array.getElem?_setIfInBounds_ne this, hj]

theorem cnt_set (listed : Array Bool) {i : Nat} (h : i < listed.size) (hf : listed.getD i false = false) : (listed.setIfInBounds i true).toList.count false + 1 = listed.toList.count false := by
  have hi : listed.toList[i]'(by simpa using h) = false := by
    simpa [h] using hf
  rw [Array.toList_setIfInBounds, List.count_set (by simpa using h)]
  have hm : false ∈ listed.toList := by rw [← hi]; exact List.getElem_mem _
  have := List.count_pos_iff.2 hm
  simp [h] at hi
  simp [hi]
  have h2 : 0 < listed.count false := by simpa using this
  omega

section
variable {T : Mach} {C : Oracle} {B : Nat} {w0 : World} {mu : Tmp → Bool} {ops : Array Oper} {nt : Nat} {α : Env} {k : Env → St → Ans} {R : AV × St → Prop} {Q : Exit → Act → World → Prop} {G0 : Ctx} {w00 : World}

theorem drawn_end (hok : OpsOk nt ops)
    (hk : ∀ α a G' w' s, (k α s).all R → EnvR G' w' nt α a → WRel T.ng B w0 G' w' s → Ext G0 w00 G' w' → Q .normal a w')
    {effs : List (Nat × Oper × Nat)} {vs : List (Option AV)} {sure : Nat} {listed : Array Bool} {a : Act} {G : Ctx} {w : World} {s : St}
    (hq : (nextK T C mu ops (masks ops.toList []) α k effs vs s sure).all R)
    (hI : Inv ops effs listed sure) (hS : Slots G w nt ops α (fun i => listed.getD i false) vs a) (hw : WRel T.ng B w0 G w s) (he : Ext G0 w00 G w) (hlen : vs.length = ops.size)
    (hall : ∀ i, i < ops.size → listed.getD i false = true) : Q .normal a w := by
  have hnil : effs = [] := by
    cases effs with
    | nil => rfl
    | cons e r =>
      obtain ⟨h1, _, _, h4⟩ := hI.effOk e (by simp)
      have := hall e.1 (Array.getElem?_eq_some_iff.1 h1).1
      rw [h4] at this
      cases this
  subst hnil
  simp only [nextK] at hq
  refine hk _ a G w s hq ⟨hS.size, hS.defers, fun t => ?_⟩ hw he
  have := hS.read (t := t) (i := ops.size) fun j o hj _ => ⟨fun h => hall j h, fun _ => (Array.getElem?_eq_some_iff.1 hj).1⟩
  rw [List.take_of_length_le (by simp), List.take_of_length_le (by omega)] at this
  exact this

theorem all_listed (hok : OpsOk nt ops) {listed : Array Bool} (hs : listed.size = ops.size) (hr : Region.ready .any ops listed = []) : ∀ i, i < ops.size → listed.getD i false = true := by
  intro i
  induction i using Nat.strongRecOn with
  | _ i ih =>
    intro hi
    cases hb : listed.getD i false with
    | true => rfl
    | false =>
      have ho : ops[i]? = some ops[i] := Array.getElem?_eq_getElem hi
      have : i ∈ Region.ready .any ops listed := ready_iff.2 ⟨by simpa [hs, hi] using hb, ops[i], ho, fun u hu => ih u (hok.lt i _ ho u hu) (Nat.lt_trans (hok.lt i _ ho u hu) hi)⟩
      rw [hr] at this
      cases this

/-- Operation i, ready: who writes its slots. -/
theorem ready_read (hok : OpsOk nt ops) {listed : Array Bool} (hc : OpsClosed ops fun i => listed.getD i false) {i : Nat} {o : Oper} (ho : ops[i]? = some o) (hun : listed.getD i false = false)
    (hp : ∀ u, u ∈ onsOf o → listed.getD u false = true) {t : Nat} (ht : t ∈ names ops o) : ∀ (j : Nat) (p : Oper), ops[j]? = some p → p.dst = some t → j ≠ i → (j < i ↔ listed.getD j false = true) := by
  intro j p hj hd hji
  constructor
  · intro hlt
    rcases hok.pair j i p o hlt hj ho with h | ⟨h1, _, _⟩
    · exact mask_listed hok hc ho hp h
    · exact absurd ht (h1 t hd)
  · intro hl
    rcases Nat.lt_or_ge j i with h | h
    · exact h
    · have hij : i < j := by omega
      rcases hok.pair i j o p hij ho hj with h | ⟨_, h2, _⟩
      · have := mask_listed hok hc hj (hc j p hj hl) h
        try simp only at this
        rw [hun] at this
        cases this
      · exact absurd ht (h2 t hd)

theorem drawn_go (hT : MachOk T) (hC : OracleOk T C) (hok : OpsOk nt ops) (hσ : Fit T B w0 G0)
    (hk : ∀ α a G' w' s, (k α s).all R → EnvR G' w' nt α a → WRel T.ng B w0 G' w' s → Ext G0 w00 G' w' → Q .normal a w') :
    ∀ (fuel : Nat) (effs : List (Nat × Oper × Nat)) (vs : List (Option AV)) (sure : Nat) (listed : Array Bool) (a : Act) (G : Ctx) (w : World) (s : St),
      listed.toList.count false ≤ fuel → (nextK T C mu ops (masks ops.toList []) α k effs vs s sure).all R →
      Inv ops effs listed sure → Slots G w nt ops α (fun i => listed.getD i false) vs a → WRel T.ng B w0 G w s → Ext G0 w00 G w →
      vs.length = ops.size →
      (∀ (i : Nat) (o : Oper), ops[i]? = some o → isEff o = false → sure.testBit i = false → (maskAt ops i &&& remOf effs) = 0 → ∃ v, vs[i]? = some (some v) ∧ quietVal T ops s (envF α (ops.toList.take i) (vs.take i)) o = some v) →
      wpAny T.P .any ops Q fuel listed a w := by
  intro fuel
  induction fuel with
  | zero =>
    intro effs vs sure listed a G w s hcnt hq hI hS hw he hlen hV
    have hall : ∀ i, i < ops.size → listed.getD i false = true := fun i hi => by
      have h0 : listed.toList.count false = 0 := by omega
      have hi' : i < listed.size := by rw [hI.size]; exact hi
      by_cases hb : listed[i] = true
      · simp [hi', hb]
      · have hb : listed[i] = false := by simpa using hb
        have : false ∈ listed.toList := by rw [← hb]; simp
        exact absurd h0 (by have := List.count_pos_iff.2 this; omega)
    refine ⟨?_, drawn_end hok hk hq hI hS hw he hlen hall⟩
    cases hr : Region.ready .any ops listed with
    | nil => rfl
    | cons j r =>
      have : j ∈ Region.ready .any ops listed := by rw [hr]; simp
      obtain ⟨h1, o, h2, _⟩ := ready_iff.1 this
      have h3 := hall j (Array.getElem?_eq_some_iff.1 h2).1
      have h4 : j < listed.size := by rw [hI.size]; exact (Array.getElem?_eq_some_iff.1 h2).1
      simp [h4] at h1 h3
      rw [h1] at h3
      cases h3
  | succ fuel ih =>
    intro effs vs sure listed a G w s hcnt hq hI hS hw he hlen hV
    refine ⟨fun hr => drawn_end hok hk hq hI hS hw he hlen (all_listed hok hI.size hr), fun i hi => ?_⟩
    obtain ⟨hun', o, ho, hp⟩ := ready_iff.1 hi
    have hilt : i < listed.size := by rw [hI.size]; exact (Array.getElem?_eq_some_iff.1 ho).1
    have hun : listed.getD i false = false := by simpa [hilt] using hun'
    have hread := fun (t : Nat) (ht : t ∈ names ops o) (hself : o.dst ≠ some t) => hS.read (t := t) (i := i) fun j p hj hd => ready_read hok hI.closed ho hun hp ht j p hj hd (fun e => by subst e; rw [ho] at hj; cases hj; exact hself hd)
    have hread' := fun (t : Nat) (ht : t ∈ o.looksAt ops) => hS.read (t := t) (i := i) fun j p hj hd => by
      by_cases hji : j = i
      · subst hji
        rw [hun]
        simp
      · exact ready_read hok hI.closed ho hun hp (by simp [names, ht]) j p hj hd hji
    have hlast : ∀ (k : Nat) (o' : Oper), listed.getD k false = true → ops[k]? = some o' → ∀ t, o.dst = some t → o'.dst = some t → k ≤ i := fun k o' h1 h2 t h3 h4 => by
      have hne : k ≠ i := fun e => by subst e; rw [hun] at h1; cases h1
      exact Nat.le_of_lt ((ready_read hok hI.closed ho hun hp (by simp [names, h3]) k o' h2 h4 hne).2 h1)
    have hL' := getD_set listed hilt
    have hcnt' := cnt_set listed hilt hun
    have hclosed' : OpsClosed ops fun j => (listed.setIfInBounds i true).getD j false := fun j p hj hl u hu => by
      simp only [hL'] at hl ⊢
      by_cases hji : j = i
      · subst hji
        rw [ho] at hj
        cases hj
        simp [hp u hu]
      · have := hI.closed j p hj (by simpa [hji] using hl) u hu
        try simp only at this
        simp [this]
    have hops : ∀ x, x ∈ o.op.operands → VR G w (ev T.ng (envF α (ops.toList.take i) (vs.take i)) x) (a.eval x) := fun x hx =>
      ev_VR hw fun t htx => hread' t (List.mem_append_left _ (List.mem_filterMap.2 ⟨x, by simpa using hx, by subst htx; rfl⟩))
    have hguard : ∀ j want d, o.guard = some (j, want) → dstOf ops j = some d → VR G w (getA (envF α (ops.toList.take i) (vs.take i)) d) (a.tmps.getD d undef) := fun j want d hg hd =>
      hread' d (List.mem_append_right _ (by unfold dstOf at hd; simp [hg, hd]))
    unfold wpOp
    simp only [ho]
    cases hef : isEff o with
    | false =>
      obtain ⟨v, hv1, hv2⟩ := hV i o ho hef (by
        cases hb : sure.testBit i with
        | false => rfl
        | true => have := hI.sureOk i hb; rw [hun] at this; cases this) (by
        apply Nat.eq_of_testBit_eq
        intro b
        rw [Nat.testBit_and, Nat.zero_testBit]
        cases hb : (maskAt ops i).testBit b with
        | false => rfl
        | true =>
          cases hb2 : (remOf effs).testBit b with
          | false => rfl
          | true =>
            obtain ⟨e, he1, he2⟩ := remOf_bit hb2
            have h1 := (hI.effOk e he1).2.2.2
            have h2 := mask_listed hok hI.closed ho hp hb
            try simp only at h2
            rw [he2, h2] at h1
            cases h1)
      have hI' : Inv ops effs (listed.setIfInBounds i true) sure := by
        refine ⟨by simp [hI.size], hclosed', fun e h => ?_, fun j p hj hp' => ?_, hI.pair, fun j hj => by rw [hL', hI.sureOk j hj]; rfl⟩
        · obtain ⟨h1, h2, h3, h4⟩ := hI.effOk e h
          refine ⟨h1, h2, h3, ?_⟩
          rw [hL', h4]
          have : e.1 ≠ i := fun hei => by
            rw [hei, ho] at h1
            simp only [Option.some.injEq] at h1
            rw [← h1, hef] at h3
            cases h3
          simp [this]
        · rcases hI.all j p hj hp' with h | h
          · exact .inl (by rw [hL', h]; rfl)
          · exact .inr h
      unfold quietVal at hv2
      split at hv2
      · rename_i hwt
        rw [wantedA_sound (w := w) (G := G) hwt hguard]
        simp only [if_true]
        obtain ⟨y, h1, h2⟩ := qop_sound (P := T.P) hw hops hv2
        refine .inl ?_
        unfold Oper.wp
        rw [h1]
        exact ih effs vs sure _ _ G w s (by omega) hq hI' (hS.put ho (hok.dst i o ho) hv1 h2 hL' hlast) hw he hlen hV
      · rename_i hwt
        rw [wantedA_sound (w := w) (G := G) hwt hguard]
        simp only [Bool.false_eq_true, if_false]
        simp only [Option.some.injEq] at hv2
        subst hv2
        exact ih effs vs sure _ _ G w s (by omega) hq hI' (hS.put ho (hok.dst i o ho) hv1 (by simp [VR, undefA]) hL' hlast) hw he hlen hV
      · cases hv2
    | true =>
      obtain ⟨e, he1, he2⟩ := (hI.all i o ho hef).resolve_left (by rw [hun]; simp)
      cases effs with
      | nil => cases he1
      | cons e0 r =>
        have hee : e0.1 = i := by
          rcases List.mem_cons.1 he1 with rfl | he1
          · exact he2
          · have h1 := (List.pairwise_cons.1 hI.pair).1 e he1
            rw [he2] at h1
            have h2 := mask_listed hok hI.closed ho hp h1
            have h3 := (hI.effOk e0 (by simp)).2.2.2
            try simp only at h2
            rw [h2] at h3
            cases h3
        obtain ⟨i0, o0, m0⟩ := e0
        simp only at hee
        subst hee
        obtain ⟨g1, g2, g3, g4⟩ := hI.effOk (i0, o0, m0) (by simp)
        simp only at g1 g2 g3 g4
        rw [ho] at g1
        simp only [Option.some.injEq] at g1
        subst g1
        simp only [nextK] at hq
        have hI' : Inv ops r (listed.setIfInBounds i0 true) (sure ||| (m0 ||| 2 ^ i0)) := by
          refine ⟨by simp [hI.size], hclosed', fun e h => ?_, fun j p hj hp' => ?_, (List.pairwise_cons.1 hI.pair).2, fun j hj => ?_⟩
          · obtain ⟨h1, h2, h3, h4⟩ := hI.effOk e (by simp [h])
            refine ⟨h1, h2, h3, ?_⟩
            rw [hL', h4]
            have hb := (List.pairwise_cons.1 hI.pair).1 e h
            have : e.1 ≠ i0 := fun hei => by
              have hb' := mask_listed hok hI.closed h1 (fun u hu => ?_) hb
              · try simp only at hb'
                rw [hun] at hb'
                cases hb'
              · rw [hei, ho] at h1
                simp only [Option.some.injEq] at h1
                rw [← h1] at hu
                exact hp u hu
            simp [this]
          · rcases hI.all j p hj hp' with h | ⟨e, h1, h2⟩
            · exact .inl (by rw [hL', h]; rfl)
            · rcases List.mem_cons.1 h1 with rfl | h1
              · simp only at h2
                subst h2
                exact .inl (by rw [hL']; simp)
              · exact .inr ⟨e, h1, h2⟩
          · rw [hL']
            simp only [Nat.testBit_or, Bool.or_eq_true, Nat.testBit_two_pow, decide_eq_true_eq] at hj
            rcases hj with hj | hj | hj
            · rw [hI.sureOk j hj]; rfl
            · rw [g2] at hj
              have := mask_listed hok hI.closed ho hp hj
              try simp only at this
              rw [this]; rfl
            · simp [hj]
        have hi0 : i0 < vs.length := by rw [hlen]; exact (Array.getElem?_eq_some_iff.1 ho).1
        have hset : ∀ v : AV, (vs.set i0 (some v))[i0]? = some (some v) := fun v => by rw [List.getElem?_set_self hi0]
        -- what goes on behind an effect
        have go : ∀ (v : AV) (x : Value) (G' : Ctx) (w' : World) (s' : St), (drawnK T C mu ops (masks ops.toList []) α k r (vs.set i0 (some v)) s' (sure ||| (m0 ||| 2 ^ i0))).all R → VR G' w' v x → WRel T.ng B w0 G' w' s' → Ext G w G' w' →
            wpAny T.P .any ops Q fuel (listed.setIfInBounds i0 true) (a.put o.dst x) w' := fun v x G' w' s' hq' hv hw' he' => by
          rw [drawnK_eq] at hq'
          split at hq'
          · exact hq'.elim
          · rename_i vs' hpass
            obtain ⟨p1, p2, p3, p4⟩ := passL_spec _ _ _ _ _ _ _ _ _ _ _ hpass
            have hkeep : ∀ (j : Nat) (u : AV), vs[j]? = some (some u) → (fun j => listed.getD j false) j = true → vs'[j]? = some (some u) := fun j u hj hl => by
              apply p3
              have : i0 ≠ j := fun e => by subst e; simp only at hl; rw [hun] at hl; cases hl
              rw [List.getElem?_set_ne this]
              exact hj
            have hS1 : Slots G' w' nt ops α (fun j => listed.getD j false) vs' a := by
              have hS' := hS.ext he'
              refine ⟨hS'.size, hS'.defers, fun t => ?_, fun j p h1 h2 => ?_⟩
              · rcases hS'.get t with ⟨j, p, u, b1, b2, b3, b4, b5, b6⟩ | h
                · exact .inl ⟨j, p, u, b1, b2, b3, hkeep j u b4 b1, b5, b6⟩
                · exact .inr h
              · obtain ⟨u, hu⟩ := hS'.known j p h1 h2
                exact ⟨u, hkeep j u hu h1⟩
            refine ih r vs' _ _ _ G' w' s' (by omega) hq' hI' (hS1.put ho (hok.dst i0 o ho) (p3 _ _ (hset v)) hv hL' hlast) hw' (he.trans he') (by simpa using p1) fun j p hj hne hsu hmr => ?_
            obtain ⟨u, u1, u2⟩ := p4 j p (maskAt ops j) (by simpa using hj) (by
              have hjl : j < (masks ops.toList []).length := by rw [masks_len]; simpa using (Array.getElem?_eq_some_iff.1 hj).1
              unfold maskAt
              rw [List.getD_eq_getElem?_getD, List.getElem?_eq_getElem hjl]
              rfl) (by
              unfold skipOp
              rw [bit_eq, Nat.zero_add, hne, hsu, show Nat.land (maskAt ops j) (remOf r) = 0 from hmr]
              rfl)
            exact ⟨u, u1, u2⟩
        split at hq
        · rename_i hwt
          rw [wantedA_sound (w := w) (G := G) hwt hguard]
          simp only [if_true]
          exact .inl (stepOp_sound hT hC (hσ.next he) hw hops hq fun v x G' w' s' h1 h2 h3 h4 => go v x G' w' s' h1 h2 h3 h4)
        · rename_i hwt
          rw [wantedA_sound (w := w) (G := G) hwt hguard]
          simp only [Bool.false_eq_true, if_false]
          exact go undefA undef G w s hq (by simp [VR, undefA]) hw (Ext.refl _ _)
        · exact hq.elim

end
end Go.AVM
