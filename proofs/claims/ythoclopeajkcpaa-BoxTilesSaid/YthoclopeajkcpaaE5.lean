/- More of the machine's steps: places, parts, aggregates. -/
import Derived.Test.YthoclopeajkcpaaE4
set_option linter.unusedVariables false
set_option linter.unusedSimpArgs false
namespace Go.Proofs.Ythoclopeajkcpaa.E
open Go Go.RowKit

/-! ### places -/
def afield (P : Program) (t : TypeId) (f : Nat) : Value → Option Value
  | .pointer (some ⟨b, off, some g⟩) =>
    match tfld P t f with
    | some (o, u) => match tsz P u with
      | some s => if s ≠ 0 then some (ap b (off + o) g) else none
      | none => none
    | none => none
  | _ => none

theorem run_afield {P : Program} {M : Mp} {t : TypeId} {f : Nat} {x x' v : Value} (hx : VR M x x') (h : afield P t f x = some v) (w : World) :
    ∃ v', (Instr.fieldAt t x' f).run P w = .ok v' w ∧ VR M v v' := by
  unfold afield at h
  split at h
  case h_2 => cases h
  rename_i b off g
  obtain ⟨c, o, n, hM, rfl⟩ := hx.ptr_inv
  split at h
  case h_2 => cases h
  rename_i fo u hf
  split at h
  case h_2 => cases h
  rename_i s hs
  split at h
  case isFalse => cases h
  rename_i hz
  cases h
  unfold tfld at hf
  split at hf
  case h_2 => cases hf
  rename_i fs hu
  cases hfi : fs[f]? with
  | none => rw [hfi] at hf; cases hf
  | some fd =>
    rw [hfi] at hf
    simp only [Option.map_some, Option.some.injEq, Prod.mk.injEq] at hf
    obtain ⟨rfl, rfl⟩ := hf
    refine ⟨.pointer (some ⟨c, o + off + fd.offset, none⟩), ?_, ?_⟩
    · simp [Instr.fieldAt, run_underlying hu, hfi, Instr.sureAddr, fieldPlace, tsz_run hs, hz, add_off]
    · have := VR.ptr (off := off + fd.offset) hM
      rwa [show o + (off + fd.offset) = o + off + fd.offset by omega] at this

def aindex (P : Program) (t : TypeId) (x i : Value) : Option Value :=
  match i with
  | .int _ n =>
    match x with
    | .pointer (some ⟨b, off, some g⟩) =>
      match tarr P t with
      | some (len, e) => match tsz P e with
        | some s => if 0 ≤ n ∧ n < (len : Int) then some (ap b (off + n.toNat * s) g) else none
        | none => none
      | none => none
    | .slice (some ⟨b, off, some g⟩) len _ =>
      match tslice P t with
      | some e => match tsz P e with
        | some s => if 0 ≤ n ∧ n < (len : Int) then some (ap b (off + n.toNat * s) g) else none
        | none => none
      | none => none
    | _ => none
  | _ => none

theorem VR.sl_inv {M : Mp} {b off g len e : Nat} {v' : Value} (r : VR M (.slice (some ⟨b, off, some g⟩) len e) v') :
    (∃ c o n cap, M b g = some (c, o, n) ∧ len ≤ cap ∧ o + off + cap * e ≤ n ∧ v' = .slice (some ⟨c, o + off, none⟩) len cap) ∨ (len = 0 ∧ ∃ a' x, M b g = some x ∧ v' = .slice (some a') 0 0) := by
  cases r with
  | sl h a b => exact .inl ⟨_, _, _, _, h, a, b, rfl⟩
  | ze h => exact .inr ⟨rfl, _, _, h, rfl⟩

theorem run_aindex {P : Program} {M : Mp} {t : TypeId} {x x' i i' v : Value} (hx : VR M x x') (hi : VR M i i') (h : aindex P t x i = some v) (w : World) :
    ∃ v', (Instr.indexAt t x' i').run P w = .ok v' w ∧ VR M v v' := by
  unfold aindex at h
  split at h
  case h_2 => cases h
  rename_i k n
  have := hi.int_inv; subst this
  split at h
  case h_3 => cases h
  · rename_i b off g
    obtain ⟨c, o, m, hM, rfl⟩ := hx.ptr_inv
    split at h
    case h_2 => cases h
    rename_i len e ha
    split at h
    case h_2 => cases h
    rename_i s hs
    split at h
    case isFalse => cases h
    rename_i hc
    cases h
    refine ⟨.pointer (some ⟨c, o + off + n.toNat * s, none⟩), ?_, ?_⟩
    · simp [Instr.indexAt, run_underlying (tarr_und ha), asIntOf, Instr.sureAddr, hc, tsz_run hs, add_off]
    · have := VR.ptr (off := off + n.toNat * s) hM
      rwa [show o + (off + n.toNat * s) = o + off + n.toNat * s by omega] at this
  · rename_i b off g len e0
    split at h
    case h_2 => cases h
    rename_i e ha
    split at h
    case h_2 => cases h
    rename_i s hs
    split at h
    case isFalse => cases h
    rename_i hc
    cases h
    rcases hx.sl_inv with ⟨c, o, m, cap, hM, _, _, rfl⟩ | ⟨h0, _⟩
    · refine ⟨.pointer (some ⟨c, o + off + n.toNat * s, none⟩), ?_, ?_⟩
      · simp [Instr.indexAt, run_underlying (tslice_und ha), asIntOf, hc, tsz_run hs, add_off]
      · have := VR.ptr (off := off + n.toNat * s) hM
        rwa [show o + (off + n.toNat * s) = o + off + n.toNat * s by omega] at this
    · omega

/-- A part of an aggregate. -/
def apart (P : Program) (t : TypeId) (cs : List Value) (off : Nat) : Option Value :=
  match tagg P t, tsz P t with
  | some true, some s => if off + s ≤ cs.length then some (.agg ((cs.drop off).take s).toArray) else none
  | some false, _ => cs[off]?
  | _, _ => none

theorem run_apart {P : Program} {M : Mp} {t : TypeId} {cs : List Value} {ys : Array Value} {off : Nat} {v : Value} (hc : VCs M cs ys.toList) (h : apart P t cs off = some v) (w : World) :
    ∃ v', (part t ys off).run P w = .ok v' w ∧ VR M v v' := by
  unfold apart at h
  split at h
  · rename_i s ha hs
    split at h
    case isFalse => cases h
    cases h
    refine ⟨.agg (ys.extract off (off + s)), by simp [part, tagg_run ha, tsz_run hs], ?_⟩
    have := ((hc.drop off).take s).agg
    have e : (List.take s (List.drop off ys.toList)).toArray = ys.extract off (off + s) := by
      apply Array.ext'
      simp [Array.toList_extract, List.extract]
    rwa [e] at this
  · rename_i ha
    obtain ⟨v', h1, h2⟩ := hc.1.get h
    refine ⟨v', ?_, h2⟩
    have : ys[off]? = some v' := by simpa using h1
    simp [part, tagg_run ha, this]
  · cases h

theorem agg_cells {M : Mp} {xs : Array Value} {v' : Value} (r : VR M (.agg xs) v') : ∃ ys, v' = .agg ys ∧ VCs M xs.toList ys.toList := by
  have := cellsL_rel r (cs := xs.toList) rfl
  obtain ⟨ys, rfl, _⟩ := r.agg_inv
  exact ⟨ys, rfl, this⟩

def afieldv (P : Program) (t : TypeId) (f : Nat) : Value → Option Value
  | .agg cs => match tfld P t f with
    | some (o, u) => apart P u cs.toList o
    | none => none
  | _ => none

theorem run_afieldv {P : Program} {M : Mp} {t : TypeId} {f : Nat} {x x' v : Value} (hx : VR M x x') (h : afieldv P t f x = some v) (w : World) :
    ∃ v', (Instr.field t x' f).run P w = .ok v' w ∧ VR M v v' := by
  unfold afieldv at h
  split at h
  case h_2 => cases h
  rename_i cs
  obtain ⟨ys, rfl, hc⟩ := agg_cells hx
  split at h
  case h_2 => cases h
  rename_i o u hf
  obtain ⟨v', h1, h2⟩ := run_apart hc h w
  refine ⟨v', ?_, h2⟩
  unfold tfld at hf
  split at hf
  case h_2 => cases hf
  rename_i fs hu
  cases hfi : fs[f]? with
  | none => rw [hfi] at hf; cases hf
  | some fd =>
    rw [hfi] at hf
    simp only [Option.map_some, Option.some.injEq, Prod.mk.injEq] at hf
    obtain ⟨rfl, rfl⟩ := hf
    simp [Instr.field, run_underlying hu, hfi, asAgg, h1]

def aindexv (P : Program) (t : TypeId) (x i : Value) : Option Value :=
  match x, i with
  | .agg cs, .int _ n => match tarr P t with
    | some (len, e) => match tsz P e with
      | some s => if 0 ≤ n ∧ n < (len : Int) then apart P e cs.toList (n.toNat * s) else none
      | none => none
    | none => none
  | .string b, .int _ n => if tstr P t = true ∧ 0 ≤ n then match b[n.toNat]? with
      | some c => some (.int .u8 c.toNat)
      | none => none
    else none
  | _, _ => none

theorem tstr_und {P : Program} {t : TypeId} (h : tstr P t = true) : P.underlying t = some .string := by
  unfold tstr at h
  split at h
  · assumption
  · cases h

theorem run_aindexv {P : Program} {M : Mp} {t : TypeId} {x x' i i' v : Value} (hx : VR M x x') (hi : VR M i i') (h : aindexv P t x i = some v) (w : World) :
    ∃ v', (Instr.index t x' i').run P w = .ok v' w ∧ VR M v v' := by
  unfold aindexv at h
  split at h
  case h_3 => cases h
  · rename_i cs k n
    obtain ⟨ys, rfl, hc⟩ := agg_cells hx
    have := hi.int_inv; subst this
    split at h
    case h_2 => cases h
    rename_i len e ha
    split at h
    case h_2 => cases h
    rename_i s hs
    split at h
    case isFalse => cases h
    rename_i hn
    obtain ⟨v', h1, h2⟩ := run_apart hc h w
    exact ⟨v', by simp [Instr.index, run_underlying (tarr_und ha), asIntOf, hn, tsz_run hs, h1], h2⟩
  · rename_i s k n
    have := hx.str_inv; subst this
    have := hi.int_inv; subst this
    split at h
    case isFalse => cases h
    rename_i hc
    split at h
    case h_2 => cases h
    rename_i c hb
    cases h
    exact ⟨.int .u8 c.toNat, by simp [Instr.index, run_underlying (tstr_und hc.1), asIntOf, hc.2, hb], .int _ _⟩

/-! ### aggregates -/
def fillL (place : Nat → Option (Nat × Nat)) (cells : List Value) : List (Nat × Value) → Option (List Value)
  | [] => some cells
  | (i, v) :: rest =>
    match place i, cellsL v with
    | some (off, size), some cs => if cs.length = size ∧ off + size ≤ cells.length then fillL place (splice cells off cs) rest else none
    | _, _ => none

theorem foldl_set (vs : List Value) : ∀ (off : Nat) (cells : Array Value), off + vs.length ≤ cells.size → ∀ (j : Nat),
    ((vs.zipIdx j).foldl (fun cs (x : Value × Nat) => cs.setIfInBounds (off + (x.2 - j)) x.1) cells).toList = splice cells.toList off vs := by
  intro off cells h j
  suffices H : ∀ (vs : List Value) (d : Nat) (cells : Array Value), off + d + vs.length ≤ cells.size →
      ((vs.zipIdx (j + d)).foldl (fun cs (x : Value × Nat) => cs.setIfInBounds (off + (x.2 - j)) x.1) cells).toList = splice cells.toList (off + d) vs by
    have := H vs 0 cells (by omega)
    simpa using this
  intro vs
  induction vs with
  | nil => intro d cells h; simp [splice]
  | cons v vs ih =>
    intro d cells h
    simp only [List.zipIdx_cons, List.foldl_cons]
    rw [show j + d + 1 = j + (d + 1) by omega, ih (d + 1) _ (by simp at h ⊢; omega)]
    rw [show off + (j + d - j) = off + d by omega]
    apply List.ext_getElem?
    intro i
    simp at h
    rw [splice_get _ _ _ (by simp; omega), splice_get _ _ _ (by simp; omega)]
    simp only [Array.toList_setIfInBounds, List.length_cons]
    by_cases h1 : i < off + d
    · rw [if_pos (by omega), if_pos h1, List.getElem?_set_ne (by omega)]
    · by_cases h2 : i = off + d
      · subst h2
        rw [if_pos (by omega), if_neg (by omega), if_pos (by omega), List.getElem?_set_self (by simp; omega)]
        simp
      · rw [if_neg (by omega)]
        by_cases h3 : i < off + (d + 1) + vs.length
        · rw [if_pos h3, if_neg h1, if_pos (by omega), show i - (off + d) = (i - (off + (d + 1))) + 1 by omega]
          simp
        · rw [if_neg h3, if_neg h1, if_neg (by omega), List.getElem?_set_ne (by omega)]

theorem foldl_set0 (vs : List Value) (off : Nat) (cells : Array Value) (h : off + vs.length ≤ cells.size) :
    (vs.zipIdx.foldl (fun cs (x : Value × Nat) => cs.setIfInBounds (off + x.2) x.1) cells).toList = splice cells.toList off vs := by
  have := foldl_set vs off cells h 0
  simpa using this

theorem splice_rel {M : Mp} {l l' cs cs' : List Value} (off : Nat) (h : VCs M l l') (k : VCs M cs cs') : VCs M (splice l off cs) (splice l' off cs') := by
  unfold splice
  rw [← k.1.1]
  exact ((h.take off).append k).append (h.drop _)

theorem fill_rel {M : Mp} {place : Nat → Option (Nat × Nat)} : ∀ {parts parts' : List (Nat × Value)} {cells : List Value} {cells' : Array Value} {r : List Value},
    parts.length = parts'.length → (∀ (j : Nat) i v i' v', parts[j]? = some (i, v) → parts'[j]? = some (i', v') → i = i' ∧ VR M v v') → VCs M cells cells'.toList → fillL place cells parts = some r →
    ∃ r', Instr.fill place cells' parts' = some r' ∧ VCs M r r'.toList
  | [], [], cells, cells', r, _, _, hc, h => by
    cases h; exact ⟨cells', rfl, hc⟩
  | (i, v) :: ps, (i', v') :: ps', cells, cells', r, hl, hp, hc, h => by
    obtain ⟨rfl, hv⟩ := hp 0 i v i' v' rfl rfl
    simp only [fillL] at h
    cases hpl : place i with
    | none => rw [hpl] at h; cases h
    | some os =>
      obtain ⟨off, size⟩ := os
      rw [hpl] at h
      cases hcs : cellsL v with
      | none => rw [hcs] at h; cases h
      | some cs =>
        rw [hcs] at h
        simp only at h
        split at h
        case isFalse => cases h
        rename_i hb
        obtain ⟨hb1, hb2⟩ := hb
        have hvc := cellsL_rel hv hcs
        have e1 : v'.cells.size = size := by rw [← Array.length_toList, ← hvc.1.1, hb1]
        have e2 : cells'.size = cells.length := by rw [← Array.length_toList, ← hc.1.1]
        have hfold : (v'.cells.zipIdx.foldl (fun cs (x : Value × Nat) => cs.setIfInBounds (off + x.2) x.1) cells').toList = splice cells'.toList off v'.cells.toList := by
          rw [← foldl_set0 _ _ _ (by simp; omega)]
          rw [← Array.foldl_toList, Array.toList_zipIdx]
        have hsp := splice_rel off hc hvc
        rw [← hfold] at hsp
        obtain ⟨r', h1, h2⟩ := fill_rel (parts := ps) (parts' := ps') (by simpa using hl) (fun j i v i' v' a b => hp (j + 1) i v i' v' (by simpa using a) (by simpa using b)) hsp h
        refine ⟨r', ?_, h2⟩
        simp only [Instr.fill, hpl]
        rw [if_neg (by simp [e1]; omega)]
        exact h1

/-- Operands with their numbers, evaluated on both sides. -/
theorem evp_rel {M : Mp} {sz : Nat} {T : Env} {a : Act} (h : ActR M sz T a) : ∀ {ps : List (Nat × Operand)} {vs : List (Nat × Value)}, evp T ps = some vs →
    vs.length = (ps.map fun (i, x) => (i, a.eval x)).length ∧ ∀ (j : Nat) i v i' v', vs[j]? = some (i, v) → (ps.map fun (i, x) => (i, a.eval x))[j]? = some (i', v') → i = i' ∧ VR M v v'
  | [], vs, e => by cases e; exact ⟨rfl, fun j i v i' v' h => by simp at h⟩
  | (i, x) :: ps, vs, e => by
    simp only [evp] at e
    split at e
    case h_2 => cases e
    rename_i v us h1 h2
    cases e
    obtain ⟨l1, l2⟩ := evp_rel h h2
    refine ⟨by simpa using l1, fun j i' u i'' u' a b => ?_⟩
    cases j with
    | zero => simp at a b; obtain ⟨rfl, rfl⟩ := a; obtain ⟨rfl, rfl⟩ := b; exact ⟨rfl, ev_rel h h1⟩
    | succ j => exact l2 j i' u i'' u' (by simpa using a) (by simpa using b)

def tplaces (P : Program) (t : TypeId) (i : Nat) : Option (Nat × Nat) :=
  match tfld P t i with
  | some (o, u) => (tsz P u).map (o, ·)
  | none => none

/-- Are all fields' sizes known? -/
def tsized (P : Program) (t : TypeId) : Bool :=
  match P.underlying t with
  | some (.struct fs) => fs.toList.all fun f => (tsz P f.type).isSome
  | _ => false

def abuild (P : Program) (t : TypeId) (parts : List (Nat × Value)) : Option Value :=
  match tzero P t with
  | some z =>
    match tarr P t with
    | some (_, e) => match tsz P e with
      | some s => (fillL (fun i => some (i * s, s)) z parts).map fun l => .agg l.toArray
      | none => none
    | none => if tsized P t = true then (fillL (tplaces P t) z parts).map fun l => .agg l.toArray else none
  | none => none

theorem mapM_places {P : Program} {w : World} : ∀ (fs : List Field), (∀ f ∈ fs, (tsz P f.type).isSome = true) →
    (fs.mapM (m := Sem) fun f => do pure (f.offset, ← sizeOf f.type)).run P w = .ok (fs.map fun f => (f.offset, (tsz P f.type).getD 0)) w
  | [], _ => rfl
  | f :: fs, h => by
    obtain ⟨s, hs⟩ := Option.isSome_iff_exists.1 (h f (by simp))
    have ih := mapM_places (P := P) (w := w) fs (fun g hg => h g (by simp [hg]))
    simp only [List.mapM_cons, Sem.run_bind, tsz_run hs, Result.andThen_ok, Sem.run_pure, ih, List.map_cons, hs, Option.getD_some]

theorem run_abuild {P : Program} {M : Mp} {t : TypeId} {parts : List (Nat × Value)} {parts' : Array (Nat × Value)} {v : Value}
    (hl : parts.length = parts'.toList.length) (hp : ∀ (j : Nat) i v i' v', parts[j]? = some (i, v) → parts'.toList[j]? = some (i', v') → i = i' ∧ VR M v v') (h : abuild P t parts = some v) (w : World) :
    ∃ v', (Instr.build t parts').run P w = .ok v' w ∧ VR M v v' := by
  unfold abuild at h
  split at h
  case h_2 => cases h
  rename_i z hz
  obtain ⟨zv, hz1, hz2, hz3⟩ := tzero_run hz w
  have hzc : VCs M z zv.cells.toList := by rw [hz2]; exact plains_rel hz3
  split at h
  · rename_i n e ha
    split at h
    case h_2 => cases h
    rename_i s hs
    cases hf : fillL (fun i => some (i * s, s)) z parts with
    | none => rw [hf] at h; cases h
    | some r =>
      rw [hf] at h; cases h
      obtain ⟨r', h1, h2⟩ := fill_rel hl hp hzc hf
      refine ⟨.agg r', by simp [Instr.build, hz1, run_underlying (tarr_und ha), tsz_run hs, h1], ?_⟩
      have := h2.agg
      simpa using this
  · split at h
    case isFalse => cases h
    rename_i hsd
    cases hf : fillL (tplaces P t) z parts with
    | none => rw [hf] at h; cases h
    | some r =>
      rw [hf] at h; cases h
      obtain ⟨r', h1, h2⟩ := fill_rel hl hp hzc hf
      refine ⟨.agg r', ?_, by have := h2.agg; simpa using this⟩
      unfold tsized at hsd
      split at hsd
      case h_2 => cases hsd
      rename_i fs hu
      rw [List.all_eq_true] at hsd
      have hm := mapM_places (P := P) (w := w) fs.toList hsd
      have hm' : (fs.mapM (m := Sem) fun f => do pure (f.offset, ← sizeOf f.type)).run P w = .ok (fs.map fun f => (f.offset, (tsz P f.type).getD 0)) w := by
        rw [Array.mapM_eq_mapM_toList]
        simp only [Sem.run_map, hm, Result.andThen_ok]
        congr 1
        apply Array.ext'
        simp
      have hpl : (fun i => (fs.map fun f => (f.offset, (tsz P f.type).getD 0))[i]?) = tplaces P t := by
        funext i
        simp only [tplaces, tfld, hu]
        cases hfi : fs[i]? with
        | none => simp [hfi]
        | some f =>
          obtain ⟨s, hs⟩ := Option.isSome_iff_exists.1 (hsd f (by
            have := Array.mem_of_getElem? hfi
            simpa using this))
          simp [hfi, hs]
      simp only [Instr.build, Sem.run_bind, hz1, Result.andThen_ok, run_underlying hu, hm']
      have : (fun x => (fs.map fun f => (f.offset, (tsz P f.type).getD 0))[x]?) = tplaces P t := hpl
      rw [this, h1]
      rfl

end Go.Proofs.Ythoclopeajkcpaa.E
