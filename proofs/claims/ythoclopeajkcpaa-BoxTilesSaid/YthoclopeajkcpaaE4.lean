/- The machine's steps that call nothing: what each operation makes of values and blocks. -/
import Derived.Test.YthoclopeajkcpaaE3
import Derived.Laws.Bits
set_option linter.unusedVariables false
set_option linter.unusedSimpArgs false
namespace Go.Proofs.Ythoclopeajkcpaa.E
open Go Go.RowKit

/-- A value that leads nowhere. -/
def plain1 : Value → Bool
  | .int _ _ | .bool _ | .string _ | .nilFunc | .nilIface | .pointer none | .slice none 0 0 => true
  | _ => false

theorem plain1_rel {M : Mp} {v : Value} (h : plain1 v = true) : VR M v v := by
  unfold plain1 at h
  split at h
  · exact .int _ _
  · exact .bool _
  · exact .str _
  · exact .nilf
  · exact .nili
  · exact .nilp
  · exact .nils
  · cases h
theorem plain1_one {v : Value} (h : plain1 v = true) : one v = true := by
  unfold plain1 at h
  split at h <;> first | rfl | cases h

def plain : Value → Bool
  | .agg cs => cs.toList.all plain1
  | v => plain1 v

theorem plains_rel {M : Mp} {l : List Value} (h : l.all plain1 = true) : VCs M l l := by
  rw [List.all_eq_true] at h
  refine ⟨⟨rfl, fun i v v' h1 h2 => ?_⟩, fun v hv => plain1_one (h v hv)⟩
  rw [h1] at h2; cases h2
  exact plain1_rel (h v (List.mem_of_getElem? h1))

theorem plain_rel {M : Mp} {v : Value} (h : plain v = true) : VR M v v := by
  unfold plain at h
  split at h
  · have := (plains_rel (M := M) h).agg
    simpa using this
  · exact plain1_rel h

/-- What an operand is. -/
def ev (T : Env) : Operand → Option Value
  | .tmp t => some (T t)
  | .const v => if plain v then some v else none
  | .func f => some (.func (.func f) #[] #[])
  | .global _ => none

def evs (T : Env) : List Operand → Option (List Value)
  | [] => some []
  | x :: xs => match ev T x, evs T xs with
    | some v, some vs => some (v :: vs)
    | _, _ => none

def evp (T : Env) : List (Nat × Operand) → Option (List (Nat × Value))
  | [] => some []
  | (i, x) :: xs => match ev T x, evp T xs with
    | some v, some vs => some ((i, v) :: vs)
    | _, _ => none

def evo (T : Env) : Option Operand → Option (Option Value)
  | none => some none
  | some x => (ev T x).map some

/-- The frame's slots, as the machine has them. -/
def ActR (M : Mp) (sz : Nat) (T : Env) (a : Act) : Prop := a.tmps.size = sz ∧ a.defers = [] ∧ ∀ t, VR M (T t) (a.tmps.getD t undef)

theorem ev_rel {M : Mp} {sz : Nat} {T : Env} {a : Act} (h : ActR M sz T a) {x : Operand} {v : Value} (e : ev T x = some v) : VR M v (a.eval x) := by
  cases x with
  | tmp t => simp only [ev, Option.some.injEq] at e; subst e; exact h.2.2 t
  | const c =>
    simp only [ev] at e
    split at e
    · cases e; exact plain_rel ‹_›
    · cases e
  | global g => cases e
  | func f =>
    simp only [ev, Option.some.injEq] at e; subst e
    exact .fn rfl (fun i h => by simp at h) rfl (fun i h => by simp at h)

/-! ### types -/
def tsz (P : Program) (t : TypeId) : Option Nat := (P.info? t).map (·.size)
def tby (P : Program) (t : TypeId) : Option Nat := (P.info? t).map (·.bytes)
def tzero (P : Program) (t : TypeId) : Option (List Value) :=
  match (P.info? t).bind (·.zero) with
  | some z => if z.cells.toList.all plain1 then some z.cells.toList else none
  | none => none
def tagg (P : Program) (t : TypeId) : Option Bool :=
  match P.underlying t with
  | some (.struct _) | some (.array _ _) => some true
  | some _ => some false
  | none => none
def tslice (P : Program) (t : TypeId) : Option TypeId :=
  match P.underlying t with
  | some (.slice e) => some e
  | _ => none
def tarr (P : Program) (t : TypeId) : Option (Nat × TypeId) :=
  match P.underlying t with
  | some (.array n e) => some (n, e)
  | _ => none
/-- A field: where it begins, its type. -/
def tfld (P : Program) (t : TypeId) (i : Nat) : Option (Nat × TypeId) :=
  match P.underlying t with
  | some (.struct fs) => (fs[i]?).map fun f => (f.offset, f.type)
  | _ => none
def tkind (P : Program) (t : TypeId) : Option IntKind :=
  match P.underlying t with
  | some (.int k) => some k
  | _ => none
def tstr (P : Program) (t : TypeId) : Bool :=
  match P.underlying t with
  | some .string => true
  | _ => false

theorem tsz_run {P : Program} {t : TypeId} {s : Nat} (h : tsz P t = some s) (w : World) : (sizeOf t).run P w = .ok s w := by
  unfold tsz at h
  cases hi : P.info? t with
  | none => rw [hi] at h; cases h
  | some i => rw [hi] at h; cases h; simp [sizeOf, typeInfo, hi]
theorem tagg_run {P : Program} {t : TypeId} {b : Bool} (h : tagg P t = some b) (w : World) : (isAgg t).run P w = .ok b w := by
  unfold tagg at h
  cases hu : P.underlying t with
  | none => rw [hu] at h; cases h
  | some d => rw [hu] at h; cases d <;> simp at h <;> subst h <;> simp [isAgg, run_underlying hu]
theorem tslice_und {P : Program} {t e : TypeId} (h : tslice P t = some e) : P.underlying t = some (.slice e) := by
  unfold tslice at h
  split at h
  · cases h; assumption
  · cases h
theorem tarr_und {P : Program} {t e : TypeId} {n : Nat} (h : tarr P t = some (n, e)) : P.underlying t = some (.array n e) := by
  unfold tarr at h
  split at h
  · cases h; assumption
  · cases h
theorem tzero_val {P : Program} {t : TypeId} {l : List Value} (h : tzero P t = some l) : ∃ i z, P.info? t = some i ∧ i.zero = some z ∧ z.cells.toList = l ∧ l.all plain1 = true := by
  unfold tzero at h
  cases hi : P.info? t with
  | none => rw [hi] at h; cases h
  | some i =>
    rw [hi] at h
    simp only [Option.bind_some] at h
    cases hz : i.zero with
    | none => rw [hz] at h; cases h
    | some z =>
      rw [hz] at h
      simp only at h
      split at h
      · cases h; exact ⟨i, z, rfl, hz, rfl, ‹_›⟩
      · cases h
theorem tzero_run {P : Program} {t : TypeId} {l : List Value} (h : tzero P t = some l) (w : World) : ∃ z, (zeroValue t).run P w = .ok z w ∧ z.cells.toList = l ∧ l.all plain1 = true := by
  obtain ⟨i, z, h1, h2, h3, h4⟩ := tzero_val h
  exact ⟨z, by simp [zeroValue, typeInfo, h1, h2], h3, h4⟩

/-- The outcome of an operation, seen from the machine. -/
def Gives (N0 : Nat) (H H' : AH) (W : List Nat) (M : Mp) (w : World) (v : Value) (r : Result Value) : Prop :=
  ∃ v' w' M', r = .ok v' w' ∧ VR M' v v' ∧ Post N0 H H' W M M' w w'

theorem Gives.same {N0 : Nat} {H : AH} {R : Option (List Nat)} {M : Mp} {w : World} (p : Pre N0 H R M w) {v v' : Value} {r : Result Value} (h : r = .ok v' w) (hv : VR M v v') : Gives N0 H H [] M w v r :=
  ⟨v', w, M, h, hv, Post.still p rfl rfl rfl rfl⟩

section
variable {P : Program} {N0 : Nat} {H : AH} {R : Option (List Nat)} {M : Mp} {w : World} (p : Pre N0 H R M w)
include p

theorem gives_new {cs : List Value} {cells : Array Value} (e : TypeId) (h : VCs M cs cells.toList) :
    Gives N0 H (H ++ [⟨cs, 0, true⟩]) [] M w (ap H.length 0 0) (.ok (.pointer (some ⟨w.heap.size, 0, none⟩)) (w.alloc (.cells cells e))) :=
  ⟨_, _, _, rfl, new_ptr, Post.new p cs cells e true rfl rfl rfl rfl (fun i v hv => ⟨h.2 v (List.mem_of_getElem? hv), by
    obtain ⟨v', h1, h2⟩ := h.1.get hv
    exact ⟨v', by simpa using h1, h2⟩⟩)⟩

theorem gives_alloc {e : TypeId} {z : List Value} (h : tzero P e = some z) :
    Gives N0 H (H ++ [⟨z, 0, true⟩]) [] M w (ap H.length 0 0) ((Instr.alloc e true (.tuple #[])).run P w) := by
  obtain ⟨v, h1, h2, h3⟩ := tzero_run h w
  have := gives_new p (cs := z) (cells := v.cells) e (by rw [h2]; exact plains_rel h3)
  simpa [Instr.alloc, h1, newVar, newRow] using this

theorem gives_box {e : TypeId} {v v' : Value} {cs : List Value} (h : cellsL v = some cs) (hv : VR M v v') :
    Gives N0 H (H ++ [⟨cs, 0, true⟩]) [] M w (ap H.length 0 0) ((Instr.box e v').run P w) := by
  have := gives_new p (cs := cs) (cells := v'.cells) e (cellsL_rel hv h)
  simpa [Instr.box, newVar, newRow] using this
end

/-! ### loads and stores -/
def aload (P : Program) (H : AH) (t : TypeId) : Value → Option (Value × Nat)
  | .pointer (some ⟨b, off, some g⟩) =>
    match H[b]?, tagg P t, tsz P t with
    | some k, some true, some s => if g = k.gen ∧ off + s ≤ k.cells.length then some (.agg ((k.cells.drop off).take s).toArray, b) else none
    | some k, some false, some _ => if g = k.gen then (k.cells[off]?).map (·, b) else none
    | _, _, _ => none
  | _ => none

theorem loadAt_ptr {P : Program} {t : TypeId} {a : Addr} {w : World} : (Instr.loadAt t (.pointer (some a))).run P w = (loadVar t a).run P w := by simp [Instr.loadAt, Instr.sureAddr]

theorem gives_load {P : Program} {N0 : Nat} {H : AH} {R : Option (List Nat)} {M : Mp} {w : World} (p : Pre N0 H R M w) {t : TypeId} {x x' v : Value} {b : Nat} (hx : VR M x x') (h : aload P H t x = some (v, b)) (hR : inR R b) :
    ∃ v', (Instr.loadAt t x').run P w = .ok v' w ∧ VR M v v' := by
  unfold aload at h
  split at h
  case h_2 => cases h
  rename_i b' off g
  obtain ⟨c, o, n, hM, rfl⟩ := hx.ptr_inv
  split at h
  · rename_i k s hk ha hs
    split at h
    · rename_i hc
      obtain ⟨hg, hl⟩ := hc
      cases h
      obtain ⟨hcell, _⟩ := cell_at p hR hk hg hM
      obtain ⟨cs', l1, l2, l3⟩ := cells_at hcell off s hl
      refine ⟨.agg cs'.toArray, ?_, l3.agg⟩
      have := run_loadCells_list (P := P) w ⟨c, o + off, none⟩ cs' (fun j v hj => by rw [add_off]; exact l2 j v hj)
      rw [l1] at this
      rw [loadAt_ptr]
      simp [loadVar, tagg_run ha, tsz_run hs, this]
    · cases h
  · rename_i k s hk ha hs
    split at h
    · rename_i hg
      cases hv : k.cells[off]? with
      | none => rw [hv] at h; cases h
      | some u =>
        rw [hv] at h; cases h
        obtain ⟨hcell, _⟩ := cell_at p hR hk hg hM
        obtain ⟨_, v', h2, h3⟩ := hcell off _ hv
        refine ⟨v', ?_, h3⟩
        rw [loadAt_ptr]
        simp [loadVar, tagg_run ha, h2]
    · cases h
  · cases h

def astore (P : Program) (H : AH) (t : TypeId) (x v : Value) : Option (AH × Nat) :=
  match x with
  | .pointer (some ⟨b, off, some g⟩) =>
    match H[b]?, cellsL v, tsz P t with
    | some k, some cs, some s => if k.rw = true ∧ g = k.gen ∧ cs.length = s ∧ off + s ≤ k.cells.length then some (H.set b ⟨splice k.cells off cs, k.gen, true⟩, b) else none
    | _, _, _ => none
  | _ => none

theorem gives_store {P : Program} {N0 : Nat} {H H' : AH} {R : Option (List Nat)} {M : Mp} {w : World} (p : Pre N0 H R M w) {t : TypeId} {x x' v v' : Value} {b : Nat} (hx : VR M x x') (hv : VR M v v') (h : astore P H t x v = some (H', b)) (hR : inR R b) :
    ∃ w', (Instr.storeAt t x' v').run P w = .ok () w' ∧ Post N0 H H' [b] M M w w' := by
  unfold astore at h
  split at h
  case h_2 => cases h
  rename_i b' off g
  obtain ⟨c, o, n, hM, rfl⟩ := hx.ptr_inv
  split at h
  case h_2 => cases h
  rename_i k cs s hk hcs hs
  split at h
  case isFalse => cases h
  rename_i hc
  obtain ⟨hrw, hg, hl, hoff⟩ := hc
  cases h
  subst hg
  have hvc := cellsL_rel hv hcs
  obtain ⟨hcell, hN⟩ := cell_at p hR hk rfl hM
  obtain ⟨hb, hfz⟩ := p.hp.own hM (hN hrw)
  obtain ⟨ccs, ce, cfr, hb1, hb2⟩ := hb
  have hlen : v'.cells.toList.length = cs.length := hvc.1.1.symm
  have hcl : ∀ j, j < v'.cells.toList.length → (w.cell? ⟨c, o + off + 0 + j, none⟩).isSome = true := fun j hj => by
    obtain ⟨_, u, h2, _⟩ := hcell (off + j) k.cells[off + j] (List.getElem?_eq_getElem (by omega))
    rw [show o + off + 0 + j = o + (off + j) by omega, h2]; rfl
  have hst := run_storeCells_cells (P := P) c (o + off) v'.cells.toList 0 w hcl (fun j hj => by
      refine hfz _ ?_
      have := hcl j hj
      rw [cell_of_row _ _ _ _ _ _ hb1] at this
      obtain ⟨u, hu⟩ := Option.isSome_iff_exists.1 this
      have := (Array.getElem?_eq_some_iff.1 hu).1
      omega) (fun u hu => by
      rw [one_kit]
      obtain ⟨j, hj, e⟩ := List.getElem_of_mem hu
      have hj' : j < cs.length := by omega
      have r := hvc.1.2 j cs[j] u (List.getElem?_eq_getElem hj') (by rw [← e]; exact List.getElem?_eq_getElem hj)
      rw [r.one_eq]; exact hvc.2 _ (List.getElem_mem hj'))
  refine ⟨_, ?_, Post.stored p hR hk hM hrw off cs v'.cells.toList (by omega) hvc⟩
  have hsz : v'.cells.size = s := by rw [← Array.length_toList]; omega
  simp only [Nat.add_zero] at hst
  simp [Instr.storeAt, Instr.sureAddr, storeVar, tsz_run hs, hsz, hst]

end Go.Proofs.Ythoclopeajkcpaa.E
