/- The machine's steps on slices: literals, make, cuts, lengths, appends. -/
import Derived.Test.YthoclopeajkcpaaE5
set_option linter.unusedVariables false
set_option linter.unusedSimpArgs false
namespace Go.Proofs.Ythoclopeajkcpaa.E
open Go Go.RowKit

def zrep (z : List Value) (n : Nat) : List Value := (List.replicate n z).flatten

theorem zrep_all {z : List Value} (h : z.all plain1 = true) (n : Nat) : (zrep z n).all plain1 = true := by
  rw [List.all_eq_true] at h ⊢
  intro v hv
  obtain ⟨l, h1, h2⟩ := List.mem_flatten.1 hv
  rw [List.mem_replicate] at h1
  rw [h1.2] at h2
  exact h v h2

theorem zrep_length (z : List Value) (n : Nat) : (zrep z n).length = n * z.length := by
  unfold zrep
  induction n with
  | zero => simp
  | succ n ih => rw [List.replicate_succ, List.flatten_cons, List.length_append, ih]; grind

theorem zrep_get (z : List Value) (n i : Nat) (h : i < n * z.length) : (zrep z n)[i]? = z[i % z.length]? := by
  unfold zrep
  induction n generalizing i with
  | zero => simp at h
  | succ n ih =>
    rw [List.replicate_succ, List.flatten_cons]
    by_cases hi : i < z.length
    · rw [List.getElem?_append_left hi, Nat.mod_eq_of_lt hi]
    · rw [List.getElem?_append_right (by omega), ih _ (by rw [Nat.succ_mul] at h; omega)]
      rw [Nat.mod_eq_sub_mod (by omega : i ≥ z.length)]

theorem zeros_eq (z : Array Value) (n : Nat) (h : z.size ≠ 0 ∨ n = 0) : ((Array.range (n * z.size)).map (z[· % z.size]!)).toList = zrep z.toList n := by
  apply List.ext_getElem?
  intro i
  by_cases hi : i < n * z.size
  · rw [zrep_get _ _ _ (by simpa using hi)]
    have hz : 0 < z.size := by
      rcases h with h | h
      · omega
      · subst h; simp at hi
    have hm : i % z.size < z.size := Nat.mod_lt _ hz
    simp [hi, getElem!_pos, hm]
  · rw [List.getElem?_eq_none (by simp; omega), List.getElem?_eq_none (by rw [zrep_length]; simp; omega)]

/-- A slice written out. -/
def abuildSlice (P : Program) (t : TypeId) (len : Nat) (parts : List (Nat × Value)) : Option (List Value × Nat) :=
  match tslice P t with
  | some e => match tsz P e, tzero P e with
    | some s, some z => if z.length = s ∧ s ≠ 0 ∧ len * s ≤ 16777216 then (fillL (fun i => some (i * s, s)) (zrep z len) parts).map (·, s) else none
    | _, _ => none
  | none => none

theorem fillL_length {place : Nat → Option (Nat × Nat)} : ∀ {parts : List (Nat × Value)} {cells r : List Value}, fillL place cells parts = some r → r.length = cells.length
  | [], cells, r, h => by cases h; rfl
  | (i, v) :: ps, cells, r, h => by
    simp only [fillL] at h
    split at h
    case h_2 => cases h
    rename_i off size cs _ _
    split at h
    case isFalse => cases h
    rename_i hb
    rw [fillL_length h, splice_length _ _ _ (by omega)]

theorem gives_buildSlice {P : Program} {N0 : Nat} {H : AH} {R : Option (List Nat)} {M : Mp} {w : World} (p : Pre N0 H R M w) {t : TypeId} {len s : Nat} {parts : List (Nat × Value)} {parts' : Array (Nat × Value)} {cs : List Value}
    (hl : parts.length = parts'.toList.length) (hp : ∀ (j : Nat) i v i' v', parts[j]? = some (i, v) → parts'.toList[j]? = some (i', v') → i = i' ∧ VR M v v') (h : abuildSlice P t len parts = some (cs, s)) :
    Gives N0 H (H ++ [⟨cs, 0, true⟩]) [] M w (sl H.length 0 0 len s) ((Instr.buildSlice t len parts').run P w) := by
  unfold abuildSlice at h
  split at h
  case h_2 => cases h
  rename_i e ht
  split at h
  case h_2 => cases h
  rename_i s' z hs hz
  split at h
  case isFalse => cases h
  rename_i hc
  cases hf : fillL (fun i => some (i * s', s')) (zrep z len) parts with
  | none => rw [hf] at h; cases h
  | some r =>
    rw [hf] at h; cases h
    obtain ⟨zv, hz1, hz2, hz3⟩ := tzero_run hz w
    have hzl : zv.cells.size = s := by rw [← Array.length_toList, hz2]; exact hc.1
    have hzc : VCs M (zrep z len) ((Array.range (len * s)).map (zv.cells[· % zv.cells.size]!)).toList := by
      have := zeros_eq zv.cells len (.inl (by rw [hzl]; exact hc.2.1))
      rw [hzl] at this ⊢
      rw [this, hz2]
      exact plains_rel (zrep_all hz3 len)
    obtain ⟨r', h1, h2⟩ := fill_rel hl hp hzc hf
    have hlen : cs.length = len * s := by rw [fillL_length hf, zrep_length, hc.1]
    have hsz : r'.size = len * s := by rw [← Array.length_toList, ← h2.1.1, hlen]
    have hle : ¬ (len * s > 2 ^ 24) := by omega
    refine ⟨.slice (some ⟨w.heap.size, 0, none⟩) len len, w.alloc (.cells r' e), mset M H.length 0 (w.heap.size, 0, r'.size), ?_, ?_, Post.new p cs r' e true rfl rfl rfl rfl (fun i v hv => ⟨h2.2 v (List.mem_of_getElem? hv), by
        obtain ⟨v', g1, g2⟩ := h2.1.get hv
        exact ⟨v', by simpa using g1, g2⟩⟩)⟩
    · by_cases h0 : len * s = 0
      · have e0 : ((Array.range (len * s)).map ((#[] : Array Value)[· % (#[] : Array Value).size]!)) = ((Array.range (len * s)).map (zv.cells[· % zv.cells.size]!)) := by
          rw [h0]; apply Array.ext'; simp
        simp only [Instr.buildSlice, Sem.run_bind, run_underlying (tslice_und ht), Result.andThen_ok, tsz_run hs]
        rw [if_neg hle, if_pos h0]
        simp only [Sem.run_bind, Sem.run_pure, Result.andThen_ok, e0, h1]
        rfl
      · simp only [Instr.buildSlice, Sem.run_bind, run_underlying (tslice_und ht), Result.andThen_ok, tsz_run hs]
        rw [if_neg hle, if_neg h0]
        simp only [Sem.run_bind, hz1, Sem.run_pure, Result.andThen_ok, h1]
        rfl
    · have := VR.sl (M := mset M H.length 0 (w.heap.size, 0, r'.size)) (off := 0) (len := len) (e := s) (cap := len) (mset_same _ _ _ _) (Nat.le_refl _) (by omega)
      simpa using this

/-- make. -/
def amake (P : Program) (t : TypeId) (len cap : Value) : Option (List Value × Nat × Nat) :=
  match len, cap with
  | .int _ l, .int _ c =>
    match tslice P t with
    | some e => match tsz P e, tzero P e, tby P e with
      | some s, some z, some by_ => if z.length = s ∧ s ≠ 0 ∧ 0 ≤ l ∧ l ≤ c ∧ c ≤ 9223372036854775807 ∧ (by_ : Int) * c ≤ 140737488355328 then some (zrep z l.toNat, s, l.toNat) else none
      | _, _, _ => none
    | none => none
  | _, _ => none

theorem gives_make {P : Program} {N0 : Nat} {H : AH} {R : Option (List Nat)} {M : Mp} {w : World} (p : Pre N0 H R M w) {t : TypeId} {len cap len' cap' : Value} {cs : List Value} {s n : Nat} (hl : VR M len len') (hcp : VR M cap cap')
    (h : amake P t len cap = some (cs, s, n)) : Gives N0 H (H ++ [⟨cs, 0, true⟩]) [] M w (sl H.length 0 0 n s) ((Instr.makeSlice t len' cap').run P w) := by
  unfold amake at h
  split at h
  case h_2 => cases h
  rename_i kl l kc c
  have := hl.int_inv; subst this
  have := hcp.int_inv; subst this
  split at h
  case h_2 => cases h
  rename_i e ht
  split at h
  case h_2 => cases h
  rename_i s' z by_ hs hz hb
  split at h
  case isFalse => cases h
  rename_i hc
  cases h
  obtain ⟨h1, h2, h3, h4, h5, h6⟩ := hc
  obtain ⟨i, zv, g1, g2, g3, g4⟩ := tzero_val hz
  have hsi : i.size = s := by unfold tsz at hs; rw [g1] at hs; simpa using hs
  have hbi : i.bytes = by_ := by unfold tby at hb; rw [g1] at hb; simpa using hb
  have hzl : zv.cells.size = s := by rw [← Array.length_toList, g3]; exact h1
  have hrun := run_make (P := P) w t e i zv (tslice_und ht) g1 g2 kl kc l c h3 h4 (by rw [hbi]; omega) h5
  refine ⟨_, _, mset M H.length 0 (w.heap.size, 0, (madeCells zv.cells (c.toNat * i.size)).size), hrun, ?_, Post.new p _ _ e true rfl rfl rfl rfl (fun j v hv => ?_)⟩
  · have := VR.sl (M := mset M H.length 0 (w.heap.size, 0, (madeCells zv.cells (c.toNat * i.size)).size)) (off := 0) (len := l.toNat) (e := s) (cap := c.toNat) (mset_same _ _ _ _) (by omega) (by rw [size_madeCells, hsi]; omega)
    simpa using this
  · have hall := zrep_all g4 l.toNat
    rw [List.all_eq_true] at hall
    have hp1 := hall v (List.mem_of_getElem? hv)
    refine ⟨plain1_one hp1, v, ?_, plain1_rel hp1⟩
    have hj : j < l.toNat * s := by
      have := (List.getElem?_eq_some_iff.1 hv).1
      rw [zrep_length, h1] at this; exact this
    rw [zrep_get _ _ _ (by rw [h1]; exact hj), h1] at hv
    have hj2 : j < c.toNat * s := Nat.lt_of_lt_of_le hj (Nat.mul_le_mul_right _ (by omega))
    have hm : j % s < zv.cells.size := by rw [hzl]; exact Nat.mod_lt _ (by omega)
    unfold madeCells
    rw [hsi, hzl]
    simp only [Array.getElem?_map]
    rw [Array.getElem?_eq_getElem (by simpa using hj2)]
    simp only [Array.getElem_range, Option.map_some]
    rw [getElem!_pos zv.cells _ hm]
    rw [← g3] at hv
    have hm' : zv.cells.toList[j % s]? = some zv.cells[j % s] := by simp [hm]
    rw [hm'] at hv
    exact hv

/-! ### lengths -/
def alen (P : Program) (t : TypeId) : Value → Option Value
  | .slice _ n _ => match tslice P t with
    | some _ => some (.int .i64 n)
    | none => none
  | .string s => if tstr P t = true then some (.int .i64 s.size) else none
  | .agg _ => match tarr P t with
    | some (n, _) => some (.int .i64 n)
    | none => none
  | _ => none

theorem VR.slice_len {M : Mp} {a : Option Addr} {n e : Nat} {v' : Value} (r : VR M (.slice a n e) v') : ∃ a' c', v' = .slice a' n c' := by
  cases r <;> exact ⟨_, _, rfl⟩

theorem run_alen {P : Program} {M : Mp} {t ty : TypeId} {x x' v : Value} (hx : VR M x x') (h : alen P t x = some v) (w : World) : (Builtin.len_ #[t] ty #[x']).run P w = .ok v w := by
  unfold alen at h
  split at h
  · obtain ⟨a', c', rfl⟩ := hx.slice_len
    split at h
    case h_2 => cases h
    rename_i e ht
    cases h
    simp [Builtin.len_, run_underlying (tslice_und ht), goInt]
  · have := hx.str_inv; subst this
    split at h
    case isFalse => cases h
    rename_i ht
    cases h
    simp [Builtin.len_, run_underlying (tstr_und ht), goInt]
  · split at h
    case h_2 => cases h
    rename_i n e ht
    cases h
    simp [Builtin.len_, run_underlying (tarr_und ht), goInt]
  · cases h

/-! ### cuts -/
def abound : Option Value → Nat → Option Nat
  | none, d => some d
  | some (.int _ n), _ => if 0 ≤ n then some n.toNat else none
  | _, _ => none

def aslice (P : Program) (t : TypeId) (x : Value) (lo hi mx : Option Value) : Option Value :=
  match x, mx with
  | .slice none 0 0, none => match tslice P t, abound lo 0, abound hi 0 with
    | some e, some 0, some 0 => if (tsz P e).isSome = true then some (.slice none 0 0) else none
    | _, _, _ => none
  | .slice none 0 0, some (.int _ m) => match tslice P t, abound lo 0, abound hi 0 with
    | some e, some 0, some 0 => if m = 0 ∧ hi.isSome = true ∧ (tsz P e).isSome = true then some (.slice none 0 0) else none
    | _, _, _ => none
  | .slice (some a) n e0, some (.int _ m) => match tslice P t, abound lo 0, abound hi n with
    | some e, some 0, some 0 => if m = 0 ∧ hi.isSome = true ∧ (tsz P e).isSome = true then some (.slice (some ⟨0, 0, none⟩) 0 e0) else none
    | _, _, _ => none
  | .slice (some ⟨b, off, some g⟩) n e0, none => match tslice P t, abound lo 0, abound hi n with
    | some e, some l, some h => match tsz P e with
      | some s => if s = e0 ∧ l ≤ h ∧ h ≤ n then some (sl b (off + l * s) g (h - l) s) else none
      | none => none
    | _, _, _ => none
  | .string s, none => match abound lo 0, abound hi s.size with
    | some l, some h => if tstr P t = true ∧ l ≤ h ∧ h ≤ s.size then some (.string (s.extract l h)) else none
    | _, _ => none
  | _, _ => none

/-- A cut of an array. -/
def aslicep (P : Program) (H : AH) (t : TypeId) (x : Value) (lo hi : Option Value) : Option (Value × Nat) :=
  match x with
  | .pointer (some ⟨b, off, some g⟩) => match H[b]?, tarr P t with
    | some k, some (n, e) => match tsz P e, abound lo 0, abound hi n with
      | some s, some 0, some h => if h = n ∧ 0 < n ∧ k.rw = true ∧ g = k.gen ∧ off + n * s ≤ k.cells.length ∧ 0 < s then some (sl b off g n s, b) else none
      | _, _, _ => none
    | _, _ => none
  | _ => none

theorem abound_rel {M : Mp} {x : Option Value} {x' : Option Value} {d n : Nat} (hx : (x = none ∧ x' = none) ∨ ∃ v v', x = some v ∧ x' = some v' ∧ VR M v v') (h : abound x d = some n) :
    (x' = none ∧ n = d) ∨ ∃ k, x' = some (.int k (n : Int)) := by
  unfold abound at h
  split at h
  · rcases hx with ⟨_, h2⟩ | ⟨v, v', h1, _⟩
    · cases h; exact .inl ⟨h2, rfl⟩
    · cases h1
  · split at h
    case isFalse => cases h
    rcases hx with ⟨h1, _⟩ | ⟨v, v', h1, h2, h3⟩
    · cases h1
    · cases h1; cases h
      have := h3.int_inv; subst this
      exact .inr ⟨_, by rw [h2, Int.toNat_of_nonneg ‹_›]⟩
  · cases h

theorem telem_eq {P : Program} {t e : TypeId} (h : P.underlying t = some (.slice e)) : P.elem t = e := by unfold Program.elem; rw [h]
theorem tarr_eq {P : Program} {t e : TypeId} {n : Nat} (h : P.underlying t = some (.array n e)) : P.elem t = e ∧ P.arrayLen t = n := by unfold Program.elem Program.arrayLen; rw [h]; exact ⟨rfl, rfl⟩

/-- The two bounds of a cut, as the world has them. -/
def ORel (M : Mp) (x x' : Option Value) : Prop := (x = none ∧ x' = none) ∨ ∃ v v', x = some v ∧ x' = some v' ∧ VR M v v'

theorem run_cut {P : Program} {M : Mp} {t e : TypeId} {lo hi lo' hi' : Option Value} {l h n cap s : Nat} {a : Option Addr} (ht : tslice P t = some e) (hs : tsz P e = some s) (hlo : ORel M lo lo') (hhi : ORel M hi hi')
    (e1 : abound lo 0 = some l) (e2 : abound hi n = some h) (hl : l ≤ h) (hh : h ≤ n) (hc : n ≤ cap) (w : World) :
    (Instr.sliceAt t (.slice a n cap) lo' hi' none).run P w = .ok (sliced a l h cap s) w := by
  have hu := tslice_und ht
  have he := telem_eq hu
  have hu' : P.underlying t = some (.slice (P.elem t)) := by rw [he]; exact hu
  have hs' := tsz_run (P := P) (by rw [he]; exact hs : tsz P (P.elem t) = some s) w
  rw [run_sliceAt_slice _ _ _ _ _ _ hu']
  rcases abound_rel hlo e1 with ⟨rfl, rfl⟩ | ⟨kl, rfl⟩ <;> rcases abound_rel hhi e2 with ⟨rfl, rfl⟩ | ⟨kh, rfl⟩
  · rw [run_slice_all _ _ _ _ _ hu', hs']; rfl
  · rw [run_slice_h _ _ _ _ _ hu' kh _ (by omega) (by omega), hs']; simp
  · rw [run_slice_l _ _ _ _ _ hu' kl _ (by omega) (by omega), hs']; simp
  · rw [run_slice_lh _ _ _ _ _ hu' kl kh _ _ (by omega) (by omega) (by omega), hs']; simp

theorem run_cut0 {P : Program} {M : Mp} {t e : TypeId} {lo hi lo' hi' : Option Value} {n cap s : Nat} {k : IntKind} {a : Option Addr} (ht : tslice P t = some e) (hs : tsz P e = some s) (hlo : ORel M lo lo') (hhi : ORel M hi hi')
    (e1 : abound lo 0 = some 0) (e2 : abound hi n = some 0) (e3 : hi.isSome = true) (w : World) :
    (Instr.sliceAt t (.slice a n cap) lo' hi' (some (.int k 0))).run P w = .ok (.slice a 0 0) w := by
  have hu := tslice_und ht
  have he := telem_eq hu
  have hu' : P.underlying t = some (.slice (P.elem t)) := by rw [he]; exact hu
  have hs' := tsz_run (P := P) (by rw [he]; exact hs : tsz P (P.elem t) = some s) w
  rw [run_sliceAt_slice _ _ _ _ _ _ hu']
  rcases abound_rel hhi e2 with ⟨rfl, _⟩ | ⟨kh, rfl⟩
  · rcases hhi with ⟨rfl, _⟩ | ⟨_, _, _, h, _⟩
    · cases e3
    · cases h
  rcases abound_rel hlo e1 with ⟨rfl, _⟩ | ⟨kl, rfl⟩
  · rw [run_slice_hm _ _ _ _ _ hu' kh k _ _ (by omega) (by omega) (by omega), hs']; simp [sliced]
  · rw [run_slice_lhm _ _ _ _ _ hu' kl kh k _ _ _ (by omega) (by omega) (by omega) (by omega), hs']; simp [sliced]

theorem run_aslice {P : Program} {M : Mp} {t : TypeId} {x x' v : Value} {lo hi mx lo' hi' mx' : Option Value} (hx : VR M x x') (hlo : ORel M lo lo') (hhi : ORel M hi hi') (hmx : ORel M mx mx') (h : aslice P t x lo hi mx = some v) (w : World) :
    ∃ v', (Instr.sliceAt t x' lo' hi' mx').run P w = .ok v' w ∧ VR M v v' := by
  unfold aslice at h
  split at h
  case h_6 => cases h
  · split at h
    case h_2 => cases h
    rename_i e ht e1 e2
    split at h
    case isFalse => cases h
    rename_i hs
    obtain ⟨s, hs⟩ := Option.isSome_iff_exists.1 hs
    cases h
    cases hx
    rcases hmx with ⟨_, rfl⟩ | ⟨_, _, h, _⟩
    · refine ⟨.slice none 0 0, ?_, .nils⟩
      rw [run_cut ht hs hlo hhi e1 e2 (Nat.le_refl _) (Nat.le_refl _) (Nat.le_refl _)]
      simp [sliced]
    · cases h
  · split at h
    case h_2 => cases h
    rename_i e ht e1 e2
    split at h
    case isFalse => cases h
    rename_i hs
    obtain ⟨rfl, e3, hs⟩ := hs
    obtain ⟨s, hs⟩ := Option.isSome_iff_exists.1 hs
    cases h
    cases hx
    rcases hmx with ⟨h, _⟩ | ⟨_, _, h, rfl, hm⟩
    · cases h
    · cases h
      have := hm.int_inv; subst this
      exact ⟨.slice none 0 0, run_cut0 ht hs hlo hhi e1 e2 e3 w, .nils⟩
  · split at h
    case h_2 => cases h
    rename_i e ht e1 e2
    split at h
    case isFalse => cases h
    rename_i hs
    obtain ⟨rfl, e3, hs⟩ := hs
    obtain ⟨s, hs⟩ := Option.isSome_iff_exists.1 hs
    cases h
    rcases hmx with ⟨h, _⟩ | ⟨_, _, h, rfl, hm⟩
    · cases h
    · cases h
      have := hm.int_inv; subst this
      obtain ⟨a', c', rfl⟩ := hx.slice_len
      have ha : ∃ a'', a' = some a'' := by cases hx <;> exact ⟨_, rfl⟩
      obtain ⟨a'', rfl⟩ := ha
      exact ⟨.slice (some a'') 0 0, run_cut0 ht hs hlo hhi e1 e2 e3 w, .zs⟩
  · rename_i b off g n e0
    split at h
    case h_2 => cases h
    rename_i e l hh ht e1 e2
    split at h
    case h_2 => cases h
    rename_i s hs
    split at h
    case isFalse => cases h
    rename_i hc
    obtain ⟨rfl, hl, hn⟩ := hc
    cases h
    rcases hmx with ⟨_, rfl⟩ | ⟨_, _, h, _⟩
    case inr => cases h
    rcases hx.sl_inv with ⟨c, o, m, cap, hM, h1, h2, rfl⟩ | ⟨rfl, a', x, hM, rfl⟩
    · refine ⟨_, run_cut ht hs hlo hhi e1 e2 hl hn h1 w, ?_⟩
      unfold sliced
      by_cases hcl : cap = l
      · have : hh = l := by omega
        subst this
        rw [if_pos hcl]
        simp only [hcl, Nat.sub_self]
        exact .ze hM
      · rw [if_neg hcl]
        simp only [Option.map_some, add_off]
        have := VR.sl (off := off + l * s) (len := hh - l) (e := s) (cap := cap - l) hM (by omega) (by rw [Nat.sub_mul]; have := Nat.mul_le_mul_right s (by omega : l ≤ cap); omega)
        rwa [show o + (off + l * s) = o + off + l * s by omega] at this
    · have : hh = 0 := by omega
      subst this
      have : l = 0 := by omega
      subst this
      refine ⟨_, run_cut ht hs hlo hhi e1 e2 (Nat.le_refl _) (Nat.le_refl _) (Nat.le_refl _) w, ?_⟩
      simp only [sliced, if_true, Nat.sub_self]
      exact .ze hM
  · rename_i s
    split at h
    case h_2 => cases h
    rename_i l hh e1 e2
    split at h
    case isFalse => cases h
    rename_i hc
    obtain ⟨ht, hl, hn⟩ := hc
    cases h
    have := hx.str_inv; subst this
    rcases hmx with ⟨_, rfl⟩ | ⟨_, _, h, _⟩
    case inr => cases h
    refine ⟨.string (s.extract l hh), ?_, .str _⟩
    have hu := tstr_und ht
    rw [run_sliceAt_string _ _ _ _ _ _ hu]
    rcases abound_rel hlo e1 with ⟨rfl, rfl⟩ | ⟨kl, rfl⟩ <;> rcases abound_rel hhi e2 with ⟨rfl, rfl⟩ | ⟨kh, rfl⟩
    · rw [run_slice_string_all _ _ _ hu]
    · rw [run_slice_string_h _ _ _ hu kh _ (by omega) (by omega)]; simp
    · rw [run_slice_string_l _ _ _ hu kl _ (by omega) (by omega)]; simp
    · simp [Instr.slice, run_underlying hu, Instr.sliceBounds]
      rw [run_sliceBound (P := P) w kh _ _ _ (by omega) (by omega)]
      simp only [Result.andThen_ok]
      rw [run_sliceBound (P := P) w kl _ _ _ (by omega) (by omega)]
      simp

theorem run_aslicep {P : Program} {N0 : Nat} {H : AH} {R : Option (List Nat)} {M : Mp} {w : World} (p : Pre N0 H R M w) {t : TypeId} {x x' v : Value} {b : Nat} {lo hi lo' hi' : Option Value} (hx : VR M x x') (hlo : ORel M lo lo') (hhi : ORel M hi hi')
    (h : aslicep P H t x lo hi = some (v, b)) (hR : inR R b) : ∃ v', (Instr.sliceAt t x' lo' hi' none).run P w = .ok v' w ∧ VR M v v' := by
  unfold aslicep at h
  split at h
  case h_2 => cases h
  rename_i b' off g
  obtain ⟨c, o, m, hM, rfl⟩ := hx.ptr_inv
  split at h
  case h_2 => cases h
  rename_i k n e hk ht
  split at h
  case h_2 => cases h
  rename_i s hh hs e1 e2
  split at h
  case isFalse => cases h
  rename_i hc
  obtain ⟨rfl, hn, hrw, rfl, hlen, hs0⟩ := hc
  cases h
  have hu := tarr_und ht
  obtain ⟨he, hn'⟩ := tarr_eq hu
  have hu' : P.underlying t = some (.array (P.arrayLen t) (P.elem t)) := by rw [he, hn']; exact hu
  have hs' := tsz_run (P := P) (by rw [he]; exact hs : tsz P (P.elem t) = some s) w
  obtain ⟨hcell, hN⟩ := cell_at p hR hk rfl hM
  obtain ⟨⟨ccs, ce, cfr, hb1, hb2⟩, _⟩ := p.hp.own hM (hN hrw)
  have hpos : 0 < hh * s := Nat.mul_pos hn hs0
  obtain ⟨_, u, h2, _⟩ := hcell (off + hh * s - 1) k.cells[off + hh * s - 1] (List.getElem?_eq_getElem (by omega))
  rw [cell_of_row _ _ _ _ _ _ hb1] at h2
  have hbd := (Array.getElem?_eq_some_iff.1 h2).1
  have hres : ∃ v', (Instr.sliceAt t (.pointer (some ⟨c, o + off, none⟩)) lo' hi' none).run P w = .ok v' w ∧ v' = slicedAt ⟨c, o + off, none⟩ 0 hh hh s := by
    refine ⟨_, ?_, rfl⟩
    rcases abound_rel hlo e1 with ⟨rfl, _⟩ | ⟨kl, rfl⟩ <;> rcases abound_rel hhi e2 with ⟨rfl, _⟩ | ⟨kh, rfl⟩
    · rw [run_sliceAt_array_all _ _ _ hu', hs', hn']; rfl
    · rw [run_sliceAt_array_h _ _ _ hu' kh _ (by omega) (by omega), hs', hn']; simp
    · rw [run_sliceAt_array_l _ _ _ hu' kl _ (by omega) (by omega), hs', hn']; simp
    · rw [run_sliceAt_array_lh _ _ _ hu' kl kh _ _ (by omega) (by omega) (by omega), hs', hn']; simp
  obtain ⟨v', h1, rfl⟩ := hres
  refine ⟨_, h1, ?_⟩
  unfold slicedAt
  rw [if_neg (by omega)]
  simp only [Nat.zero_mul, add_off, Nat.add_zero, Nat.sub_zero]
  exact .sl hM (Nat.le_refl _) (by omega)

end Go.Proofs.Ythoclopeajkcpaa.E
