/- What an argument's reading says of its value, where it is made of numbers and bools alone. -/
import Derived.Test.YthoclopeajkcpaaEO
set_option linter.unusedVariables false
namespace Go.Proofs.Ythoclopeajkcpaa.E
open Go Go.RowKit

inductive LK where
  | int (k : IntKind)
  | bool
deriving DecidableEq
def LK.fits : LK → Value → Prop
  | .int k, .int k' n => k' = k ∧ (Lit.int k n).wf = true
  | .bool, .bool _ => True
  | _, _ => False
def Fits : List LK → List Value → Prop
  | [], [] => True
  | k :: ks, v :: vs => k.fits v ∧ Fits ks vs
  | _, _ => False
theorem Fits.append : ∀ {ks ks' : List LK} {vs vs' : List Value}, Fits ks vs → Fits ks' vs' → Fits (ks ++ ks') (vs ++ vs')
  | [], _, [], _, _, h' => h'
  | k :: ks, _, v :: vs, _, h, h' => ⟨h.1, Fits.append h.2 h'⟩
theorem Fits.length : ∀ {ks : List LK} {vs : List Value}, Fits ks vs → vs.length = ks.length
  | [], [], _ => rfl
  | k :: ks, v :: vs, h => by simp [Fits.length h.2]
def kAll (f : Go.Field → Option (List LK)) : List Go.Field → Nat → Option (List LK)
  | [], _ => some []
  | x :: xs, o => match f x with
    | some ks => if x.offset = o then match kAll f xs (o + ks.length) with
      | some r => some (ks ++ r)
      | none => none
      else none
    | none => none
def kRep (ks : List LK) : Nat → List LK
  | 0 => []
  | n + 1 => ks ++ kRep ks n
def leaf (P : Program) : Nat → TypeId → Option (List LK)
  | 0, _ => none
  | n + 1, t => match P.underlying t with
    | some .bool => some [.bool]
    | some (.int k) => some [.int k]
    | some (.struct fs) => match kAll (fun f => match leaf P n f.type with
        | some ks => if ks.length = P.cellsOf f.type then some ks else none
        | none => none) fs.toList 0 with
      | some ks => if ks.length = P.cellsOf t then some ks else none
      | none => none
    | some (.array m e) => match leaf P n e with
      | some ks => if ks.length = P.cellsOf e ∧ (kRep ks m).length = P.cellsOf t then some (kRep ks m) else none
      | none => none
    | _ => none

theorem mapM_all {α β : Type} {f : α → Option β} : ∀ {l : List α} {r : List β}, l.mapM f = some r → ∀ x ∈ l, ∃ y, f x = some y := by
  intro l
  induction l with
  | nil => intro r _ x hx; cases hx
  | cons a l ih =>
    intro r h x hx
    rw [List.mapM_cons] at h
    cases ha : f a with
    | none => simp [ha] at h
    | some y =>
      cases hl : l.mapM f with
      | none => simp [ha, hl] at h
      | some ys =>
        rcases List.mem_cons.1 hx with rfl | hx
        · exact ⟨y, ha⟩
        · exact ih hl x hx
theorem kRep_len (ks : List LK) : ∀ n, (kRep ks n).length = n * ks.length
  | 0 => by simp [kRep]
  | n + 1 => by simp [kRep, kRep_len ks n, Nat.add_mul, Nat.add_comm]

section
variable {H : Type} {enc : TypeId × Value → H} {P : Program} {W : World} {b0 : Nat} {sp : Nat → Bool} {held : Bool}

theorem kAll_fits {m : Nat} {f : Go.Field → Option (List LK)} (hf : ∀ x ks cs, f x = some ks → (∃ y, DataW.trod enc P W b0 sp held m x.type cs = some y) → Fits ks cs) (hl : ∀ x ks, f x = some ks → ks.length = P.cellsOf x.type) :
    ∀ {fs : List Go.Field} {o : Nat} {ks : List LK} {cs : List Value}, kAll f fs o = some ks → (∀ x ∈ fs, ∃ y, DataW.trod enc P W b0 sp held m x.type ((cs.drop x.offset).take (P.cellsOf x.type)) = some y) → cs.length = o + ks.length → Fits ks (cs.drop o)
  | [], o, ks, cs, h, _, hc => by
    cases h
    have : cs.drop o = [] := List.drop_eq_nil_of_le (by simp at hc; omega)
    rw [this]; trivial
  | x :: xs, o, ks, cs, h, ha, hc => by
    simp only [kAll] at h
    split at h
    case h_2 => cases h
    rename_i k1 h1
    split at h
    case isFalse => cases h
    rename_i ho
    split at h
    case h_2 => cases h
    rename_i r hr
    cases h
    have := kAll_fits hf hl (cs := cs) hr (fun y hy => ha y (List.mem_cons_of_mem _ hy)) (by rw [hc]; simp; omega)
    have a := hf x k1 _ h1 (ha x (List.mem_cons_self ..))
    rw [ho, ← hl x k1 h1] at a
    rw [← List.take_append_drop k1.length (cs.drop o), List.drop_drop]
    exact a.append this
theorem leaf_fits : ∀ {n m : Nat} {t : TypeId} {ks : List LK} {cs : List Value}, leaf P n t = some ks → (∃ y, DataW.trod enc P W b0 sp held m t cs = some y) → Fits ks cs := by
  intro n
  induction n with
  | zero => intro m t ks cs h; cases h
  | succ n ih =>
    intro m t ks cs h hy
    obtain ⟨y, hy⟩ := hy
    cases m with
    | zero => simp [DataW.trod] at hy
    | succ m =>
    rw [DataW.trod_step] at hy
    unfold DataW.trodStep at hy
    simp only [leaf] at h
    split at h
    · rename_i hu
      cases h
      rw [hu] at hy
      simp only at hy
      split at hy <;> simp_all [Fits, LK.fits]
    · rename_i k hu
      cases h
      rw [hu] at hy
      simp only at hy
      split at hy <;> simp_all [Fits, LK.fits]
    · rename_i fs hu
      rw [hu] at hy
      split at h
      case h_2 => cases h
      rename_i kk hk
      split at h
      case isFalse => cases h
      rename_i hlen
      cases h
      have hy2 : (if cs.length = P.cellsOf t then (fs.toList.mapM fun f => DataW.trod enc P W b0 sp held m f.type ((cs.drop f.offset).take (P.cellsOf f.type))).map fun xs => (DataW.agg (xs.map (·.1)), xs.flatMap (·.2)) else none) = some y := by
        simpa using hy
      split at hy2
      case isFalse => cases hy2
      rename_i hc
      obtain ⟨ys, hys, _⟩ := Option.map_eq_some_iff.1 hy2
      have := kAll_fits (enc := enc) (W := W) (b0 := b0) (sp := sp) (held := held) (m := m) (cs := cs) (fun x ks cs hx hy => by
        split at hx
        case h_2 => cases hx
        rename_i k2 h2
        split at hx
        case isFalse => cases hx
        cases hx
        exact ih h2 hy) (fun x ks hx => by
        split at hx
        case h_2 => cases hx
        rename_i k2 h2
        split at hx
        case isFalse => cases hx
        cases hx
        assumption) hk (mapM_all hys) (by omega)
      simpa using this
    · rename_i a e hu
      rw [hu] at hy
      split at h
      case h_2 => cases h
      rename_i kk hk
      split at h
      case isFalse => cases h
      rename_i hlen
      cases h
      have hy2 : (if cs.length = P.cellsOf t then ((List.range a).mapM fun i => DataW.trod enc P W b0 sp held m e ((cs.drop (i * P.cellsOf e)).take (P.cellsOf e))).map fun xs => (DataW.agg (xs.map (·.1)), xs.flatMap (·.2)) else none) = some y := by
        simpa using hy
      split at hy2
      case isFalse => cases hy2
      rename_i hc
      obtain ⟨ys, hys, _⟩ := Option.map_eq_some_iff.1 hy2
      have hall := mapM_all hys
      have key : ∀ j, j ≤ a → Fits (kRep kk (a - (a - j))) (cs.drop ((a - j) * P.cellsOf e)) ∨ True := fun _ _ => .inr trivial
      have key : ∀ j, j ≤ a → Fits (kRep kk j) (cs.drop ((a - j) * P.cellsOf e)) := by
        intro j
        induction j with
        | zero =>
          intro _
          have : cs.drop ((a - 0) * P.cellsOf e) = [] := List.drop_eq_nil_of_le (by rw [hc, ← hlen.2, kRep_len, ← hlen.1]; simp)
          rw [this]; trivial
        | succ j ihj =>
          intro hj
          have h1 := ih hk (hall (a - (j + 1)) (List.mem_range.2 (by omega)))
          have h2 := ihj (by omega)
          have e1 : (a - j) * P.cellsOf e = (a - (j + 1)) * P.cellsOf e + P.cellsOf e := by rw [show a - j = a - (j + 1) + 1 by omega, Nat.add_mul, Nat.one_mul]
          rw [← List.take_append_drop (P.cellsOf e) (cs.drop ((a - (j + 1)) * P.cellsOf e)), List.drop_drop, ← e1]
          exact h1.append h2
      have := key a (Nat.le_refl _)
      simpa using this
    · cases h

theorem fits_int {k : IntKind} {ks : List LK} {l : List Value} (h : Fits (.int k :: ks) l) : ∃ a l', l = .int k a :: l' ∧ (Lit.int k a).wf = true ∧ Fits ks l' := by
  cases l with
  | nil => exact h.elim
  | cons v l =>
    obtain ⟨h1, h2⟩ := h
    cases v <;> simp [LK.fits] at h1
    obtain ⟨rfl, h1⟩ := h1
    exact ⟨_, _, rfl, h1, h2⟩
theorem fits_bool {ks : List LK} {l : List Value} (h : Fits (.bool :: ks) l) : ∃ b l', l = .bool b :: l' ∧ Fits ks l' := by
  cases l with
  | nil => exact h.elim
  | cons v l =>
    obtain ⟨h1, h2⟩ := h
    cases v <;> simp [LK.fits] at h1
    exact ⟨_, _, rfl, h2⟩
theorem fits_nil {l : List Value} (h : Fits [] l) : l = [] := by
  cases l with
  | nil => rfl
  | cons v l => exact h.elim

/-- A struct's or an array's value. -/
def isAgg (P : Program) (t : TypeId) : Bool := match P.underlying t with
  | some (.struct _) | some (.array ..) => true
  | _ => false
theorem open_agg {ks : List LK} {r : Reach} {b n : Nat} {t : TypeId} {v : Value} {d : DataW H} {ps : List MemPlace} (ha : isAgg P t = true) (hl : leaf P n t = some ks) (hval : Value.okWide P W r b t v) (hd : DataW.Trod enc P W b0 sp held t v d ps) :
    ∃ l, v = .agg l.toArray ∧ Fits ks l := by
  have hv : ∃ cs, v = .agg cs := by
    unfold isAgg at ha
    unfold Value.okWide at hval
    split at ha <;> simp_all
    · obtain ⟨cs, h, _⟩ := hval; exact ⟨cs, h⟩
    · obtain ⟨cs, h, _⟩ := hval; exact ⟨cs, h⟩
  obtain ⟨⟨l⟩, rfl⟩ := hv
  obtain ⟨m, hm⟩ := hd
  exact ⟨l, rfl, leaf_fits hl ⟨_, hm⟩⟩
theorem open_num {k : IntKind} {r : Reach} {b : Nat} {t : TypeId} {v : Value} {d : DataW H} {ps : List MemPlace} (hu : P.underlying t = some (.int k)) (hval : Value.okWide P W r b t v) (hd : DataW.Trod enc P W b0 sp held t v d ps) :
    ∃ a, v = .int k a ∧ (Lit.int k a).wf = true := by
  unfold Value.okWide at hval
  rw [hu] at hval
  simp only [Cell.okWide, hu, Cell.ok] at hval
  split at hval <;> simp_all
  rename_i n he
  obtain ⟨m, hm⟩ := hd
  subst he
  exact (leaf_fits (P := P) (n := 1) (ks := [.int k]) (cs := [.int k n]) (t := t) (by simp [leaf, hu]) ⟨_, hm⟩).1.2
theorem open_boo {r : Reach} {b : Nat} {t : TypeId} {v : Value} (hu : P.underlying t = some .bool) (hval : Value.okWide P W r b t v) : ∃ a, v = .bool a := by
  unfold Value.okWide at hval
  rw [hu] at hval
  simp only [Cell.okWide, hu, Cell.ok] at hval
  split at hval <;> simp_all
end
theorem wf_i64 {a : Int} (h : (Lit.int .i64 a).wf = true) : -9223372036854775808 ≤ a ∧ a ≤ 9223372036854775807 := by
  simp [Lit.wf, IntKind.min, IntKind.max, IntKind.bits, IntKind.signed] at h
  omega
theorem agg_vr (M : Mp) (l : List Value) (h : l.all plain1 = true) : VR M (.agg l.toArray) (.agg l.toArray) := by
  have hl := List.all_eq_true.1 h
  refine .agg rfl (fun i h1 => ?_) (fun i h1 h2 => ?_)
  · exact plain1_one (hl _ (by simp))
  · exact plain1_rel (hl _ (by simp))
end Go.Proofs.Ythoclopeajkcpaa.E
