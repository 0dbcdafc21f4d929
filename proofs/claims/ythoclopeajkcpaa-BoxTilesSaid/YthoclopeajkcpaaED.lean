/- Operations whose order is drawn: if no two that have no order among them touch what the other one writes, the world comes to what the text's order comes to. -/
import Derived.Test.YthoclopeajkcpaaEC
set_option linter.unusedVariables false
set_option linter.unusedSimpArgs false
namespace Go.Proofs.Ythoclopeajkcpaa.E
open Go Go.RowKit

/-- The places that an operation waits for. -/
def ons (o : Oper) : List Nat := (o.after.toList.filter (Region.binds .any)).map (·.on)

/-- All that stands ahead of each operation, in every order. -/
def ancL : List (List Nat) → List Oper → List (List Nat)
  | acc, [] => acc
  | acc, o :: rest => ancL (acc ++ [ons o ++ (ons o).flatMap fun k => acc.getD k []]) rest

def ancs (ops : Array Oper) : List (List Nat) := ancL [] ops.toList

def ordered (ops : Array Oper) (i j : Nat) : Bool := ((ancs ops).getD j []).contains i

/-- No slot of one is named by another one that has no order with it; none is written twice. -/
def apartB (ops : Array Oper) (i j : Nat) (x y : Oper) : Bool :=
  (match x.dst with
    | some d => y.dst != some d && (ordered ops i j || !(y.looksAt ops).contains d)
    | none => true) &&
  (match y.dst with
    | some d => ordered ops i j || !(x.looksAt ops).contains d
    | none => true)

def regB (ops : Array Oper) : Bool :=
  (List.range ops.size).all fun j => match ops[j]? with
    | none => true
    | some y => (ons y).all (fun k => decide (k < j)) && (List.range j).all fun i => match ops[i]? with
      | none => true
      | some x => apartB ops i j x y

def noFoot : Foot := ⟨[], some []⟩

def okPair (f g : Foot) : Prop := (∀ b ∈ f.w, ¬ inR g.r b ∧ b ∉ g.w) ∧ (∀ b ∈ g.w, ¬ inR f.r b ∧ b ∉ f.w)

/-- No two without an order touch what the other one writes. -/
def Compat (ops : Array Oper) (Fs : List Foot) : Prop := ∀ i j, i < j → j < ops.size → ordered ops i j = false → okPair (Fs.getD i noFoot) (Fs.getD j noFoot)

theorem ancL_closed (all : List Oper) (L : Nat → Prop) (hL : ∀ j o, all[j]? = some o → L j → ∀ k ∈ ons o, L k) :
    ∀ (rest : List Oper) (acc : List (List Nat)), all.drop acc.length = rest → (∀ j o, j < acc.length → all[j]? = some o → (∀ k ∈ ons o, L k) → ∀ k ∈ acc.getD j [], L k) →
    ∀ j o, all[j]? = some o → (∀ k ∈ ons o, L k) → ∀ k ∈ (ancL acc rest).getD j [], L k
  | [], acc, hr, ha, j, o, ho, hk => by
    have hlt : j < all.length := (List.getElem?_eq_some_iff.1 ho).1
    have : all.length ≤ acc.length := by
      have := congrArg List.length hr
      simp at this; omega
    exact ha j o (by omega) ho hk
  | x :: rest, acc, hr, ha, j, o, ho, hk => by
    have hx : all[acc.length]? = some x := by
      have := congrArg (fun l => l[0]?) hr
      simpa using this
    refine ancL_closed all L hL rest _ ?_ ?_ j o ho hk
    · have := congrArg (fun l => l.drop 1) hr
      simpa [List.drop_drop] using this
    · intro j o hj ho hk k hm
      simp at hj
      by_cases hlt : j < acc.length
      · rw [List.getD_eq_getElem?_getD, List.getElem?_append_left hlt] at hm
        exact ha j o hlt ho hk k (by rw [List.getD_eq_getElem?_getD]; exact hm)
      · have hje : j = acc.length := by omega
        subst hje
        rw [hx] at ho; cases ho
        rw [List.getD_eq_getElem?_getD, List.getElem?_append_right (Nat.le_refl _)] at hm
        simp at hm
        rcases hm with hm | ⟨k', hk', hm⟩
        · exact hk k hm
        · have hlt' : k' < acc.length := by
            rcases Nat.lt_or_ge k' acc.length with h | h
            · exact h
            · rw [List.getElem?_eq_none h] at hm; simp at hm
          have hxlt := (List.getElem?_eq_some_iff.1 hx).1
          have hk'' : all[k']? = some all[k'] := List.getElem?_eq_getElem (by omega)
          refine ha k' _ hlt' hk'' (hL k' _ hk'' (hk k' hk')) k ?_
          rw [List.getD_eq_getElem?_getD]; exact hm

/-- What stands ahead is done ahead. -/
theorem ordered_done {ops : Array Oper} {L : Nat → Prop} (hL : ∀ j o, ops[j]? = some o → L j → ∀ k ∈ ons o, L k) {i j : Nat} (ho : ordered ops i j = true) {o : Oper} (hj : ops[j]? = some o) (hk : ∀ k ∈ ons o, L k) : L i := by
  have := ancL_closed ops.toList L (fun j o h => hL j o (by simpa using h)) ops.toList [] (by simp) (fun j o h => by simp at h) j o (by simpa using hj) hk i
  refine this ?_
  unfold ordered ancs at ho
  simpa using ho

theorem regB_ons {ops : Array Oper} (h : regB ops = true) {j : Nat} {o : Oper} (hj : ops[j]? = some o) : ∀ k ∈ ons o, k < j := by
  have hlt : j < ops.size := (Array.getElem?_eq_some_iff.1 hj).1
  unfold regB at h
  rw [List.all_eq_true] at h
  have := h j (by simpa using hlt)
  rw [hj] at this
  simp only [Bool.and_eq_true, List.all_eq_true, decide_eq_true_eq] at this
  exact this.1

theorem regB_apart {ops : Array Oper} (h : regB ops = true) {i j : Nat} {x y : Oper} (hij : i < j) (hi : ops[i]? = some x) (hj : ops[j]? = some y) :
    (∀ d, x.dst = some d → y.dst ≠ some d) ∧ (ordered ops i j = false → (∀ d, x.dst = some d → d ∉ y.looksAt ops) ∧ ∀ d, y.dst = some d → d ∉ x.looksAt ops) := by
  have hlt : j < ops.size := (Array.getElem?_eq_some_iff.1 hj).1
  unfold regB at h
  rw [List.all_eq_true] at h
  have := h j (by simpa using hlt)
  rw [hj] at this
  simp only [Bool.and_eq_true, List.all_eq_true] at this
  have := this.2 i (by simpa using hij)
  rw [hi] at this
  unfold apartB at this
  simp only [Bool.and_eq_true] at this
  obtain ⟨h1, h2⟩ := this
  refine ⟨fun d hd => ?_, fun hord => ⟨fun d hd => ?_, fun d hd => ?_⟩⟩
  · rw [hd] at h1; simp at h1; exact h1.1
  · rw [hd] at h1; simp [hord] at h1; exact h1.2
  · rw [hd] at h2; simp [hord] at h2; exact h2

/-! ### the way, place by place -/
def stH (sts : List St) (H' : AH) (i : Nat) : AH := match sts[i]? with
  | some s => s.H
  | none => H'

/-- A step of a way, by its place. -/
structure StepAt (P : Program) (sz : Nat) (ops : Array Oper) (sts : List St) (H' : AH) (i : Nat) (o : Oper) (s : St) : Prop where
  hd : dok sz o.dst = true
  H : stH sts H' i = s.H
  ext : Ext s.F.w (stH sts H' i) (stH sts H' (i + 1))
  does : (awant ops s.T o = some true ∧ OpSem P sz o s.T s.H s.v (stH sts H' (i + 1)) s.F) ∨
    (awant ops s.T o = some false ∧ s.v = undef ∧ s.F = noFoot ∧ stH sts H' (i + 1) = s.H)

theorem Way.at {P : Program} {sz : Nat} {ops : Array Oper} : ∀ {l : List Oper} {T T' : Env} {H H' : AH} {sts : List St}, Way P sz ops l T H sts T' H' →
    sts.length = l.length ∧ stH sts H' 0 = H ∧ (∀ (i : Nat) (o : Oper), l[i]? = some o → ∃ s : St, sts[i]? = some s ∧ StepAt P sz ops sts H' i o s) ∧
    (∀ (i : Nat) (s : St), sts[i]? = some s → ∀ t : Nat, (∃ (j : Nat) (o : Oper) (s' : St), j < i ∧ l[j]? = some o ∧ sts[j]? = some s' ∧ o.dst = some t ∧ s.T t = s'.v) ∨ ((∀ (j : Nat) (o : Oper), j < i → l[j]? = some o → o.dst ≠ some t) ∧ s.T t = T t)) ∧
    (∀ t : Nat, (∃ (j : Nat) (o : Oper) (s' : St), l[j]? = some o ∧ sts[j]? = some s' ∧ o.dst = some t ∧ T' t = s'.v) ∨ ((∀ (j : Nat) (o : Oper), l[j]? = some o → o.dst ≠ some t) ∧ T' t = T t)) := by
  intro l T T' H H' sts h
  induction h with
  | nil T H => exact ⟨rfl, rfl, fun i o h => by simp at h, fun i s h => by simp at h, fun t => .inr ⟨fun j o h => by simp at h, rfl⟩⟩
  | @run o rest T T' H H1 H' v F l hd hw hs he h ih =>
    obtain ⟨a1, a2, a3, a4, a5⟩ := ih
    have sh : ∀ i, stH (⟨T, H, v, F⟩ :: l) H' (i + 1) = stH l H' i := fun i => by simp [stH]
    refine ⟨by simp [a1], rfl, fun i o' ho => ?_, fun i s hsi t => ?_, fun t => ?_⟩
    · cases i with
      | zero =>
        simp at ho; subst ho
        exact ⟨_, rfl, hd, rfl, by rw [sh, a2]; exact he, .inl ⟨hw, by rw [sh, a2]; exact hs⟩⟩
      | succ i =>
        obtain ⟨s, g1, g2⟩ := a3 i o' (by simpa using ho)
        exact ⟨s, by simpa using g1, g2.hd, by rw [sh]; exact g2.H, by rw [sh, sh]; exact g2.ext, by rw [sh]; exact g2.does⟩
    · cases i with
      | zero => simp at hsi; subst hsi; exact .inr ⟨fun j o h => by omega, rfl⟩
      | succ i =>
        rcases a4 i s (by simpa using hsi) t with ⟨j, o', s', g1, g2, g3, g4, g5⟩ | ⟨g1, g2⟩
        · exact .inl ⟨j + 1, o', s', by omega, by simpa using g2, by simpa using g3, g4, g5⟩
        · by_cases hdt : o.dst = some t
          · exact .inl ⟨0, o, _, by omega, rfl, rfl, hdt, by rw [g2, hdt]; simp [put, upd]⟩
          · refine .inr ⟨fun j o' hj ho => ?_, by
              rw [g2]
              cases hd' : o.dst with
              | none => rfl
              | some d => rw [hd'] at hdt; simp [put, upd]; intro e; exact absurd (by rw [e]) hdt⟩
            cases j with
            | zero => simp at ho; subst ho; exact hdt
            | succ j => exact g1 j o' (by omega) (by simpa using ho)
    · rcases a5 t with ⟨j, o', s', g2, g3, g4, g5⟩ | ⟨g1, g2⟩
      · exact .inl ⟨j + 1, o', s', by simpa using g2, by simpa using g3, g4, g5⟩
      · by_cases hdt : o.dst = some t
        · exact .inl ⟨0, o, _, rfl, rfl, hdt, by rw [g2, hdt]; simp [put, upd]⟩
        · refine .inr ⟨fun j o' ho => ?_, by
            rw [g2]
            cases hd' : o.dst with
            | none => rfl
            | some d => rw [hd'] at hdt; simp [put, upd]; intro e; exact absurd (by rw [e]) hdt⟩
          cases j with
          | zero => simp at ho; subst ho; exact hdt
          | succ j => exact g1 j o' (by simpa using ho)
  | @skip o rest T T' H H' l hd hw h ih =>
    obtain ⟨a1, a2, a3, a4, a5⟩ := ih
    have sh : ∀ i, stH (⟨T, H, undef, ⟨[], some []⟩⟩ :: l) H' (i + 1) = stH l H' i := fun i => by simp [stH]
    refine ⟨by simp [a1], rfl, fun i o' ho => ?_, fun i s hsi t => ?_, fun t => ?_⟩
    · cases i with
      | zero =>
        simp at ho; subst ho
        exact ⟨_, rfl, hd, rfl, by rw [sh, a2]; exact Ext.refl _ _, .inr ⟨hw, rfl, rfl, by rw [sh, a2]⟩⟩
      | succ i =>
        obtain ⟨s, g1, g2⟩ := a3 i o' (by simpa using ho)
        exact ⟨s, by simpa using g1, g2.hd, by rw [sh]; exact g2.H, by rw [sh, sh]; exact g2.ext, by rw [sh]; exact g2.does⟩
    · cases i with
      | zero => simp at hsi; subst hsi; exact .inr ⟨fun j o h => by omega, rfl⟩
      | succ i =>
        rcases a4 i s (by simpa using hsi) t with ⟨j, o', s', g1, g2, g3, g4, g5⟩ | ⟨g1, g2⟩
        · exact .inl ⟨j + 1, o', s', by omega, by simpa using g2, by simpa using g3, g4, g5⟩
        · by_cases hdt : o.dst = some t
          · exact .inl ⟨0, o, _, by omega, rfl, rfl, hdt, by rw [g2, hdt]; simp [put, upd]⟩
          · refine .inr ⟨fun j o' hj ho => ?_, by
              rw [g2]
              cases hd' : o.dst with
              | none => rfl
              | some d => rw [hd'] at hdt; simp [put, upd]; intro e; exact absurd (by rw [e]) hdt⟩
            cases j with
            | zero => simp at ho; subst ho; exact hdt
            | succ j => exact g1 j o' (by omega) (by simpa using ho)
    · rcases a5 t with ⟨j, o', s', g2, g3, g4, g5⟩ | ⟨g1, g2⟩
      · exact .inl ⟨j + 1, o', s', by simpa using g2, by simpa using g3, g4, g5⟩
      · by_cases hdt : o.dst = some t
        · exact .inl ⟨0, o, _, rfl, rfl, hdt, by rw [g2, hdt]; simp [put, upd]⟩
        · refine .inr ⟨fun j o' ho => ?_, by
            rw [g2]
            cases hd' : o.dst with
            | none => rfl
            | some d => rw [hd'] at hdt; simp [put, upd]; intro e; exact absurd (by rw [e]) hdt⟩
          cases j with
          | zero => simp at ho; subst ho; exact hdt
          | succ j => exact g1 j o' (by simpa using ho)

end Go.Proofs.Ythoclopeajkcpaa.E
