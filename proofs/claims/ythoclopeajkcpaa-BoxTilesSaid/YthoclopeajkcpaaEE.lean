/- Operations whose order is drawn: the proof. -/
import Derived.Test.YthoclopeajkcpaaED
set_option linter.unusedVariables false
set_option linter.unusedSimpArgs false
namespace Go.Proofs.Ythoclopeajkcpaa.E
open Go Go.RowKit

def mcut (M : Mp) (n : Nat) : Mp := fun b g => if b < n then M b g else none
theorem mcut_lt {M : Mp} {n b g : Nat} (h : b < n) : mcut M n b g = M b g := by simp [mcut, h]
theorem mcut_some {M : Mp} {n b g : Nat} {x : Nat × Nat × Nat} (h : mcut M n b g = some x) : b < n ∧ M b g = some x := by
  unfold mcut at h
  split at h
  · exact ⟨‹_›, h⟩
  · cases h
theorem mcut_le {M : Mp} {n : Nat} : MLe (mcut M n) M := fun b g x h => (mcut_some h).2
theorem mcut_mono {M M' : Mp} {n n' : Nat} (h : MLe M M') (hn : n ≤ n') : MLe (mcut M n) (mcut M' n') := fun b g x e => by
  obtain ⟨h1, h2⟩ := mcut_some e
  rw [mcut_lt (by omega)]; exact h _ _ _ h2

def Fi (sts : List St) (i : Nat) : Foot := match sts[i]? with
  | some s => s.F
  | none => noFoot

theorem Fi_map (sts : List St) (i : Nat) : (sts.map (·.F)).getD i noFoot = Fi sts i := by
  unfold Fi
  rw [List.getD_eq_getElem?_getD, List.getElem?_map]
  cases sts[i]? <;> rfl

/-- All that is known of a way through a drawn region. -/
structure Setup (P : Program) (sz : Nat) (ops : Array Oper) (T0 : Env) (H0 : AH) (sts : List St) (T' : Env) (H' : AH) : Prop where
  len : sts.length = ops.size
  h0 : stH sts H' 0 = H0
  st : ∀ (i : Nat) (o : Oper), ops[i]? = some o → ∃ s : St, sts[i]? = some s ∧ StepAt P sz ops sts H' i o s
  tt : ∀ (i : Nat) (s : St), sts[i]? = some s → ∀ t : Nat, (∃ (j : Nat) (o : Oper) (s' : St), j < i ∧ ops[j]? = some o ∧ sts[j]? = some s' ∧ o.dst = some t ∧ s.T t = s'.v) ∨ ((∀ (j : Nat) (o : Oper), j < i → ops[j]? = some o → o.dst ≠ some t) ∧ s.T t = T0 t)
  te : ∀ t : Nat, (∃ (j : Nat) (o : Oper) (s' : St), ops[j]? = some o ∧ sts[j]? = some s' ∧ o.dst = some t ∧ T' t = s'.v) ∨ ((∀ (j : Nat) (o : Oper), ops[j]? = some o → o.dst ≠ some t) ∧ T' t = T0 t)
  reg : regB ops = true
  cmp : ∀ i j, i < j → j < ops.size → ordered ops i j = false → okPair (Fi sts i) (Fi sts j)

section
variable {P : Program} {sz : Nat} {ops : Array Oper} {T0 : Env} {H0 : AH} {sts : List St} {T' : Env} {H' : AH} (S : Setup P sz ops T0 H0 sts T' H')
include S

theorem Setup.end_ : stH sts H' ops.size = H' := by
  unfold stH; rw [List.getElem?_eq_none (by rw [S.len]; exact Nat.le_refl _)]

theorem Setup.ext {i : Nat} (hi : i < ops.size) : Ext (Fi sts i).w (stH sts H' i) (stH sts H' (i + 1)) := by
  obtain ⟨s, h1, h2⟩ := S.st i ops[i] (Array.getElem?_eq_getElem hi)
  have := h2.ext
  unfold Fi; rw [h1]; exact this

theorem Setup.mono {i j : Nat} (h : i ≤ j) (hj : j ≤ ops.size) : (stH sts H' i).length ≤ (stH sts H' j).length := by
  induction j with
  | zero => have : i = 0 := by omega
            subst this; exact Nat.le_refl _
  | succ j ih =>
    by_cases hij : i = j + 1
    · subst hij; exact Nat.le_refl _
    · exact Nat.le_trans (ih (by omega) (by omega)) (S.ext (by omega)).1

theorem Setup.same {i j b : Nat} (h : i ≤ j) (hj : j ≤ ops.size) (hb : b < (stH sts H' i).length) (hw : ∀ k, i ≤ k → k < j → b ∉ (Fi sts k).w) : (stH sts H' j)[b]? = (stH sts H' i)[b]? := by
  induction j with
  | zero => have : i = 0 := by omega
            subst this; rfl
  | succ j ih =>
    by_cases hij : i = j + 1
    · subst hij; rfl
    · have h1 := ih (by omega) (by omega) (fun k a b => hw k a (by omega))
      have h2 := (S.ext (i := j) (by omega)).2 b (Nat.lt_of_lt_of_le hb (S.mono (by omega) (by omega))) (hw j (by omega) (by omega))
      rw [h2, h1]
end

/-- How the world stands to the machine while some operations, listed, are done. -/
structure Inv (P : Program) (sz N0 : Nat) (ops : Array Oper) (T0 : Env) (H0 : AH) (sts : List St) (H' : AH) (M1 : Mp) (w1 : World) (L : Nat → Prop) (M : Mp) (a : Act) (w : World) : Prop where
  asz : a.tmps.size = sz
  adf : a.defers = []
  ext : MLe M1 M
  size : w1.heap.size ≤ w.heap.size
  os : w.os = w1.os
  tape : w.tape = w1.tape
  output : w.output = w1.output
  frame : ∀ c, c < w1.heap.size → (∀ i, L i → ∀ b ∈ (Fi sts i).w, ∀ g o n, M1 b g ≠ some (c, o, n)) → w.heap[c]? = w1.heap[c]?
  keep : ∀ b g, b < H0.length → (∀ i, L i → b ∉ (Fi sts i).w) → M b g = M1 b g
  absent : ∀ b, b < H0.length → (∀ g, M1 b g = none) → ∀ g, M b g = none
  fresh : ∀ {b g c o n}, M b g = some (c, o, n) → w1.heap.size ≤ c ∨ ∃ g', M1 b g' = some (c, o, n)
  wown : ∀ i, L i → ∀ b ∈ (Fi sts i).w, b < H0.length → (∃ g x, M1 b g = some x) ∧ ∀ g c o n, M1 b g = some (c, o, n) → N0 ≤ c
  dom : ∀ {b g x}, M b g = some x → b < H0.length ∨ ∃ i, L i ∧ i < ops.size ∧ (stH sts H' i).length ≤ b ∧ b < (stH sts H' (i + 1)).length
  hp : Hp N0 M w
  dst : ∀ (i : Nat) (o : Oper) (s : St) (d : Nat), L i → ops[i]? = some o → sts[i]? = some s → o.dst = some d → VR (mcut M (stH sts H' (i + 1)).length) s.v (a.tmps.getD d undef)
  old : ∀ (t : Nat), (∀ (i : Nat) (o : Oper), L i → ops[i]? = some o → o.dst ≠ some t) → VR M1 (T0 t) (a.tmps.getD t undef)
  cont : ∀ (j b : Nat), j ≤ ops.size → (∀ i, i < j → (b ∈ (Fi sts i).w ∨ ((stH sts H' i).length ≤ b ∧ b < (stH sts H' (i + 1)).length)) → L i) → (∀ i, j ≤ i → i < ops.size → b ∈ (Fi sts i).w → ¬ L i) →
    ∀ k, (stH sts H' j)[b]? = some k → (∃ g x, M b g = some x) → Cont N0 (mcut M (stH sts H' j).length) w b k
  pres : ∀ i, L i → ∀ b ∈ (Fi sts i).w, ∃ g x, M b g = some x
  closed : ∀ (i : Nat) (o : Oper), ops[i]? = some o → L i → ∀ k ∈ ons o, L k
  lt : ∀ i, L i → i < ops.size

theorem Cont.mono {N0 : Nat} {M M' : Mp} {w : World} {b : Nat} {k : Blk} (h : Cont N0 M w b k) (hM : MLe M M') (hn : ∀ g, M b g = none → M' b g = none) : Cont N0 M' w b k := by
  obtain ⟨c, o, n, h1, h2, h3, h4⟩ := h
  exact ⟨c, o, n, hM _ _ _ h1, fun g hg => hn g (h2 g hg), h3.keep hM rfl, h4⟩

theorem Hp.sub {N0 : Nat} {M M' : Mp} {w : World} (h : Hp N0 M w) (hM : MLe M' M) : Hp N0 M' w :=
  ⟨fun e => h.lt (hM _ _ _ e), fun e hN => h.own (hM _ _ _ e) hN, fun e e' hN => h.inj (hM _ _ _ e) (hM _ _ _ e') hN, fun e e' hN => h.hom (hM _ _ _ e) (hM _ _ _ e') hN⟩

section
variable {P : Program} {sz N0 : Nat} {ops : Array Oper} {T0 : Env} {H0 : AH} {sts : List St} {T' : Env} {H' : AH} (S : Setup P sz ops T0 H0 sts T' H') {M1 : Mp} {w1 : World} (hdom1 : ∀ {b g x}, M1 b g = some x → b < H0.length) {L : Nat → Prop} {M : Mp} {a : Act} {w : World} (I : Inv P sz N0 ops T0 H0 sts H' M1 w1 L M a w)
include S hdom1 I

/-- What an operation that may come next reads in its slots. -/
theorem Inv.slot {i : Nat} {o : Oper} {s : St} (ho : ops[i]? = some o) (hs : sts[i]? = some s) (hni : ¬ L i) (hk : ∀ k ∈ ons o, L k) {t : Nat} (ht : t ∈ o.looksAt ops) :
    VR (mcut M (stH sts H' i).length) (s.T t) (a.tmps.getD t undef) := by
  have hi : i < ops.size := (Array.getElem?_eq_some_iff.1 ho).1
  rcases S.tt i s hs t with ⟨j, oj, sj, hji, hj, hsj, hdj, e⟩ | ⟨hno, e⟩
  · have hLj : L j := by
      cases hord : ordered ops j i with
      | true => exact ordered_done I.closed hord ho hk
      | false => exact absurd ht (((regB_apart S.reg hji hj ho).2 hord).1 t hdj)
    rw [e]
    exact (I.dst j oj sj t hLj hj hsj hdj).mono (mcut_mono (MLe.refl _) (S.mono (by omega) (by omega)))
  · rw [e]
    refine (I.old t (fun j oj hLj hj hd => ?_)).mono (fun b g x h => ?_)
    · have hjs := I.lt j hLj
      rcases Nat.lt_trichotomy j i with h | h | h
      · exact hno j oj h hj hd
      · subst h; exact hni hLj
      · cases hord : ordered ops i j with
        | true => exact hni (ordered_done I.closed hord hj (fun k hk => I.closed j oj hj hLj k hk))
        | false => exact absurd ht (((regB_apart S.reg h ho hj).2 hord).2 t hd)
    · rw [mcut_lt (Nat.lt_of_lt_of_le (hdom1 h) (by have := S.mono (Nat.zero_le i) (by omega); rw [S.h0] at this; exact this))]
      exact I.ext _ _ _ h

end

section
variable {P : Program} {sz N0 : Nat} {ops : Array Oper} {T0 : Env} {H0 : AH} {sts : List St} {T' : Env} {H' : AH} (S : Setup P sz ops T0 H0 sts T' H') {M1 : Mp} {w1 : World} {L : Nat → Prop} {M : Mp} {a : Act} {w : World} (I : Inv P sz N0 ops T0 H0 sts H' M1 w1 L M a w)
include S I

/-- A block that is there was made by what is done. -/
theorem Inv.made {b g : Nat} {x : Nat × Nat × Nat} (h : M b g = some x) {i : Nat} (hi : i < ops.size) (hb : (stH sts H' i).length ≤ b ∧ b < (stH sts H' (i + 1)).length) : L i := by
  rcases I.dom h with h | ⟨j, hL, hj, hb1, hb2⟩
  · have := S.mono (Nat.zero_le i) (by omega)
    rw [S.h0] at this; omega
  · rcases Nat.lt_trichotomy i j with h | h | h
    · have := S.mono (i := i + 1) (j := j) (by omega) (by omega); omega
    · subst h; exact hL
    · have := S.mono (i := j + 1) (j := i) (by omega) (by omega); omega

/-- What an operation that may come next finds in the blocks that it reads. -/
theorem Inv.pre {i : Nat} {o : Oper} (ho : ops[i]? = some o) (hni : ¬ L i) (hk : ∀ k ∈ ons o, L k) (hlow : N0 ≤ w.heap.size) :
    Pre N0 (stH sts H' i) (Fi sts i).r (mcut M (stH sts H' i).length) w := by
  have hi : i < ops.size := (Array.getElem?_eq_some_iff.1 ho).1
  refine ⟨fun h => (mcut_some h).1, I.hp.sub mcut_le, hlow, fun {b k} hR hkb hx => ?_⟩
  obtain ⟨g, x, hx⟩ := hx
  have hMx := (mcut_some hx).2
  refine I.cont i b (by omega) (fun j hj hb => ?_) (fun j hj hjs hb hLj => ?_) k hkb ⟨g, x, hMx⟩
  · rcases hb with hb | hb
    · cases hord : ordered ops j i with
      | true => exact ordered_done I.closed hord ho hk
      | false => exact absurd hR ((S.cmp j i hj hi hord).1 b hb).1
    · exact Inv.made S I hMx (by omega) hb
  · rcases Nat.lt_or_ge i j with h | h
    · have hoj : ops[j]? = some ops[j] := Array.getElem?_eq_getElem hjs
      cases hord : ordered ops i j with
      | true => exact hni (ordered_done I.closed hord hoj (fun k hk => I.closed j _ hoj hLj k hk))
      | false => exact absurd hR ((S.cmp i j h hjs hord).2 b hb).1
    · have : i = j := by omega
      subst this; exact hni hLj

/-- One more is done. -/
theorem Inv.step {i : Nat} {o : Oper} {s : St} (ho : ops[i]? = some o) (hs : sts[i]? = some s) (hsd : dok sz o.dst = true) (hsH : stH sts H' i = s.H) (hni : ¬ L i) (hk : ∀ k ∈ ons o, L k)
    {v' : Value} {Mi : Mp} {w' : World} (hv : VR Mi s.v v') (p : Post N0 (stH sts H' i) (stH sts H' (i + 1)) (Fi sts i).w (mcut M (stH sts H' i).length) Mi w w') :
    Inv P sz N0 ops T0 H0 sts H' M1 w1 (fun j => L j ∨ j = i) (fun b g => if b < (stH sts H' (i + 1)).length then Mi b g else M b g) (a.put o.dst v') w' := by
  have hi : i < ops.size := (Array.getElem?_eq_some_iff.1 ho).1
  have hm1 : (stH sts H' i).length ≤ (stH sts H' (i + 1)).length := S.mono (by omega) (by omega)
  have h01 : H0.length ≤ (stH sts H' i).length := by have := S.mono (Nat.zero_le i) (by omega); rw [S.h0] at this; exact this
  -- the new map, part by part
  generalize hM' : (fun b g => if b < (stH sts H' (i + 1)).length then Mi b g else M b g) = M'
  have lo : ∀ b g, b < (stH sts H' (i + 1)).length → M' b g = Mi b g := fun b g h => by rw [← hM']; simp [h]
  have hiM : ∀ b g, (stH sts H' (i + 1)).length ≤ b → M' b g = M b g := fun b g h => by rw [← hM']; simp [Nat.not_lt.2 h]
  have none_new : ∀ b g, (stH sts H' i).length ≤ b → b < (stH sts H' (i + 1)).length → M b g = none := fun b g h1 h2 => by
    cases hx : M b g with
    | none => rfl
    | some x => exact absurd (Inv.made S I hx hi ⟨h1, h2⟩) hni
  have MM' : MLe M M' := fun b g x h => by
    by_cases hb : b < (stH sts H' (i + 1)).length
    · rw [lo b g hb]
      by_cases hb2 : b < (stH sts H' i).length
      · exact p.ext _ _ _ (by rw [mcut_lt hb2]; exact h)
      · rw [none_new b g (by omega) hb] at h; cases h
    · rw [hiM b g (by omega)]; exact h
  have MiM' : MLe Mi M' := fun b g x h => by rw [lo b g (p.dom h)]; exact h
  have MiC : MLe Mi (mcut M' (stH sts H' (i + 1)).length) := fun b g x h => by rw [mcut_lt (p.dom h)]; exact MiM' _ _ _ h
  -- what was there before, if it is there now
  have was : ∀ b, b < (stH sts H' i).length → (∃ g x, Mi b g = some x) → ∃ g x, M b g = some x := fun b hb ⟨g, x, h⟩ => by
    refine Classical.byContradiction fun hn => ?_
    have hall : ∀ g, mcut M (stH sts H' i).length b g = none := fun g => by
      rw [mcut_lt hb]
      cases h' : M b g with
      | none => rfl
      | some x => exact absurd ⟨g, x, h'⟩ hn
    rw [p.absent b hb hall g] at h; cases h
  have keepM : ∀ b g, b ∉ (Fi sts i).w → ¬ ((stH sts H' i).length ≤ b ∧ b < (stH sts H' (i + 1)).length) → M' b g = M b g := fun b g hw hn => by
    by_cases hb : b < (stH sts H' (i + 1)).length
    · have hb2 : b < (stH sts H' i).length := by omega
      rw [lo b g hb, p.keep b g hb2 hw, mcut_lt hb2]
    · exact hiM b g (by omega)
  have wlt : ∀ b, b ∈ (Fi sts i).w → b < (stH sts H' i).length ∧ ∃ g x, M b g = some x := fun b hb => by
    obtain ⟨⟨g, x, h⟩, _⟩ := p.wown b hb
    exact ⟨(mcut_some h).1, g, x, (mcut_some h).2⟩
  have blk : ∀ b g c o n, b ∉ (Fi sts i).w → M b g = some (c, o, n) → w'.heap[c]? = w.heap[c]? := fun b g c o n hw h => by
    refine p.frame c (I.hp.lt h) (fun b' hb' g' o' n' h' => ?_)
    have hN := (p.wown b' hb').2 _ _ _ _ h'
    have := I.hp.inj h (mcut_some h').2 hN
    exact hw (this ▸ hb')
  refine
    { asz := by cases hd : o.dst <;> simp [Act.put, hd, I.asz]
      adf := by cases hd : o.dst <;> simp [Act.put, hd, I.adf]
      ext := I.ext.trans MM'
      size := Nat.le_trans I.size p.size
      os := p.os.trans I.os
      tape := p.tape.trans I.tape
      output := p.output.trans I.output
      frame := fun c hc hw => ?_
      keep := fun b g hb hw => ?_
      absent := fun b hb hn g => ?_
      fresh := fun {b g c oo n} h => ?_
      wown := fun j hj b hb hlt => ?_
      dom := fun {b g x} h => ?_
      hp := ?_
      dst := fun j oj sj d hj hoj hsj hd => ?_
      old := fun t ht => ?_
      cont := fun j b hj h1 h2 k hkb hx => ?_
      pres := fun j hj b hb => ?_
      closed := fun j oj hoj hj k hk' => ?_
      lt := fun j hj => ?_ }
  · -- frame
    have f1 := I.frame c hc (fun j hj b hb g oo n => hw j (.inl hj) b hb g oo n)
    refine (p.frame c (Nat.lt_of_lt_of_le hc I.size) (fun b hb g oo n h => ?_)).trans f1
    rcases I.fresh (mcut_some h).2 with h' | ⟨g', h'⟩
    · omega
    · exact hw i (.inr rfl) b hb g' oo n h'
  · rw [keepM b g (hw i (.inr rfl)) (by omega)]
    exact I.keep b g hb (fun j hj => hw j (.inl hj))
  · cases hx : M' b g with
    | none => rfl
    | some x =>
      have hMi : Mi b g = some x := by rw [← lo b g (by omega)]; exact hx
      obtain ⟨g', x', h'⟩ := was b (by omega) ⟨g, x, hMi⟩
      rw [I.absent b hb hn g'] at h'; cases h'
  · by_cases hb : b < (stH sts H' (i + 1)).length
    · rw [lo b g hb] at h
      rcases p.fresh h with h' | ⟨g', h'⟩
      · exact .inl (Nat.le_trans I.size h')
      · exact I.fresh (mcut_some h').2
    · rw [hiM b g (by omega)] at h; exact I.fresh h
  · rcases hj with hj | rfl
    · exact I.wown j hj b hb hlt
    · refine ⟨?_, fun g c oo n h => (p.wown b hb).2 g c oo n (by rw [mcut_lt (wlt b hb).1]; exact I.ext _ _ _ h)⟩
      refine Classical.byContradiction fun hn => ?_
      have hall : ∀ g, M1 b g = none := fun g => by
        cases h' : M1 b g with
        | none => rfl
        | some x => exact absurd ⟨g, x, h'⟩ hn
      obtain ⟨_, g, x, h⟩ := wlt b hb
      rw [I.absent b hlt hall g] at h; cases h
  · by_cases hb : b < (stH sts H' (i + 1)).length
    · by_cases hb2 : b < (stH sts H' i).length
      · rw [lo b g hb] at h
        obtain ⟨g', x', h'⟩ := was b hb2 ⟨g, x, h⟩
        rcases I.dom h' with h'' | ⟨j, hj, hr⟩
        · exact .inl h''
        · exact .inr ⟨j, .inl hj, hr⟩
      · exact .inr ⟨i, .inr rfl, hi, by omega, hb⟩
    · rw [hiM b g (by omega)] at h
      rcases I.dom h with h'' | ⟨j, hj, hr⟩
      · exact .inl h''
      · exact .inr ⟨j, .inl hj, hr⟩
  · -- hp
    have far : ∀ {b g c oo n}, (stH sts H' (i + 1)).length ≤ b → M b g = some (c, oo, n) → w'.heap[c]? = w.heap[c]? := fun {b g c oo n} hb h =>
      blk b g c oo n (fun hw => by have := (wlt b hw).1; omega) h
    refine ⟨fun {b g c oo n} h => ?_, fun {b g c oo n} h hN => ?_, fun {b g c oo n b' g' o' n'} h h' hN => ?_, fun {b g c oo n g' c' o' n'} h h' hN => ?_⟩
    · by_cases hb : b < (stH sts H' (i + 1)).length
      · rw [lo b g hb] at h; exact p.hp.lt h
      · rw [hiM b g (by omega)] at h; exact Nat.lt_of_lt_of_le (I.hp.lt h) p.size
    · by_cases hb : b < (stH sts H' (i + 1)).length
      · rw [lo b g hb] at h; exact p.hp.own h hN
      · rw [hiM b g (by omega)] at h
        obtain ⟨q1, q2⟩ := I.hp.own h hN
        have hc := far (by omega) h
        exact ⟨by rw [hc]; exact q1, fun j hj => by rw [← q2 j hj]; exact frozen_keep hc⟩
    · by_cases hb : b < (stH sts H' (i + 1)).length <;> by_cases hb' : b' < (stH sts H' (i + 1)).length
      · rw [lo b g hb] at h; rw [lo b' g' hb'] at h'; exact p.hp.inj h h' hN
      · rw [lo b g hb] at h; rw [hiM b' g' (by omega)] at h'
        rcases p.fresh h with q | ⟨g'', q⟩
        · have := I.hp.lt h'; omega
        · exact I.hp.inj (mcut_some q).2 h' hN
      · rw [hiM b g (by omega)] at h; rw [lo b' g' hb'] at h'
        rcases p.fresh h' with q | ⟨g'', q⟩
        · have := I.hp.lt h; omega
        · exact I.hp.inj h (mcut_some q).2 hN
      · rw [hiM b g (by omega)] at h; rw [hiM b' g' (by omega)] at h'; exact I.hp.inj h h' hN
    · by_cases hb : b < (stH sts H' (i + 1)).length
      · rw [lo b g hb] at h; rw [lo b g' hb] at h'; exact p.hp.hom h h' hN
      · rw [hiM b g (by omega)] at h; rw [hiM b g' (by omega)] at h'; exact I.hp.hom h h' hN
  · -- dst
    rcases hj with hj | rfl
    · have hjs := I.lt j hj
      have hne : o.dst ≠ some d := fun e => by
        rcases Nat.lt_trichotomy i j with h | h | h
        · exact (regB_apart S.reg h ho hoj).1 d e hd
        · subst h; exact hni hj
        · exact (regB_apart S.reg h hoj ho).1 d hd e
      have hget : (a.put o.dst v').tmps.getD d undef = a.tmps.getD d undef := by
        cases hd' : o.dst with
        | none => rfl
        | some d' =>
          rw [hd'] at hne
          simp only [Act.put, Array.getD_eq_getD_getElem?]
          rw [Array.getElem?_setIfInBounds_ne (fun e => hne (by rw [e]))]
      rw [hget]
      exact (I.dst j oj sj d hj hoj hsj hd).mono (mcut_mono MM' (Nat.le_refl _))
    · rw [ho] at hoj; cases hoj
      rw [hs] at hsj; cases hsj
      rw [hd] at hsd
      simp only [dok, decide_eq_true_eq] at hsd
      have hget : (a.put (some d) v').tmps.getD d undef = v' := by
        simp only [Act.put, Array.getD_eq_getD_getElem?]
        rw [Array.getElem?_setIfInBounds_self_of_lt (by rw [I.asz]; exact hsd)]
        rfl
      rw [hd, hget]
      exact hv.mono MiC
  · -- old
    have hne : o.dst ≠ some t := ht i o (.inr rfl) ho
    have hget : (a.put o.dst v').tmps.getD t undef = a.tmps.getD t undef := by
      cases hd' : o.dst with
      | none => rfl
      | some d' =>
        rw [hd'] at hne
        simp only [Act.put, Array.getD_eq_getD_getElem?]
        rw [Array.getElem?_setIfInBounds_ne (fun e => hne (by rw [e]))]
    rw [hget]
    exact I.old t (fun j oj hj hoj => ht j oj (.inl hj) hoj)
  · -- cont
    have fin : ∀ (hlt : i < j), (∀ k', i + 1 ≤ k' → k' < j → b ∉ (Fi sts k').w) → (b ∈ (Fi sts i).w ∨ (stH sts H' i).length ≤ b) → b < (stH sts H' (i + 1)).length → Cont N0 (mcut M' (stH sts H' j).length) w' b k := by
      intro hlt hnw hor hb
      rw [S.same (i := i + 1) (j := j) (by omega) hj hb hnw] at hkb
      obtain ⟨g, x, hx⟩ := hx
      rw [lo b g hb] at hx
      refine (p.cont hor hkb ⟨g, x, hx⟩).mono (MiC.trans (mcut_mono (MLe.refl _) (S.mono (by omega) hj))) (fun g hg => ?_)
      unfold mcut
      split
      · rw [lo b g hb]; exact hg
      · rfl
    by_cases hw : b ∈ (Fi sts i).w
    · have hji : i < j := by
        rcases Nat.lt_or_ge i j with h | h
        · exact h
        · exact absurd (.inr rfl) (h2 i h hi hw)
      refine fin hji (fun k' hk1 hk2 hw' => ?_) (.inl hw) (by have := (wlt b hw).1; omega)
      have hk's : k' < ops.size := by omega
      have hok' : ops[k']? = some ops[k'] := Array.getElem?_eq_getElem hk's
      rcases h1 k' hk2 (.inl hw') with hL | e
      · cases hord : ordered ops i k' with
        | true => exact hni (ordered_done I.closed hord hok' (fun q hq => I.closed k' _ hok' hL q hq))
        | false => exact ((S.cmp i k' (by omega) hk's hord).1 b hw).2 hw'
      · omega
    · by_cases hcr : (stH sts H' i).length ≤ b ∧ b < (stH sts H' (i + 1)).length
      · have hji : i < j := by
          rcases Nat.lt_or_ge i j with h | h
          · exact h
          · have := (List.getElem?_eq_some_iff.1 hkb).1
            have := S.mono h (by omega)
            omega
        refine fin hji (fun k' hk1 hk2 hw' => ?_) (.inr hcr.1) hcr.2
        rcases h1 k' hk2 (.inl hw') with hL | e
        · obtain ⟨g, x, h⟩ := I.pres k' hL b hw'
          rw [none_new b g hcr.1 hcr.2] at h; cases h
        · omega
      · have hMx : ∃ g x, M b g = some x := by
          obtain ⟨g, x, h⟩ := hx
          rw [keepM b g hw hcr] at h; exact ⟨g, x, h⟩
        have hc := I.cont j b hj (fun k' hk1 hor => by
          rcases h1 k' hk1 hor with h | e
          · exact h
          · subst e; exact absurd hor (fun h => h.elim hw hcr)) (fun k' hk1 hk2 hw' hL => h2 k' hk1 hk2 hw' (.inl hL)) k hkb hMx
        obtain ⟨c, oo, n, q1, q2, q3, q4⟩ := hc
        have hcc := blk b _ c oo n hw (mcut_some q1).2
        have hle : MLe (mcut M (stH sts H' j).length) (mcut M' (stH sts H' j).length) := mcut_mono MM' (Nat.le_refl _)
        refine ⟨c, oo, n, hle _ _ _ q1, fun g hg => ?_, q3.keep hle hcc, q4⟩
        have := q2 g hg
        unfold mcut at this ⊢
        split
        · rw [if_pos ‹_›] at this; rw [keepM b g hw hcr]; exact this
        · rfl
  · rcases hj with hj | rfl
    · obtain ⟨g, x, h⟩ := I.pres j hj b hb; exact ⟨g, x, MM' _ _ _ h⟩
    · obtain ⟨_, g, x, h⟩ := wlt b hb; exact ⟨g, x, MM' _ _ _ h⟩
  · rcases hj with hj | rfl
    · exact .inl (I.closed j oj hoj hj k hk')
    · rw [ho] at hoj; cases hoj; exact .inl (hk k hk')
  · rcases hj with hj | rfl
    · exact I.lt j hj
    · exact hi

end
end Go.Proofs.Ythoclopeajkcpaa.E
