/- Arguments that lead to memory: what was read becomes blocks of the machine. -/
import Derived.Test.YthoclopeajkcpaaEP
set_option linter.unusedVariables false
namespace Go.Proofs.Ythoclopeajkcpaa.E
open Go Go.RowKit

/-- What stands in blocks, by its type: numbers, bools, and rows, structs, arrays of such; n: how deep. -/
def elems (P : Program) (F : List Value → Prop) (s : Nat) : Nat → List Value → Prop
  | 0, cs => cs = []
  | n + 1, cs => F (cs.take s) ∧ cs.length ≥ s ∧ elems P F s n (cs.drop s)
def parts (F : TypeId → List Value → Prop) (P : Program) : List Go.Field → Nat → List Value → Prop
  | [], _, cs => cs = []
  | x :: xs, o, cs => x.offset = o ∧ F x.type (cs.take (P.cellsOf x.type)) ∧ cs.length ≥ P.cellsOf x.type ∧ parts F P xs (o + P.cellsOf x.type) (cs.drop (P.cellsOf x.type))
def Rd (P : Program) : Nat → AH → TypeId → List Value → Prop
  | 0, _, _, _ => False
  | n + 1, H, t, cs => match P.underlying t with
    | some .bool => ∃ b, cs = [.bool b]
    | some (.int k) => ∃ a, cs = [.int k a] ∧ (Lit.int k a).wf = true
    | some (.slice e) => cs = [.slice none 0 0] ∨ cs = [.slice (some ⟨0, 0, none⟩) 0 (P.cellsOf e)] ∨
        ∃ b len us, cs = [sl b 0 0 len (P.cellsOf e)] ∧ H[b]? = some ⟨us, 0, false⟩ ∧ len ≤ 9223372036854775807 ∧ us.length = len * P.cellsOf e ∧ elems P (Rd P n H e) (P.cellsOf e) len us
    | some (.struct fs) => parts (Rd P n H) P fs.toList 0 cs
    | some (.array m e) => elems P (Rd P n H e) (P.cellsOf e) m cs
    | _ => False
/-- Types whose parts lie one behind the other. -/
def consec (P : Program) : List Go.Field → Nat → Option Nat
  | [], o => some o
  | x :: xs, o => if x.offset = o then consec P xs (o + P.cellsOf x.type) else none
def rdOk (P : Program) : Nat → TypeId → Bool
  | 0, _ => false
  | n + 1, t => match P.underlying t with
    | some .bool => true
    | some (.int _) => true
    | some (.slice e) => decide (0 < P.cellsOf e) && rdOk P n e
    | some (.struct fs) => decide (consec P fs.toList 0 = some (P.cellsOf t)) && fs.toList.all fun x => rdOk P n x.type
    | some (.array m e) => decide (m * P.cellsOf e = P.cellsOf t) && rdOk P n e
    | _ => false

/-- More blocks behind. -/
def Ahead (H H' : AH) : Prop := ∃ L, H' = H ++ L
theorem Ahead.refl (H : AH) : Ahead H H := ⟨[], by simp⟩
theorem Ahead.trans {H H1 H2 : AH} (h : Ahead H H1) (k : Ahead H1 H2) : Ahead H H2 := by
  obtain ⟨L, rfl⟩ := h; obtain ⟨L', rfl⟩ := k; exact ⟨L ++ L', by simp⟩
theorem Ahead.get {H H' : AH} (h : Ahead H H') {b : Nat} {k : Blk} (e : H[b]? = some k) : H'[b]? = some k := by
  obtain ⟨L, rfl⟩ := h
  rw [List.getElem?_append_left (List.getElem?_eq_some_iff.1 e).1]; exact e
theorem elems_mono {P : Program} {F F' : List Value → Prop} {s : Nat} (h : ∀ cs, F cs → F' cs) : ∀ {n : Nat} {cs : List Value}, elems P F s n cs → elems P F' s n cs
  | 0, _, k => k
  | n + 1, _, k => ⟨h _ k.1, k.2.1, elems_mono h k.2.2⟩
theorem parts_mono {P : Program} {F F' : TypeId → List Value → Prop} (h : ∀ t cs, F t cs → F' t cs) : ∀ {fs : List Go.Field} {o : Nat} {cs : List Value}, parts F P fs o cs → parts F' P fs o cs
  | [], _, _, k => k
  | _ :: _, _, _, k => ⟨k.1, h _ _ k.2.1, k.2.2.1, parts_mono h k.2.2.2⟩
theorem Rd.mono {P : Program} : ∀ {n : Nat} {H H' : AH} {t : TypeId} {cs : List Value}, Ahead H H' → Rd P n H t cs → Rd P n H' t cs := by
  intro n
  induction n with
  | zero => intro H H' t cs _ h; exact h
  | succ n ih =>
    intro H H' t cs a h
    unfold Rd at h ⊢
    split
    · rename_i hu; rw [hu] at h; exact h
    · rename_i hu; rw [hu] at h; exact h
    · rename_i hu; rw [hu] at h
      rcases h with h | h | ⟨b, len, us, h1, h2, h3, h4, h5⟩
      · exact .inl h
      · exact .inr (.inl h)
      · exact .inr (.inr ⟨b, len, us, h1, a.get h2, h3, h4, elems_mono (fun cs => ih a) h5⟩)
    · rename_i hu; rw [hu] at h; exact parts_mono (fun t cs => ih a) h
    · rename_i hu; rw [hu] at h; exact elems_mono (fun cs => ih a) h
    · rename_i h1 h2 h3 h4 h5
      split at h
      · exact absurd ‹_› h1
      · exact absurd ‹_› (h2 _)
      · exact absurd ‹_› (h3 _)
      · exact absurd ‹_› (h4 _)
      · exact absurd ‹_› (h5 _ _)
      · exact h

/-- Blocks that stand for what lies in the world W, all of it old. -/
structure Img (N0 : Nat) (H : AH) (M : Mp) (W : World) : Prop where
  dom : ∀ {b g x}, M b g = some x → b < H.length
  old : ∀ {b g c o n}, M b g = some (c, o, n) → c < N0
  cont : ∀ {b k}, H[b]? = some k → Cont N0 M W b k
theorem Img.pre {N0 : Nat} {H : AH} {M : Mp} {W : World} (h : Img N0 H M W) (hl : N0 ≤ W.heap.size) : Pre N0 H none M W :=
  ⟨h.dom, ⟨fun e => Nat.lt_of_lt_of_le (h.old e) hl, fun e k => absurd (h.old e) (by omega), fun e _ k => absurd (h.old e) (by omega), fun e _ k => absurd (h.old e) (by omega)⟩, hl, fun _ e _ => h.cont e⟩
theorem Img.nil (N0 : Nat) (W : World) : Img N0 [] (fun _ _ => none) W := ⟨(fun h => by cases h), (fun h => by cases h), (fun h => by simp at h)⟩

theorem CellR.mono {M M' : Mp} {w : World} {c o : Nat} {cs : List Value} (h : CellR M w c o cs) (hM : MLe M M') : CellR M' w c o cs := fun i v hv => by
  obtain ⟨h1, v', h2, h3⟩ := h i v hv
  exact ⟨h1, v', h2, h3.mono hM⟩
/-- One more block. -/
theorem Img.push {N0 : Nat} {H : AH} {M : Mp} {W : World} (h : Img N0 H M W) {c o n : Nat} {us : List Value} (hc : c < N0) (hr : CellR M W c o us) :
    Img N0 (H ++ [⟨us, 0, false⟩]) (mset M H.length 0 (c, o, n)) W ∧ MLe M (mset M H.length 0 (c, o, n)) ∧ mset M H.length 0 (c, o, n) H.length 0 = some (c, o, n) := by
  have le : MLe M (mset M H.length 0 (c, o, n)) := fun b g x e => by
    have := h.dom e
    unfold mset; rw [if_neg (by omega)]; exact e
  refine ⟨⟨fun {b g x} e => ?_, fun {b g c' o' n'} e => ?_, fun {b k} e => ?_⟩, le, by simp [mset]⟩
  · unfold mset at e
    split at e
    · rename_i hb; simp; omega
    · have := h.dom e; simp; omega
  · unfold mset at e
    split at e
    · cases e; exact hc
    · exact h.old e
  · by_cases hb : b < H.length
    · rw [List.getElem?_append_left hb] at e
      obtain ⟨c', o', n', e1, e2, e3, e4⟩ := h.cont e
      refine ⟨c', o', n', le _ _ _ e1, fun g hg => ?_, e3.mono le, e4⟩
      unfold mset; rw [if_neg (by omega)]; exact e2 g hg
    · rw [List.getElem?_append_right (by omega)] at e
      have : b = H.length := by
        have := (List.getElem?_eq_some_iff.1 e).1
        simp at this; omega
      subst this
      simp at e
      subst e
      exact ⟨c, o, n, by simp [mset], fun g hg => by
        have hn : M H.length g = none := by
          cases hh : M H.length g with
          | none => rfl
          | some x => have := h.dom hh; omega
        unfold mset; rw [if_neg (by simp at hg; omega)]; exact hn, hr.mono le, fun hh => by cases hh⟩

theorem VCs.nil' (M : Mp) : VCs M [] [] := ⟨VRs.nil, fun v hv => by cases hv⟩
theorem VCs.append' {M : Mp} {a a' b b' : List Value} (h : VCs M a a') (k : VCs M b b') : VCs M (a ++ b) (a' ++ b') := by
  refine ⟨⟨by simp [h.1.1, k.1.1], fun i v v' h1 h2 => ?_⟩, fun v hv => ?_⟩
  · by_cases hi : i < a.length
    · rw [List.getElem?_append_left hi] at h1
      rw [List.getElem?_append_left (by rw [← h.1.1]; exact hi)] at h2
      exact h.1.2 i v v' h1 h2
    · rw [List.getElem?_append_right (by omega)] at h1
      rw [List.getElem?_append_right (by have := h.1.1; omega), ← h.1.1] at h2
      exact k.1.2 _ v v' h1 h2
  · rcases List.mem_append.1 hv with hv | hv
    · exact h.2 v hv
    · exact k.2 v hv
theorem VCs.mono' {M M' : Mp} (hM : MLe M M') {a a' : List Value} (h : VCs M a a') : VCs M' a a' :=
  ⟨⟨h.1.1, fun i v v' h1 h2 => (h.1.2 i v v' h1 h2).mono hM⟩, h.2⟩
theorem VCs.single {M : Mp} {v v' : Value} (h : VR M v v') (ho : one v = true) : VCs M [v] [v'] :=
  ⟨VRs.cons h VRs.nil, fun x hx => by simp at hx; subst hx; exact ho⟩

section
variable {Hh : Type} {enc : TypeId × Value → Hh} {P : Program} {W : World} {N0 : Nat} {sp : Nat → Bool} {held : Bool}

/-- What is at hand once some cells became cells of the machine. -/
def Got (P : Program) (N0 : Nat) (W : World) (n : Nat) (t : TypeId) (cs : List Value) (H : AH) (M : Mp) : Prop :=
  ∃ H' M' us, Ahead H H' ∧ MLe M M' ∧ Img N0 H' M' W ∧ VCs M' us cs ∧ Rd P n H' t us

theorem Got.elems {n : Nat} {e : TypeId} {s : Nat} (hs : ∀ H M cs, Img N0 H M W → cs.length = s → (∃ m y, DataW.trod enc P W 0 sp held m e cs = some y) → Got P N0 W n e cs H M) :
    ∀ (k : Nat) (cs : List Value) (H : AH) (M : Mp), Img N0 H M W → cs.length = k * s → (∀ i, i < k → ∃ m y, DataW.trod enc P W 0 sp held m e ((cs.drop (i * s)).take s) = some y) →
      ∃ H' M' us, Ahead H H' ∧ MLe M M' ∧ Img N0 H' M' W ∧ VCs M' us cs ∧ us.length = cs.length ∧ E.elems P (Rd P n H' e) s k us
  | 0, cs, H, M, hi, hl, _ => by
    have : cs = [] := List.eq_nil_of_length_eq_zero (by simpa using hl)
    subst this
    exact ⟨H, M, [], Ahead.refl _, MLe.refl _, hi, VCs.nil' _, rfl, rfl⟩
  | k + 1, cs, H, M, hi, hl, hk => by
    have hlen : (cs.take s).length = s := by rw [List.length_take, hl, Nat.add_mul]; omega
    have h0 := hk 0 (by omega)
    rw [Nat.zero_mul, List.drop_zero] at h0
    obtain ⟨H1, M1, u1, a1, m1, i1, v1, r1⟩ := hs H M _ hi hlen h0
    obtain ⟨H2, M2, u2, a2, m2, i2, v2, l2, r2⟩ := Got.elems hs k (cs.drop s) H1 M1 i1 (by rw [List.length_drop, hl, Nat.add_mul]; omega) (fun i hik => by
      have := hk (i + 1) (by omega)
      rwa [List.drop_drop, show s + i * s = (i + 1) * s by rw [Nat.add_mul]; omega])
    have lu : u1.length = s := by rw [v1.1.1, hlen]
    refine ⟨H2, M2, u1 ++ u2, a1.trans a2, m1.trans m2, i2, ?_, ?_, ?_⟩
    · have := (v1.mono' m2).append' v2
      rwa [List.take_append_drop] at this
    · rw [List.length_append, l2, lu, List.length_drop, hl, Nat.add_mul]; omega
    · refine ⟨?_, by simp [lu], ?_⟩
      · rw [List.take_append_of_le_length (by omega), List.take_of_length_le (by omega)]
        exact r1.mono a2
      · rw [← lu, List.drop_left, lu]; exact r2
theorem Got.parts {n : Nat} (hs : ∀ t, rdOk P n t = true → ∀ H M cs, Img N0 H M W → (∃ m y, DataW.trod enc P W 0 sp held m t cs = some y) → Got P N0 W n t cs H M) {all : List Value} :
    ∀ (fs : List Go.Field) (o tot : Nat) (H : AH) (M : Mp), Img N0 H M W → consec P fs o = some tot → all.length = tot → (∀ x ∈ fs, rdOk P n x.type = true) →
      (∀ x ∈ fs, ∃ m y, DataW.trod enc P W 0 sp held m x.type ((all.drop x.offset).take (P.cellsOf x.type)) = some y) →
      ∃ H' M' us, Ahead H H' ∧ MLe M M' ∧ Img N0 H' M' W ∧ VCs M' us (all.drop o) ∧ E.parts (Rd P n H') P fs o us
  | [], o, tot, H, M, hi, hc, hl, _, _ => by
    simp only [consec, Option.some.injEq] at hc
    subst hc
    exact ⟨H, M, [], Ahead.refl _, MLe.refl _, hi, by rw [List.drop_eq_nil_of_le (by omega)]; exact VCs.nil' _, rfl⟩
  | x :: xs, o, tot, H, M, hi, hc, hl, hr, hk => by
    simp only [consec] at hc
    split at hc
    case isFalse => cases hc
    rename_i ho
    have hx := hk x (List.mem_cons_self ..)
    rw [ho] at hx
    have cle : ∀ (fs : List Go.Field) (o tot : Nat), consec P fs o = some tot → o ≤ tot := by
      intro fs
      induction fs with
      | nil => intro o tot h; simp only [consec, Option.some.injEq] at h; omega
      | cons y ys ih =>
        intro o tot h
        simp only [consec] at h
        split at h
        · have := ih _ _ h; omega
        · cases h
    have hle := cle _ _ _ hc
    have hlen : ((all.drop o).take (P.cellsOf x.type)).length = P.cellsOf x.type := by rw [List.length_take, List.length_drop]; omega
    obtain ⟨H1, M1, u1, a1, m1, i1, v1, r1⟩ := hs x.type (hr x (List.mem_cons_self ..)) H M _ hi hx
    obtain ⟨H2, M2, u2, a2, m2, i2, v2, r2⟩ := Got.parts hs xs _ _ H1 M1 i1 hc hl (fun y hy => hr y (List.mem_cons_of_mem _ hy)) (fun y hy => hk y (List.mem_cons_of_mem _ hy))
    have lu : u1.length = P.cellsOf x.type := by rw [v1.1.1, hlen]
    refine ⟨H2, M2, u1 ++ u2, a1.trans a2, m1.trans m2, i2, ?_, ho, ?_, by simp [lu], ?_⟩
    · have := (v1.mono' m2).append' v2
      rwa [← List.drop_drop, List.take_append_drop] at this
    · rw [List.take_append_of_le_length (by omega), List.take_of_length_le (by omega)]
      exact r1.mono a2
    · rw [← lu, List.drop_left, lu]; exact r2
end
end Go.Proofs.Ythoclopeajkcpaa.E
