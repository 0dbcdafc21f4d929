/- What a call leaves behind may be put in order: blocks that nothing leads to are let go, the others renumbered. And how the machine's word becomes the world's. -/
import Derived.Test.YthoclopeajkcpaaEG
set_option linter.unusedVariables false
set_option linter.unusedSimpArgs false
namespace Go.Proofs.Ythoclopeajkcpaa.E
open Go Go.RowKit

/-- A block's new number: those below n stay; K lists the others that are kept, with their growth. -/
def renB (n : Nat) (K : List (Nat × Nat)) (b g : Nat) : Option (Nat × Nat) :=
  if b < n then some (b, g) else match K.findIdx? (fun x => x.1 == b && x.2 == g) with
    | some j => some (n + j, 0)
    | none => none

def renV (n : Nat) (K : List (Nat × Nat)) : Value → Option Value
  | .pointer (some ⟨b, off, some g⟩) => (renB n K b g).map fun (b', g') => .pointer (some ⟨b', off, some g'⟩)
  | .slice (some ⟨b, off, some g⟩) len e => (renB n K b g).map fun (b', g') => .slice (some ⟨b', off, some g'⟩) len e
  | .slice (some ⟨0, 0, none⟩) 0 e => some (.slice (some ⟨0, 0, none⟩) 0 e)
  | v => if plain1 v then some v else none

def renL (n : Nat) (K : List (Nat × Nat)) : List Value → Option (List Value)
  | [] => some []
  | v :: vs => match renV n K v, renL n K vs with
    | some u, some us => some (u :: us)
    | _, _ => none

/-- A call's result. -/
def renR (n : Nat) (K : List (Nat × Nat)) : Value → Option Value
  | .agg cs => (renL n K cs.toList).map fun l => .agg l.toArray
  | .tuple vs => (renT vs.toList).map fun l => .tuple l.toArray
  | v => renV n K v
where
  renT : List Value → Option (List Value)
    | [] => some []
    | .agg cs :: vs => match renL n K cs.toList, renT vs with
      | some l, some us => some (.agg l.toArray :: us)
      | _, _ => none
    | v :: vs => match renV n K v, renT vs with
      | some u, some us => some (u :: us)
      | _, _ => none

/-- The map behind the renumbering. -/
def renM (n : Nat) (K : List (Nat × Nat)) (M : Mp) : Mp := fun b g =>
  if b < n then M b g else if g = 0 then match K[b - n]? with
    | some (b', g') => M b' g'
    | none => none
  else none

theorem renB_map {n : Nat} {K : List (Nat × Nat)} {M : Mp} {b g b' g' : Nat} (h : renB n K b g = some (b', g')) : renM n K M b' g' = M b g := by
  unfold renB at h
  split at h
  · cases h; simp [renM, *]
  · split at h
    case h_2 => cases h
    rename_i j hj
    cases h
    obtain ⟨hlt, hp, _⟩ := List.findIdx?_eq_some_iff_getElem.1 hj
    have e : K[j] = (b, g) := by
      simp only [Bool.and_eq_true, beq_iff_eq] at hp
      exact Prod.ext hp.1 hp.2
    unfold renM
    rw [if_neg (by omega), if_pos rfl, show n + j - n = j by omega, List.getElem?_eq_getElem hlt, e]

theorem renV_rel {n : Nat} {K : List (Nat × Nat)} {M : Mp} {v u v' : Value} (h : renV n K v = some u) (r : VR M v v') : VR (renM n K M) u v' := by
  unfold renV at h
  split at h
  · rename_i b off g
    cases hb : renB n K b g with
    | none => rw [hb] at h; cases h
    | some x =>
      obtain ⟨b', g'⟩ := x
      rw [hb] at h; cases h
      obtain ⟨c, o, m, hM, rfl⟩ := r.ptr_inv
      exact .ptr (by rw [renB_map hb]; exact hM)
  · rename_i b off g len e
    cases hb : renB n K b g with
    | none => rw [hb] at h; cases h
    | some x =>
      obtain ⟨b', g'⟩ := x
      rw [hb] at h; cases h
      rcases r.sl_inv with ⟨c, o, m, cap, hM, h1, h2, rfl⟩ | ⟨rfl, a', x, hM, rfl⟩
      · exact .sl (by rw [renB_map hb]; exact hM) h1 h2
      · exact .ze (by rw [renB_map hb]; exact hM)
  · cases h
    obtain ⟨a', rfl⟩ := r.zs_inv
    exact .zs
  · split at h
    case isFalse => cases h
    rename_i hp
    cases h
    have : v' = v := by
      unfold plain1 at hp
      split at hp
      · exact r.int_inv
      · exact r.bool_inv
      · exact r.str_inv
      · cases r; rfl
      · cases r; rfl
      · cases r; rfl
      · exact r.nil_inv
      · cases hp
    subst this
    exact plain1_rel hp

theorem renL_rel {n : Nat} {K : List (Nat × Nat)} {M : Mp} : ∀ {l u l' : List Value}, renL n K l = some u → VRs M l l' → VRs (renM n K M) u l'
  | [], u, l', h, r => by
    cases h
    have : l' = [] := List.eq_nil_of_length_eq_zero (by have := r.1; simpa using this.symm)
    subst this; exact VRs.nil
  | v :: l, u, [], h, r => absurd r.1 (by simp)
  | v :: l, u, v' :: l', h, r => by
    simp only [renL] at h
    split at h
    case h_2 => cases h
    rename_i x xs h1 h2
    cases h
    exact VRs.cons (renV_rel h1 (r.2 0 v v' rfl rfl)) (renL_rel h2 ⟨by have := r.1; simpa using this, fun i a b p q => r.2 (i + 1) a b (by simpa using p) (by simpa using q)⟩)

theorem renV_one {n : Nat} {K : List (Nat × Nat)} {v u : Value} (h : renV n K v = some u) : one u = true := by
  unfold renV at h
  split at h
  · rename_i b off g
    cases hb : renB n K b g <;> rw [hb] at h <;> cases h; rfl
  · rename_i b off g len e
    cases hb : renB n K b g <;> rw [hb] at h <;> cases h; rfl
  · cases h; rfl
  · split at h
    case isFalse => cases h
    cases h; exact plain1_one ‹_›

theorem renL_one {n : Nat} {K : List (Nat × Nat)} : ∀ {l u : List Value}, renL n K l = some u → ∀ v ∈ u, one v = true
  | [], u, h, v, hv => by cases h; cases hv
  | x :: l, u, h, v, hv => by
    simp only [renL] at h
    split at h
    case h_2 => cases h
    rename_i y ys h1 h2
    cases h
    rcases List.mem_cons.1 hv with rfl | hv
    · exact renV_one h1
    · exact renL_one h2 v hv

theorem renT_rel {n : Nat} {K : List (Nat × Nat)} {M : Mp} : ∀ {l u l' : List Value}, renR.renT n K l = some u → VRs M l l' → VRs (renM n K M) u l'
  | [], u, l', h, r => by
    cases h
    have : l' = [] := List.eq_nil_of_length_eq_zero (by have := r.1; simpa using this.symm)
    subst this; exact VRs.nil
  | v :: l, u, [], h, r => absurd r.1 (by simp)
  | v :: l, u, v' :: l', h, r => by
    have rest : VRs M l l' := ⟨by have := r.1; simpa using this, fun i a b p q => r.2 (i + 1) a b (by simpa using p) (by simpa using q)⟩
    have hd := r.2 0 v v' rfl rfl
    unfold renR.renT at h
    split at h
    · rename_i hh; cases hh
    · rename_i cs vs hh
      cases hh
      split at h
      case h_2 => cases h
      rename_i x xs h1 h2
      cases h
      refine VRs.cons ?_ (renT_rel h2 rest)
      obtain ⟨ys, rfl, hc⟩ := agg_cells hd
      have hvc : VCs (renM n K M) x ys.toList := ⟨renL_rel h1 hc.1, renL_one h1⟩
      have := hvc.agg
      simpa using this
    · rename_i hh
      cases hh
      split at h
      case h_2 => cases h
      rename_i x xs h1 h2
      cases h
      exact VRs.cons (renV_rel h1 hd) (renT_rel h2 rest)

theorem renR_rel {n : Nat} {K : List (Nat × Nat)} {M : Mp} {v u v' : Value} (h : renR n K v = some u) (r : VR M v v') : VR (renM n K M) u v' := by
  unfold renR at h
  split at h
  · rename_i cs
    cases hl : renL n K cs.toList with
    | none => rw [hl] at h; cases h
    | some l =>
      rw [hl] at h; cases h
      obtain ⟨ys, rfl, hc⟩ := agg_cells r
      have hvc : VCs (renM n K M) l ys.toList := ⟨renL_rel hl hc.1, renL_one hl⟩
      have := hvc.agg
      simpa using this
  · rename_i vs
    cases hl : renR.renT n K vs.toList with
    | none => rw [hl] at h; cases h
    | some l =>
      rw [hl] at h; cases h
      have : ∃ ys, v' = .tuple ys ∧ VRs M vs.toList ys.toList := by
        cases r with
        | tup e hv =>
          rename_i ys
          refine ⟨ys, rfl, by simpa using e, fun i a b p q => ?_⟩
          obtain ⟨i1, e1⟩ := List.getElem?_eq_some_iff.1 p
          obtain ⟨i2, e2⟩ := List.getElem?_eq_some_iff.1 q
          simp only [Array.getElem_toList] at e1 e2
          rw [← e1, ← e2]; exact hv i (by simpa using i1) (by simpa using i2)
      obtain ⟨ys, rfl, hys⟩ := this
      have q := renT_rel hl hys
      refine .tup (by have := q.1; simpa using this) (fun i h1 h2 => ?_)
      simp at h1
      have h3 : i < ys.toList.length := by simpa using h2
      have := q.2 i l[i] ys.toList[i] (List.getElem?_eq_getElem h1) (List.getElem?_eq_getElem h3)
      simpa using this
  · exact renV_rel h r

/-- One block, renumbered. -/
def RenBlk (n : Nat) (K : List (Nat × Nat)) (k k2 : Blk) : Prop := renL n K k.cells = some k2.cells ∧ k2.rw = k.rw

theorem SemCall.ren {P : Program} {f : FuncId} {args : List Value} {H H1 H2 : AH} {v v2 : Value} {W : List Nat} (K : List (Nat × Nat)) (h : SemCall P f args H v H1 W) (hv : renR H.length K v = some v2)
    (hnd : (K.map (·.1)).Nodup) (hK : ∀ b g, (b, g) ∈ K → H.length ≤ b) (hlen : H2.length = H.length + K.length) (hsame : ∀ b, b < H.length → b ∉ W → H2[b]? = H1[b]?)
    (hw : ∀ b ∈ W, ∃ k k2, H1[b]? = some k ∧ H2[b]? = some k2 ∧ RenBlk H.length K k k2 ∧ k2.gen = k.gen)
    (hn : ∀ (j b g : Nat), K[j]? = some (b, g) → ∃ k k2, H1[b]? = some k ∧ k.gen = g ∧ H2[H.length + j]? = some k2 ∧ RenBlk H.length K k k2 ∧ k2.gen = 0) : SemCall P f args H v2 H2 W := by
  refine ⟨⟨h.1.1, by omega, fun b hb hnw => by rw [hsame b hb hnw]; exact h.1.2.2 b hb hnw⟩, fun N0 M w args' p ha => ?_⟩
  refine (h.2 N0 M w args' p ha).mono (fun e w' ⟨v', M', he, hr, q⟩ => ?_)
  have lo : ∀ b g, b < H.length → renM H.length K M' b g = M' b g := fun b g hb => by simp [renM, hb]
  have hi : ∀ {b g x}, H.length ≤ b → renM H.length K M' b g = some x → g = 0 ∧ ∃ b' g', K[b - H.length]? = some (b', g') ∧ M' b' g' = some x := fun {b g x} hb hx => by
    unfold renM at hx
    rw [if_neg (by omega)] at hx
    split at hx
    case isFalse => cases hx
    rename_i hg
    split at hx
    case h_2 => cases hx
    rename_i b' g' hk
    exact ⟨hg, b', g', hk, hx⟩
  have src : ∀ {b g x}, renM H.length K M' b g = some x → ∃ b' g', M' b' g' = some x ∧ ((b < H.length ∧ b' = b) ∨ (H.length ≤ b ∧ K[b - H.length]? = some (b', g'))) := fun {b g x} hx => by
    by_cases hb : b < H.length
    · rw [lo b g hb] at hx; exact ⟨b, g, hx, .inl ⟨hb, rfl⟩⟩
    · obtain ⟨_, b', g', h1, h2⟩ := hi (by omega) hx
      exact ⟨b', g', h2, .inr ⟨by omega, h1⟩⟩
  have same : ∀ {b b' b1 b2 : Nat} {g1 g2 : Nat}, ((b < H.length ∧ b1 = b) ∨ (H.length ≤ b ∧ K[b - H.length]? = some (b1, g1))) → ((b' < H.length ∧ b2 = b') ∨ (H.length ≤ b' ∧ K[b' - H.length]? = some (b2, g2))) → b1 = b2 → b = b' := by
    intro b b' b1 b2 g1 g2 h1 h2 e
    rcases h1 with ⟨a1, a2⟩ | ⟨a1, a2⟩ <;> rcases h2 with ⟨c1, c2⟩ | ⟨c1, c2⟩
    · omega
    · have := hK _ _ (List.mem_of_getElem? c2); omega
    · have := hK _ _ (List.mem_of_getElem? a2); omega
    · subst e
      obtain ⟨i1, e1⟩ := List.getElem?_eq_some_iff.1 a2
      obtain ⟨i2, e2⟩ := List.getElem?_eq_some_iff.1 c2
      have m1 : (K.map (·.1))[b - H.length]'(by simpa using i1) = b1 := by simp [e1]
      have m2 : (K.map (·.1))[b' - H.length]'(by simpa using i2) = b1 := by simp [e2]
      have hpw := List.pairwise_iff_getElem.1 hnd
      rcases Nat.lt_trichotomy (b - H.length) (b' - H.length) with h | h | h
      · exact absurd (m1.trans m2.symm) (hpw _ _ (by simpa using i1) (by simpa using i2) h)
      · omega
      · exact absurd (m2.trans m1.symm) (hpw _ _ (by simpa using i2) (by simpa using i1) h)
  have ext : MLe M (renM H.length K M') := fun b g x hx => by rw [lo b g (p.dom hx)]; exact q.ext _ _ _ hx
  have cell : ∀ {c o : Nat} {k k2 : Blk}, RenBlk H.length K k k2 → CellR M' w' c o k.cells → CellR (renM H.length K M') w' c o k2.cells := fun {c o k k2} hb hc i u hu => by
    have hren : ∀ {l u : List Value}, renL H.length K l = some u → ∀ (i : Nat) y, u[i]? = some y → ∃ x, l[i]? = some x ∧ renV H.length K x = some y := by
      intro l
      induction l with
      | nil => intro u hl i y hy; cases hl; simp at hy
      | cons x l ih =>
        intro u hl i y hy
        simp only [renL] at hl
        split at hl
        case h_2 => cases hl
        rename_i z zs h1 h2
        cases hl
        cases i with
        | zero => simp at hy; subst hy; exact ⟨x, rfl, h1⟩
        | succ i => simpa using ih h2 i y (by simpa using hy)
    obtain ⟨x, hx, hxr⟩ := hren hb.1 i u hu
    obtain ⟨_, v', c1, c2⟩ := hc i x hx
    exact ⟨renV_one hxr, v', c1, renV_rel hxr c2⟩
  refine ⟨v', renM H.length K M', he, renR_rel hv hr, ⟨by omega, fun b hb hnw => by rw [hsame b hb hnw]; exact q.same b hb hnw, ext, fun b g hb hnw => by rw [lo b g hb]; exact q.keep b g hb hnw, fun {b g x} hx => ?_, fun b hb hnn g => by rw [lo b g hb]; exact q.absent b hb hnn g, fun {b g c o n} hx => ?_, q.frame, q.wown, ⟨fun hx => ?_, fun hx hN => ?_, fun hx hx' hN => ?_, fun {b g c o n g' c' o' n'} hx hx' hN => ?_⟩, fun {b k} hb hk hx => ?_, q.size, q.os, q.tape, q.output⟩⟩
  · by_cases hb : b < H.length
    · omega
    · obtain ⟨_, b', g', h1, _⟩ := hi (by omega) hx
      have := (List.getElem?_eq_some_iff.1 h1).1
      omega
  · obtain ⟨b', g', h1, h2⟩ := src hx
    rcases q.fresh h1 with h3 | ⟨g'', h3⟩
    · exact .inl h3
    · rcases h2 with ⟨_, rfl⟩ | ⟨_, h2⟩
      · exact .inr ⟨g'', h3⟩
      · have := hK _ _ (List.mem_of_getElem? h2)
        have := p.dom h3
        omega
  · obtain ⟨_, _, h1, _⟩ := src hx; exact q.hp.lt h1
  · obtain ⟨_, _, h1, _⟩ := src hx; exact q.hp.own h1 hN
  · obtain ⟨_, _, h1, h2⟩ := src hx
    obtain ⟨_, _, h3, h4⟩ := src hx'
    exact same h2 h4 (q.hp.inj h1 h3 hN)
  · by_cases hb : b < H.length
    · rw [lo b g hb] at hx; rw [lo b g' hb] at hx'; exact q.hp.hom hx hx' hN
    · obtain ⟨e1, _, _, k1, h1⟩ := hi (by omega) hx
      obtain ⟨e2, _, _, k2, h2⟩ := hi (by omega) hx'
      rw [k1] at k2; cases k2
      exact q.hp.hom h1 h2 hN
  · by_cases hbl : b < H.length
    · have hbW : b ∈ W := by rcases hb with hb | hb; exact hb; omega
      obtain ⟨k1, k2, g1, g2, g3, g4⟩ := hw b hbW
      rw [g2] at hk; cases hk
      obtain ⟨gg, x, hx⟩ := hx
      rw [lo b gg hbl] at hx
      obtain ⟨c, o, n, c1, c2, c3, c4⟩ := q.cont (.inl hbW) g1 ⟨gg, x, hx⟩
      exact ⟨c, o, n, by rw [lo b _ hbl, g4]; exact c1, fun g hg => by rw [lo b g hbl]; exact c2 g (by rw [← g4]; exact hg), cell g3 c3, fun hr => c4 (by rw [← g3.2]; exact hr)⟩
    · obtain ⟨gg, x, hx⟩ := hx
      obtain ⟨e1, b', g', k1, h1⟩ := hi (by omega) hx
      obtain ⟨k0, k2, g1, g2, g3, g4, g5⟩ := hn (b - H.length) b' g' k1
      rw [show H.length + (b - H.length) = b by omega, hk] at g3; cases g3
      have hge := hK _ _ (List.mem_of_getElem? k1)
      obtain ⟨c, o, n, c1, c2, c3, c4⟩ := q.cont (.inr hge) g1 ⟨_, _, h1⟩
      refine ⟨c, o, n, ?_, fun g hg => ?_, cell g4 c3, fun hr => c4 (by rw [← g4.2]; exact hr)⟩
      · unfold renM
        rw [if_neg hbl, if_pos g5, k1]
        simp only []
        rw [← g2]; exact c1
      · unfold renM
        rw [if_neg hbl, if_neg (by omega)]

end Go.Proofs.Ythoclopeajkcpaa.E
