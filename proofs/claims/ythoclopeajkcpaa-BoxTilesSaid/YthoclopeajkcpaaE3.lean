/- Growth: an append is, to the machine, the same block with more cells; in the world it is written where there is room, or laid anew. -/
import Derived.Test.YthoclopeajkcpaaE2
set_option linter.unusedVariables false
set_option linter.unusedSimpArgs false
namespace Go.Proofs.Ythoclopeajkcpaa.E
open Go Go.RowKit

/-- In place. -/
theorem Post.grow_in {N0 : Nat} {H : AH} {R : Option (List Nat)} {M : Mp} {w : World} (p : Pre N0 H R M w) {b c o n : Nat} {k : Blk} (hR : inR R b) (hk : H[b]? = some k) (hM : M b k.gen = some (c, o, n)) (hrw : k.rw = true)
    (cs vs : List Value) (hfit : o + k.cells.length + cs.length ≤ n) (hv : VCs M cs vs) :
    Post N0 H (H.set b ⟨k.cells ++ cs, k.gen + 1, true⟩) [b] M (mset M b (k.gen + 1) (c, o, n)) w (w.setCells c (o + k.cells.length) vs) := by
  have hlt : b < H.length := (List.getElem?_eq_some_iff.1 hk).1
  obtain ⟨hc, hN⟩ := cell_at p hR hk rfl hM
  have hN := hN hrw
  obtain ⟨c0, o0, n0, e0, hg0, _, _⟩ := p.cont hR hk ⟨_, _, hM⟩
  obtain ⟨⟨ccs, ce, cfr, hb1, hb2⟩, hfz⟩ := p.hp.own hM hN
  obtain ⟨ccs', hb3, hb4⟩ := setCells_shape c vs (o + k.cells.length) w ccs ce cfr hb1
  have hrest := setCells_rest c vs (o + k.cells.length) w
  have hall : ∀ g c' o' n', M b g = some (c', o', n') → N0 ≤ c' := fun g c' o' n' h => p.hp.hom hM h hN
  have hle : MLe M (mset M b (k.gen + 1) (c, o, n)) := mset_le (hg0 _ (by omega))
  have old : ∀ {b' g' x'}, mset M b (k.gen + 1) (c, o, n) b' g' = some x' → ∃ g'', M b' g'' = some x' := fun {b' g' x'} h => by
    by_cases hh : b' = b ∧ g' = k.gen + 1
    · obtain ⟨rfl, rfl⟩ := hh; rw [mset_same] at h; cases h; exact ⟨_, hM⟩
    · rw [mset_ne _ _ hh] at h; exact ⟨_, h⟩
  refine ⟨by simp, fun b' hb' hn => ?_, hle, fun b' g' hb' hn => mset_ne _ _ (fun h => hn (by simp [h.1])), fun {b' g' x'} h => by obtain ⟨_, h⟩ := old h; have := p.dom h; simpa using this, fun b' hb' h g => ?_, fun h => .inr (old h), fun c' hc' hW => setCells_block c vs _ w c' (fun e => hW b (by simp) k.gen o n (by rw [hM, e])), fun b' hb' => ?_, ⟨fun h => by obtain ⟨_, h⟩ := old h; rw [setCells_size]; exact p.hp.lt h, fun {b' g' c' o' n'} h hN' => ?_, fun h h' hN => ?_, fun h h' hN => ?_⟩, fun {b' k'} hb' hk' hx => ?_, by rw [setCells_size]; exact Nat.le_refl _, hrest.1, hrest.2.1, hrest.2.2⟩
  · have : b' ≠ b := fun e => hn (by simp [e])
    rw [List.getElem?_set_ne (Ne.symm this)]
  · cases hm : mset M b (k.gen + 1) (c, o, n) b' g with
    | none => rfl
    | some x => obtain ⟨g'', h''⟩ := old hm; rw [h g''] at h''; cases h''
  · simp at hb'; subst hb'; exact ⟨⟨_, _, hM⟩, hall⟩
  · obtain ⟨_, h⟩ := old h
    obtain ⟨h1, h2⟩ := p.hp.own h hN'
    refine ⟨?_, fun i hi => by rw [World.frozen?_setCells]; exact h2 i hi⟩
    by_cases hcc : c' = c
    · subst hcc
      obtain ⟨cs1, e1, fr1, f1, f2⟩ := h1
      rw [hb1] at f1; cases f1
      exact ⟨ccs', ce, cfr, hb3, by rw [f2, hb4]⟩
    · rw [setCells_block c vs _ w c' hcc]; exact h1
  · obtain ⟨_, h⟩ := old h; obtain ⟨_, h'⟩ := old h'; exact p.hp.inj h h' hN
  · obtain ⟨_, h⟩ := old h; obtain ⟨_, h'⟩ := old h'; exact p.hp.hom h h' hN
  · have hbb : b' = b := by
      rcases hb' with hb' | hb'
      · simpa using hb'
      · have := (List.getElem?_eq_some_iff.1 hk').1; simp at this; omega
    subst hbb
    rw [List.getElem?_set_self hlt] at hk'
    cases hk'
    refine ⟨c, o, n, mset_same _ _ _ _, fun g' hg' => ?_, fun i v hi => ?_, fun _ => hN⟩
    · simp at hg'
      rw [mset_ne _ _ (by omega)]; exact hg0 g' (by omega)
    · have hsz : vs.length = cs.length := hv.1.1.symm
      have isS : ∀ j, j < vs.length → (w.cell? ⟨c, o + k.cells.length + j, none⟩).isSome = true := fun j hj => by
        rw [cell_of_row _ _ _ _ _ _ hb1, Array.getElem?_eq_getElem (by omega)]; rfl
      by_cases h1 : i < k.cells.length
      · rw [List.getElem?_append_left h1] at hi
        obtain ⟨g1, v', g2, g3⟩ := hc i v hi
        refine ⟨g1, v', ?_, g3.mono hle⟩
        rw [World.cell?_setCells_out c vs _ w _ (fun _ _ => Or.inl (by simp; omega))]; exact g2
      · rw [List.getElem?_append_right (by omega)] at hi
        obtain ⟨v', g2, g3⟩ := hv.1.get hi
        obtain ⟨hj, e⟩ := List.getElem?_eq_some_iff.1 g2
        refine ⟨hv.2 v (List.mem_of_getElem? hi), v', ?_, g3.mono hle⟩
        have := World.cell?_setCells_in c vs (o + k.cells.length) w isS (i - k.cells.length) hj
        rw [show o + k.cells.length + (i - k.cells.length) = o + i by omega] at this
        rw [this, e]

/-- Laid anew. -/
theorem Post.grow_new {N0 : Nat} {H : AH} {R : Option (List Nat)} {M : Mp} {w w1 : World} (p : Pre N0 H R M w) {b c o n : Nat} {k : Blk} (hR : inR R b) (hk : H[b]? = some k) (hM : M b k.gen = some (c, o, n)) (hrw : k.rw = true)
    (cs : List Value) (cells : Array Value) (e : TypeId) (hh : w1.heap = w.heap) (ho : w1.os = w.os) (ht : w1.tape = w.tape) (hu : w1.output = w.output)
    (h : ∀ (i : Nat) v, (k.cells ++ cs)[i]? = some v → one v = true ∧ ∃ v', cells[i]? = some v' ∧ VR M v v') :
    Post N0 H (H.set b ⟨k.cells ++ cs, k.gen + 1, true⟩) [b] M (mset M b (k.gen + 1) (w.heap.size, 0, cells.size)) w (w1.alloc (.cells cells e)) := by
  have hlt : b < H.length := (List.getElem?_eq_some_iff.1 hk).1
  obtain ⟨hc, hN⟩ := cell_at p hR hk rfl hM
  have hN := hN hrw
  obtain ⟨c0, o0, n0, e0, hg0, _, _⟩ := p.cont hR hk ⟨_, _, hM⟩
  have hall : ∀ g c' o' n', M b g = some (c', o', n') → N0 ≤ c' := fun g c' o' n' h => p.hp.hom hM h hN
  have hle : MLe M (mset M b (k.gen + 1) (w.heap.size, 0, cells.size)) := mset_le (hg0 _ (by omega))
  have hnew : (w1.alloc (.cells cells e)).heap[w.heap.size]? = some (.cells cells e) := by
    simp [World.alloc, hh]
  have hold : ∀ c, c < w.heap.size → (w1.alloc (.cells cells e)).heap[c]? = w.heap[c]? := fun c hc => by
    have : c < w1.heap.size := by rw [hh]; exact hc
    rw [Below.heap_alloc _ _ _ this, hh]
  have old : ∀ {b' g' x'}, mset M b (k.gen + 1) (w.heap.size, 0, cells.size) b' g' = some x' → (b' = b ∧ g' = k.gen + 1 ∧ x' = (w.heap.size, 0, cells.size)) ∨ M b' g' = some x' := fun {b' g' x'} h => by
    by_cases hh : b' = b ∧ g' = k.gen + 1
    · obtain ⟨rfl, rfl⟩ := hh; rw [mset_same] at h; cases h; exact .inl ⟨rfl, rfl, rfl⟩
    · rw [mset_ne _ _ hh] at h; exact .inr h
  refine ⟨by simp, fun b' hb' hn => ?_, hle, fun b' g' hb' hn => mset_ne _ _ (fun h => hn (by simp [h.1])), fun {b' g' x'} h => ?_, fun b' hb' h g => ?_, fun h => ?_, fun c' hc' _ => hold c' hc', fun b' hb' => ?_, ⟨fun h => ?_, fun {b' g' c' o' n'} h hN' => ?_, fun {b1 g1 c1 o1 n1 b2 g2 o2 n2} h h' hN => ?_, fun {b1 g1 c1 o1 n1 g2 c2 o2 n2} h h' hN => ?_⟩, fun {b' k'} hb' hk' hx => ?_, by simp [World.alloc, hh], ho, ht, hu⟩
  · have : b' ≠ b := fun e => hn (by simp [e])
    rw [List.getElem?_set_ne (Ne.symm this)]
  · rcases old h with ⟨rfl, _, _⟩ | h
    · simpa using hlt
    · have := p.dom h; simpa using this
  · cases hm : mset M b (k.gen + 1) (w.heap.size, 0, cells.size) b' g with
    | none => rfl
    | some x =>
      rcases old hm with ⟨rfl, _, _⟩ | h'
      · rw [h k.gen] at hM; cases hM
      · rw [h g] at h'; cases h'
  · rcases old h with ⟨_, _, e⟩ | h
    · cases e; exact .inl (Nat.le_refl _)
    · exact .inr ⟨_, h⟩
  · simp at hb'; subst hb'; exact ⟨⟨_, _, hM⟩, hall⟩
  · rcases old h with ⟨_, _, e⟩ | h
    · cases e; simp [World.alloc, hh]
    · have := p.hp.lt h; simp [World.alloc, hh]; omega
  · rcases old h with ⟨_, _, e'⟩ | h
    · cases e'
      exact ⟨⟨cells, e, (0, 0), hnew, rfl⟩, fun i _ => by simp [World.frozen?, hnew]⟩
    · have hlt := p.hp.lt h
      obtain ⟨h1, h2⟩ := p.hp.own h hN'
      exact ⟨by rw [hold _ hlt]; exact h1, fun i hi => by rw [← h2 i hi]; exact frozen_keep (hold _ hlt)⟩
  · rcases old h with ⟨e1, _, e1'⟩ | h <;> rcases old h' with ⟨e2, _, e2'⟩ | h'
    · rw [e1, e2]
    · cases e1'; exact absurd (p.hp.lt h') (Nat.lt_irrefl _)
    · cases e2'; exact absurd (p.hp.lt h) (Nat.lt_irrefl _)
    · exact p.hp.inj h h' hN
  · rcases old h' with ⟨e2, _, e2'⟩ | hx'
    · cases e2'; exact p.low
    · rcases old h with ⟨e1, _, e1'⟩ | hx
      · rw [e1] at hx'; exact p.hp.hom hM hx' (hall _ _ _ _ hM)
      · exact p.hp.hom hx hx' hN
  · have hbb : b' = b := by
      rcases hb' with hb' | hb'
      · simpa using hb'
      · have := (List.getElem?_eq_some_iff.1 hk').1; simp at this; omega
    subst hbb
    rw [List.getElem?_set_self hlt] at hk'
    cases hk'
    refine ⟨w.heap.size, 0, cells.size, mset_same _ _ _ _, fun g' hg' => ?_, fun i v hi => ?_, fun _ => p.low⟩
    · simp at hg'
      rw [mset_ne _ _ (by omega)]; exact hg0 g' (by omega)
    · obtain ⟨h1, v', h2, h3⟩ := h i v hi
      refine ⟨h1, v', ?_, h3.mono hle⟩
      rw [cell_of_row _ _ _ _ _ _ hnew]; simpa using h2

end Go.Proofs.Ythoclopeajkcpaa.E
