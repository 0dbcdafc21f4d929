/- The machine's memory: a new block, a load, a store, an append, each beside what the world does. -/
import Derived.Test.YthoclopeajkcpaaE1
import Derived.Laws.Append
import Derived.Laws.AppendOwn
import Derived.Laws.MakeOwn
import Derived.Laws.IdiomCopy
import Derived.Laws.Slices
import Derived.Laws.Rows
set_option linter.unusedVariables false
set_option linter.unusedSimpArgs false
namespace Go.Proofs.Ythoclopeajkcpaa.E
open Go Go.RowKit

theorem one_kit (v : Value) : v.oneCell' = one v := by cases v <;> rfl

theorem add_off (c o j : Nat) : (⟨c, o, none⟩ : Addr).add j = ⟨c, o + j, none⟩ := by unfold Addr.add; split <;> simp_all

/-- The map with one place more. -/
def mset (M : Mp) (b g : Nat) (x : Nat × Nat × Nat) : Mp := fun b' g' => if b' = b ∧ g' = g then some x else M b' g'
theorem mset_same (M : Mp) (b g : Nat) (x : Nat × Nat × Nat) : mset M b g x b g = some x := by simp [mset]
theorem mset_ne (M : Mp) {b g b' g' : Nat} (x : Nat × Nat × Nat) (h : ¬ (b' = b ∧ g' = g)) : mset M b g x b' g' = M b' g' := by simp only [mset]; rw [if_neg h]
theorem mset_le {M : Mp} {b g : Nat} {x : Nat × Nat × Nat} (h : M b g = none) : MLe M (mset M b g x) := fun b' g' y e => by
  by_cases hh : b' = b ∧ g' = g
  · obtain ⟨rfl, rfl⟩ := hh; rw [h] at e; cases e
  · rw [mset_ne _ _ hh]; exact e

/-- A block in which nothing is written is a step that writes nothing. -/
theorem Post.still {N0 : Nat} {H : AH} {R : Option (List Nat)} {M : Mp} {w w' : World} (p : Pre N0 H R M w) (hh : w'.heap = w.heap) (ho : w'.os = w.os) (ht : w'.tape = w.tape) (hu : w'.output = w.output) : Post N0 H H [] M M w w' where
  le := Nat.le_refl _
  same := fun _ _ _ => rfl
  ext := MLe.refl _
  keep := fun _ _ _ _ => rfl
  dom := p.dom
  absent := fun _ _ h => h
  fresh := fun h => .inr ⟨_, h⟩
  frame := fun _ _ _ => by rw [hh]
  wown := fun b h => by cases h
  hp := ⟨fun h => by rw [hh]; exact p.hp.lt h, fun h hN => ⟨by rw [hh]; exact (p.hp.own h hN).1, fun i hi => by rw [← (p.hp.own h hN).2 i hi]; exact frozen_keep (by rw [hh])⟩, fun h h' hN => p.hp.inj h h' hN, fun h h' hN => p.hp.hom h h' hN⟩
  cont := fun {b k} h hk => by
    rcases h with h | h
    · cases h
    · rw [List.getElem?_eq_none h] at hk; cases hk
  size := by rw [hh]; exact Nat.le_refl _
  os := ho
  tape := ht
  output := hu

/-- What a new row of cells in the world is to the machine. The world may have been asked for something ahead of it. -/
theorem Post.new {N0 : Nat} {H : AH} {R : Option (List Nat)} {M : Mp} {w w1 : World} (p : Pre N0 H R M w) (cs : List Value) (cells : Array Value) (e : TypeId) (rw_ : Bool)
    (hh : w1.heap = w.heap) (ho : w1.os = w.os) (ht : w1.tape = w.tape) (hu : w1.output = w.output)
    (h : ∀ (i : Nat) v, cs[i]? = some v → one v = true ∧ ∃ v', cells[i]? = some v' ∧ VR M v v') :
    Post N0 H (H ++ [⟨cs, 0, rw_⟩]) [] M (mset M H.length 0 (w.heap.size, 0, cells.size)) w (w1.alloc (.cells cells e)) := by
  have none_new : ∀ g, M H.length g = none := fun g => by
    cases h' : M H.length g with
    | none => rfl
    | some x => exact absurd (p.dom h') (Nat.lt_irrefl _)
  have hle : MLe M (mset M H.length 0 (w.heap.size, 0, cells.size)) := mset_le (none_new 0)
  have hnew : (w1.alloc (.cells cells e)).heap[w.heap.size]? = some (.cells cells e) := by
    simp [World.alloc, hh]
  have hold : ∀ c, c < w.heap.size → (w1.alloc (.cells cells e)).heap[c]? = w.heap[c]? := fun c hc => by
    have : c < w1.heap.size := by rw [hh]; exact hc
    rw [Below.heap_alloc _ _ _ this, hh]
  refine ⟨by simp, fun b hb _ => List.getElem?_append_left hb, hle, fun b g hb _ => mset_ne _ _ (by omega), fun {b g x} hx => ?_, fun b hb hn g => ?_, fun {b g c o n} hx => ?_, fun c hc _ => hold c hc, fun b hb => by (cases hb), ⟨fun {b g c o n} hx => ?_, fun {b g c o n} hx hN => ?_, fun {b g c o n b' g' o' n'} hx hx' hN => ?_, fun {b g c o n g' c' o' n'} hx hx' hN => ?_⟩, fun {b k} hb hk hx => ?_, ?_, ho, ht, hu⟩
  · by_cases hh' : b = H.length ∧ g = 0
    · simp [hh'.1]
    · rw [mset_ne _ _ hh'] at hx; have := p.dom hx; simp; omega
  · rw [mset_ne _ _ (by omega)]; exact hn g
  · by_cases hh' : b = H.length ∧ g = 0
    · obtain ⟨rfl, rfl⟩ := hh'; rw [mset_same] at hx; cases hx; exact .inl (Nat.le_refl _)
    · rw [mset_ne _ _ hh'] at hx; exact .inr ⟨g, hx⟩
  · by_cases hh' : b = H.length ∧ g = 0
    · obtain ⟨rfl, rfl⟩ := hh'; rw [mset_same] at hx; cases hx; simp [World.alloc, hh]
    · rw [mset_ne _ _ hh'] at hx; have := p.hp.lt hx; simp [World.alloc, hh]; omega
  · by_cases hh' : b = H.length ∧ g = 0
    · obtain ⟨rfl, rfl⟩ := hh'; rw [mset_same] at hx; cases hx
      refine ⟨⟨cells, e, (0, 0), hnew, rfl⟩, fun i _ => ?_⟩
      simp [World.frozen?, hnew]
    · rw [mset_ne _ _ hh'] at hx
      have hlt := p.hp.lt hx
      obtain ⟨h1, h2⟩ := p.hp.own hx hN
      exact ⟨by rw [hold c hlt]; exact h1, fun i hi => by rw [← h2 i hi]; exact frozen_keep (hold c hlt)⟩
  · by_cases h1 : b = H.length ∧ g = 0
    · by_cases h2 : b' = H.length ∧ g' = 0
      · rw [h1.1, h2.1]
      · obtain ⟨rfl, rfl⟩ := h1
        rw [mset_same] at hx; cases hx
        rw [mset_ne _ _ h2] at hx'
        exact absurd (p.hp.lt hx') (Nat.lt_irrefl _)
    · by_cases h2 : b' = H.length ∧ g' = 0
      · obtain ⟨rfl, rfl⟩ := h2
        rw [mset_same] at hx'; cases hx'
        rw [mset_ne _ _ h1] at hx
        exact absurd (p.hp.lt hx) (Nat.lt_irrefl _)
      · rw [mset_ne _ _ h1] at hx; rw [mset_ne _ _ h2] at hx'; exact p.hp.inj hx hx' hN
  · by_cases h1 : b = H.length ∧ g' = 0
    · obtain ⟨rfl, rfl⟩ := h1
      rw [mset_same] at hx'; cases hx'; exact p.low
    · rw [mset_ne _ _ h1] at hx'
      by_cases h2 : b = H.length ∧ g = 0
      · exact absurd (p.dom hx') (by omega)
      · rw [mset_ne _ _ h2] at hx; exact p.hp.hom hx hx' hN
  · rcases hb with hb | hb
    · cases hb
    · have hlt : b < (H ++ [(⟨cs, 0, rw_⟩ : Blk)]).length := (List.getElem?_eq_some_iff.1 hk).1
      have hbe : b = H.length := by simp at hlt; omega
      subst hbe
      rw [List.getElem?_append_right (Nat.le_refl _)] at hk
      simp at hk
      subst hk
      refine ⟨w.heap.size, 0, cells.size, mset_same _ _ _ _, fun g hg => by rw [mset_ne _ _ (by simp at hg; omega)]; exact none_new g, fun i v hv => ?_, fun _ => p.low⟩
      obtain ⟨h1, v', h2, h3⟩ := h i v hv
      refine ⟨h1, v', ?_, h3.mono hle⟩
      rw [cell_of_row _ _ _ _ _ _ hnew]; simpa using h2
  · simp [World.alloc, hh]

theorem new_ptr {M : Mp} {b n : Nat} {w : World} : VR (mset M b 0 (w.heap.size, 0, n)) (ap b 0 0) (.pointer (some ⟨w.heap.size, 0, none⟩)) := by
  have := VR.ptr (M := mset M b 0 (w.heap.size, 0, n)) (off := 0) (mset_same _ _ _ _)
  simpa using this

/-- What lies at a place that may be read. -/
theorem cell_at {N0 : Nat} {H : AH} {R : Option (List Nat)} {M : Mp} {w : World} (p : Pre N0 H R M w) {b g c o n : Nat} {k : Blk} (hR : inR R b) (hk : H[b]? = some k) (hg : g = k.gen) (hM : M b g = some (c, o, n)) : CellR M w c o k.cells ∧ (k.rw = true → N0 ≤ c) := by
  subst hg
  obtain ⟨c1, o1, n1, e1, _, e3, e4⟩ := p.cont hR hk ⟨_, _, hM⟩
  rw [hM] at e1; cases e1
  exact ⟨e3, e4⟩

theorem run_load_one {P : Program} {w : World} {a : Addr} {v : Value} (h : w.cell? a = some v) : (load a).run P w = .ok v w := by simp [run_load, h]

/-- The cells of a part of a block, as the world has them. -/
theorem cells_at {M : Mp} {w : World} {c o : Nat} {cs : List Value} (h : CellR M w c o cs) (off s : Nat) (hs : off + s ≤ cs.length) :
    ∃ cs', cs'.length = s ∧ (∀ j v, cs'[j]? = some v → w.cell? ⟨c, o + off + j, none⟩ = some v) ∧ VCs M ((cs.drop off).take s) cs' := by
  induction s with
  | zero => exact ⟨[], rfl, fun j v h => by simp at h, ⟨by simp [VRs], by simp⟩⟩
  | succ s ih =>
    obtain ⟨cs', l1, l2, l3⟩ := ih (by omega)
    obtain ⟨h1, v', h2, h3⟩ := h (off + s) cs[off + s] (List.getElem?_eq_getElem (by omega))
    refine ⟨cs' ++ [v'], by simp [l1], fun j v hj => ?_, ?_⟩
    · by_cases hlt : j < cs'.length
      · rw [List.getElem?_append_left hlt] at hj; exact l2 j v hj
      · rw [List.getElem?_append_right (by omega)] at hj
        have : j = cs'.length := by
          have := (List.getElem?_eq_some_iff.1 hj).1
          simp at this; omega
        subst this
        simp at hj; subst hj
        rw [l1, show o + off + s = o + (off + s) by omega]; exact h2
    · have e : (cs.drop off).take (s + 1) = (cs.drop off).take s ++ [cs[off + s]] := by
        rw [List.take_succ_eq_append_getElem (by simp; omega)]
        simp
      rw [e]
      exact l3.append ⟨VRs.cons h3 VRs.nil, fun v hv => by simp at hv; subst hv; exact h1⟩


theorem setCells_block (b : Nat) : ∀ (vs : List Value) (o : Nat) (w : World) (c : Nat), c ≠ b → (w.setCells b o vs).heap[c]? = w.heap[c]?
  | [], _, _, _, _ => rfl
  | v :: r, o, w, c, h => by rw [World.setCells, setCells_block b r (o + 1) _ c h]; exact Below.heap_setCell _ _ _ _ h
theorem setCells_size (b : Nat) : ∀ (vs : List Value) (o : Nat) (w : World), (w.setCells b o vs).heap.size = w.heap.size
  | [], _, _ => rfl
  | v :: r, o, w => by rw [World.setCells, setCells_size b r (o + 1) _]; simp
theorem setCells_rest (b : Nat) : ∀ (vs : List Value) (o : Nat) (w : World), (w.setCells b o vs).os = w.os ∧ (w.setCells b o vs).tape = w.tape ∧ (w.setCells b o vs).output = w.output
  | [], _, _ => ⟨rfl, rfl, rfl⟩
  | v :: r, o, w => by rw [World.setCells]; exact setCells_rest b r (o + 1) _
theorem setCells_shape (b : Nat) : ∀ (vs : List Value) (o : Nat) (w : World) (cs : Array Value) (e : TypeId) (fr : Nat × Nat), w.heap[b]? = some (.cells cs e fr) → ∃ cs', (w.setCells b o vs).heap[b]? = some (.cells cs' e fr) ∧ cs'.size = cs.size
  | [], _, _, cs, e, fr, h => ⟨cs, h, rfl⟩
  | v :: r, o, w, cs, e, fr, h => by
    rw [World.setCells]
    obtain ⟨cs', h1, h2⟩ := setCells_shape b r (o + 1) (w.setCell ⟨b, o, none⟩ v) (cs.setIfInBounds o v) e fr (by simp [World.setCell, Array.getElem?_modify, h])
    exact ⟨cs', h1, by simpa using h2⟩

def splice (l : List Value) (off : Nat) (cs : List Value) : List Value := l.take off ++ cs ++ l.drop (off + cs.length)

theorem splice_length (l : List Value) (off : Nat) (cs : List Value) (h : off + cs.length ≤ l.length) : (splice l off cs).length = l.length := by
  simp [splice]; omega

theorem splice_get (l : List Value) (off : Nat) (cs : List Value) (h : off + cs.length ≤ l.length) (i : Nat) :
    (splice l off cs)[i]? = if i < off then l[i]? else if i < off + cs.length then cs[i - off]? else l[i]? := by
  unfold splice
  have ht : (l.take off).length = off := by simp; omega
  by_cases h1 : i < off
  · rw [if_pos h1, List.append_assoc, List.getElem?_append_left (by omega), List.getElem?_take, if_pos h1]
  · rw [if_neg h1, List.append_assoc, List.getElem?_append_right (by omega), ht]
    by_cases h2 : i < off + cs.length
    · rw [if_pos h2, List.getElem?_append_left (by omega)]
    · rw [if_neg h2, List.getElem?_append_right (by omega), List.getElem?_drop]
      congr 1; omega

theorem Post.stored {N0 : Nat} {H : AH} {R : Option (List Nat)} {M : Mp} {w : World} (p : Pre N0 H R M w) {b c o n : Nat} {k : Blk} (hR : inR R b) (hk : H[b]? = some k) (hM : M b k.gen = some (c, o, n)) (hrw : k.rw = true)
    (off : Nat) (cs vs : List Value) (hoff : off + cs.length ≤ k.cells.length) (hv : VCs M cs vs) :
    Post N0 H (H.set b ⟨splice k.cells off cs, k.gen, true⟩) [b] M M w (w.setCells c (o + off) vs) := by
  have hlt : b < H.length := (List.getElem?_eq_some_iff.1 hk).1
  obtain ⟨hc, hN⟩ := cell_at p hR hk rfl hM
  have hN := hN hrw
  obtain ⟨c0, o0, n0, e0, hg0, _, _⟩ := p.cont hR hk ⟨_, _, hM⟩
  obtain ⟨⟨ccs, ce, cfr, hb1, hb2⟩, hfz⟩ := p.hp.own hM hN
  obtain ⟨ccs', hb3, hb4⟩ := setCells_shape c vs (o + off) w ccs ce cfr hb1
  have hrest := setCells_rest c vs (o + off) w
  have hall : ∀ g c' o' n', M b g = some (c', o', n') → N0 ≤ c' := fun g c' o' n' h => p.hp.hom hM h hN
  refine ⟨by simp, fun b' hb' hn => ?_, MLe.refl _, fun _ _ _ _ => rfl, fun {b' g' x'} h => by have := p.dom h; simpa using this, fun _ _ h => h, fun h => .inr ⟨_, h⟩, fun c' hc' hW => setCells_block c vs (o + off) w c' (fun e => hW b (by simp) k.gen o n (by rw [hM, e])), fun b' hb' => ?_, ⟨fun h => by rw [setCells_size]; exact p.hp.lt h, fun {b' g' c' o' n'} h hN' => ?_, fun h h' hN => p.hp.inj h h' hN, fun h h' hN => p.hp.hom h h' hN⟩, fun {b' k'} hb' hk' hx => ?_, by rw [setCells_size]; exact Nat.le_refl _, hrest.1, hrest.2.1, hrest.2.2⟩
  · have : b' ≠ b := fun e => hn (by simp [e])
    rw [List.getElem?_set_ne (Ne.symm this)]
  · simp at hb'; subst hb'; exact ⟨⟨_, _, hM⟩, hall⟩
  · obtain ⟨h1, h2⟩ := p.hp.own h hN'
    refine ⟨?_, fun i hi => by rw [World.frozen?_setCells]; exact h2 i hi⟩
    by_cases hcc : c' = c
    · subst hcc
      obtain ⟨cs1, e1, fr1, f1, f2⟩ := h1
      rw [hb1] at f1; cases f1
      exact ⟨ccs', ce, cfr, hb3, by rw [f2, hb4]⟩
    · rw [setCells_block c vs (o + off) w c' hcc]; exact h1
  · have hbb : b' = b := by
      rcases hb' with hb' | hb'
      · simpa using hb'
      · have := (List.getElem?_eq_some_iff.1 hk').1; simp at this; omega
    subst hbb
    rw [List.getElem?_set_self hlt] at hk'
    cases hk'
    refine ⟨c, o, n, hM, ?_, fun i v hi => ?_, fun _ => hN⟩
    · rw [hM] at e0; cases e0; exact hg0
    · rw [splice_get _ _ _ hoff] at hi
      have isS : ∀ j, j < vs.length → (w.cell? ⟨c, o + off + j, none⟩).isSome = true := fun j hj => by
        have hj' : j < cs.length := by have := hv.1.1; omega
        obtain ⟨_, v', h2, _⟩ := hc (off + j) k.cells[off + j] (List.getElem?_eq_getElem (by omega))
        rw [show o + off + j = o + (off + j) by omega, h2]; rfl
      by_cases h1 : i < off
      · rw [if_pos h1] at hi
        obtain ⟨g1, v', g2, g3⟩ := hc i v hi
        refine ⟨g1, v', ?_, g3⟩
        rw [World.cell?_setCells_out c vs _ w _ (fun _ _ => Or.inl (by simp; omega))]; exact g2
      · rw [if_neg h1] at hi
        by_cases h2 : i < off + cs.length
        · rw [if_pos h2] at hi
          obtain ⟨v', g2, g3⟩ := hv.1.get hi
          obtain ⟨hj, e⟩ := List.getElem?_eq_some_iff.1 g2
          refine ⟨hv.2 v (List.mem_of_getElem? hi), v', ?_, g3⟩
          have := World.cell?_setCells_in c vs (o + off) w isS (i - off) hj
          rw [show o + off + (i - off) = o + i by omega] at this
          rw [this, e]
        · rw [if_neg h2] at hi
          obtain ⟨g1, v', g2, g3⟩ := hc i v hi
          refine ⟨g1, v', ?_, g3⟩
          rw [World.cell?_setCells_out c vs _ w _ (fun _ _ => Or.inr (by have := hv.1.1; simp; omega))]; exact g2

end Go.Proofs.Ythoclopeajkcpaa.E
