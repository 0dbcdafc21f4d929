/- Arguments that lead to memory, on: the whole reading. -/
import Derived.Test.YtockblbbcikkmaaET
import Derived.DataReads
set_option linter.unusedVariables false
namespace Go.Proofs.Ytockblbbcikkmaa.E
open Go Go.RowKit

theorem mapM_get {α β : Type} {f : α → Option β} : ∀ {l : List α} {r : List β}, l.mapM f = some r → ∀ (i : Nat) (x : α), l[i]? = some x → ∃ y, r[i]? = some y ∧ f x = some y := by
  intro l
  induction l with
  | nil => intro r h i x hx; simp at hx
  | cons a l ih =>
    intro r h i x hx
    rw [List.mapM_cons] at h
    cases ha : f a with
    | none => simp [ha] at h
    | some y =>
      cases hl : l.mapM f with
      | none => simp [ha, hl] at h
      | some ys =>
        simp [ha, hl] at h
        subst h
        cases i with
        | zero => simp at hx; subst hx; exact ⟨y, rfl, ha⟩
        | succ i => simpa using ih hl i x (by simpa using hx)
theorem cell_spot {W : World} {a : Addr} {v : Value} (h : W.cell? a = some v) : a.spot = none ∧ a.block < W.heap.size := by
  unfold World.cell? at h
  split at h
  · rename_i c e fr hc
    split at h
    · cases h
    · rename_i hs
      exact ⟨by cases hh : a.spot with | none => rfl | some x => rw [hh] at hs; simp at hs, (Array.getElem?_eq_some_iff.1 hc).1⟩
  · cases h
theorem add_eq {a : Addr} (h : a.spot = none) (n : Nat) : a.add n = ⟨a.block, a.off + n, none⟩ := by
  unfold Addr.add
  split
  · rename_i h0; subst h0; cases a; simp at h; subst h; rfl
  · rfl
theorem cells_get {W : World} {b0 : Nat} {a : Addr} {n : Nat} {cs : List Value} (h : W.cells? b0 a n = some cs) : cs.length = n ∧ ∀ j, j < n → ∃ v, cs[j]? = some v ∧ W.cell? (a.add j) = some v := by
  unfold World.cells? at h
  split at h
  · have hl := mapM_some_length h
    refine ⟨by simpa using hl, fun j hj => ?_⟩
    obtain ⟨v, h1, h2⟩ := mapM_get h j j (List.getElem?_range hj)
    exact ⟨v, h1, h2⟩
  · cases h
section
variable {Hh : Type} {enc : TypeId × Value → Hh} {P : Program} {W : World} {held : Bool}
theorem Got.slice {n : Nat} {e : TypeId} (ih : ∀ H M cs, Img W.heap.size H M W → (∃ m y, DataW.trod enc P W 0 (fun _ => true) held m e cs = some y) → Got P W.heap.size W n e cs H M) {H : AH} {M : Mp} (hi : Img W.heap.size H M W) {t : TypeId} (ht : P.underlying t = some (.slice e)) (hs : 0 < P.cellsOf e)
    {a : Addr} {len cap m : Nat} (hlc : len ≤ cap) (hcm : cap ≤ maxLen)
    (he : ∀ i, i < cap → ∃ ci y, W.cells? 0 (a.add (i * P.cellsOf e)) (P.cellsOf e) = some ci ∧ DataW.trod enc P W 0 (fun _ => true) held m e ci = some y) :
    Got P W.heap.size W (n + 1) t [.slice (some a) len cap] H M := by
  by_cases hc0 : cap = 0
  · subst hc0
    have : len = 0 := by omega
    subst this
    exact ⟨H, M, [.slice (some ⟨0, 0, none⟩) 0 (P.cellsOf e)], Ahead.refl _, MLe.refl _, hi, VCs.single .zs rfl, by unfold Rd; rw [ht]; exact .inr (.inl rfl)⟩
  · obtain ⟨c0, _, hc0', _⟩ := he 0 (by omega)
    have hz := (cells_get hc0').2 0 hs
    obtain ⟨v0, _, hv0⟩ := hz
    rw [Nat.zero_mul] at hv0
    have ha0 : (a.add 0).add 0 = a := by unfold Addr.add; simp
    rw [ha0] at hv0
    obtain ⟨hsp, hblk⟩ := cell_spot hv0
    generalize hse : P.cellsOf e = s at *
    let cs : List Value := (List.range (len * s)).map fun k => (W.cell? ⟨a.block, a.off + k, none⟩).getD undef
    have hcl : cs.length = len * s := by simp [cs]
    have hcell : ∀ i j, i < cap → j < s → ∃ v, W.cell? ⟨a.block, a.off + (i * s + j), none⟩ = some v := fun i j hi hj => by
      obtain ⟨ci, _, h1, _⟩ := he i hi
      obtain ⟨v, _, hv⟩ := (cells_get h1).2 j hj
      rw [add_eq hsp, add_eq (a := ⟨a.block, a.off + i * s, none⟩) rfl] at hv
      exact ⟨v, by rw [← Nat.add_assoc]; exact hv⟩
    have hsome : ∀ k, k < len * s → ∃ v, cs[k]? = some v ∧ W.cell? ⟨a.block, a.off + k, none⟩ = some v := fun k hk => by
      have hks : k / s < cap := by exact Nat.lt_of_lt_of_le ((Nat.div_lt_iff_lt_mul hs).2 hk) hlc
      obtain ⟨v, hv⟩ := hcell (k / s) (k % s) hks (Nat.mod_lt _ hs)
      rw [Nat.mul_comm, Nat.div_add_mod] at hv
      refine ⟨v, ?_, hv⟩
      simp only [cs, List.getElem?_map, List.getElem?_range hk, Option.map_some, hv, Option.getD_some]
    have hpart : ∀ i, i < len → ∃ m y, DataW.trod enc P W 0 (fun _ => true) held m e ((cs.drop (i * s)).take s) = some y := fun i hil => by
      obtain ⟨ci, y, h1, h2⟩ := he i (by omega)
      obtain ⟨g1, g2⟩ := cells_get h1
      have : (cs.drop (i * s)).take s = ci := by
        refine List.ext_getElem? fun j => ?_
        by_cases hj : j < s
        · obtain ⟨v, gv, gw⟩ := g2 j hj
          rw [add_eq hsp, add_eq (a := ⟨a.block, a.off + i * s, none⟩) rfl] at gw
          have hk : i * s + j < len * s := by
            have : (i + 1) * s ≤ len * s := Nat.mul_le_mul_right s hil
            rw [Nat.add_mul] at this; omega
          obtain ⟨u, k1, k2⟩ := hsome (i * s + j) hk
          rw [List.getElem?_take_of_lt hj, List.getElem?_drop, k1, gv]
          have e1 : W.cell? ⟨a.block, a.off + (i * s + j), none⟩ = some v := by rw [← Nat.add_assoc]; exact gw
          rw [e1] at k2; rw [k2]
        · rw [List.getElem?_eq_none (by rw [List.length_take]; omega), List.getElem?_eq_none (by rw [g1]; show s ≤ j; omega)]
      rw [this]; exact ⟨m, y, h2⟩
    obtain ⟨H1, M1, us, a1, m1, i1, v1, l1, r1⟩ := Got.elems (s := s) (sp := fun _ => true) (fun H M cs h1 _ h3 => ih H M cs h1 h3) len cs H M hi hcl hpart
    have hr : CellR M1 W a.block a.off us := fun k u hu => by
      have hk : k < len * s := by have := (List.getElem?_eq_some_iff.1 hu).1; rw [l1, hcl] at this; exact this
      obtain ⟨v, k1, k2⟩ := hsome k hk
      exact ⟨v1.2 u (List.mem_of_getElem? hu), v, k2, v1.1.2 k u v hu k1⟩
    obtain ⟨i2, m2, hm⟩ := i1.push (n := a.off + cap * s) hblk hr
    have ha : a = ⟨a.block, a.off + 0, none⟩ := by cases a; simp at hsp; subst hsp; rfl
    refine ⟨H1 ++ [⟨us, 0, false⟩], _, [sl H1.length 0 0 len s], a1.trans ⟨_, rfl⟩, m1.trans m2, i2, ?_, ?_⟩
    · refine VCs.single ?_ rfl
      rw [ha]
      exact .sl hm hlc (by omega)
    · subst hse
      unfold Rd
      rw [ht]
      refine .inr (.inr ⟨H1.length, len, us, rfl, by rw [List.getElem?_append_right (Nat.le_refl _)]; simp, ?_, by rw [l1, hcl], elems_mono (fun cs => Rd.mono ⟨_, rfl⟩) r1⟩)
      unfold maxLen at hcm; omega
theorem got : ∀ (n : Nat) (t : TypeId), rdOk P n t = true → ∀ (H : AH) (M : Mp) (cs : List Value), Img W.heap.size H M W → (∃ m y, DataW.trod enc P W 0 (fun _ => true) held m t cs = some y) → Got P W.heap.size W n t cs H M := by
  intro n
  induction n with
  | zero => intro t h; cases h
  | succ n ih =>
    intro t ht H M cs hi ⟨m, y, hy⟩
    cases m with
    | zero => simp [DataW.trod] at hy
    | succ m =>
    rw [DataW.trod_step] at hy
    simp only [rdOk] at ht
    split at ht
    · rename_i hu
      unfold DataW.trodStep at hy
      rw [hu] at hy
      simp only at hy
      split at hy <;> simp_all
      exact ⟨H, M, _, Ahead.refl _, MLe.refl _, hi, VCs.single (.bool _) rfl, by unfold Rd; rw [hu]; exact ⟨_, rfl⟩⟩
    · rename_i k hu
      unfold DataW.trodStep at hy
      rw [hu] at hy
      simp only at hy
      split at hy <;> simp_all
      exact ⟨H, M, _, Ahead.refl _, MLe.refl _, hi, VCs.single (.int _ _) rfl, by unfold Rd; rw [hu]; exact ⟨_, rfl, hy.1.2⟩⟩
    · rename_i e hu
      simp only [Bool.and_eq_true, decide_eq_true_eq] at ht
      unfold DataW.trodStep at hy
      rw [hu] at hy
      simp only at hy
      split at hy
      all_goals try (exfalso; simp_all; done)
      · exact ⟨H, M, [.slice none 0 0], Ahead.refl _, MLe.refl _, hi, VCs.single .nils rfl, by unfold Rd; rw [hu]; exact .inl rfl⟩
      · rename_i e' a len cap hh
        cases hh
        split at hy
        case isFalse => cases hy
        rename_i hc
        rw [Option.bind_eq_some_iff] at hy
        obtain ⟨el, he1, he2⟩ := hy
        simp only [if_true, Option.map_eq_some_iff] at he2
        obtain ⟨rs, hr1, _⟩ := he2
        refine Got.slice (m := m) (fun H M cs h1 h2 => ih e ht.2 H M cs h1 h2) hi hu ht.1 hc.2.1 hc.2.2 (fun i hic => ?_)
        have key : ∃ z, (W.cells? 0 (a.add (i * P.cellsOf e)) (P.cellsOf e)).bind (DataW.trod enc P W 0 (fun _ => true) held m e) = some z := by
          by_cases hl : i < len
          · obtain ⟨z, _, hz⟩ := mapM_get he1 i i (List.getElem?_range hl)
            exact ⟨z, hz⟩
          · obtain ⟨z, _, hz⟩ := mapM_get hr1 (i - len) (i - len) (List.getElem?_range (by omega))
            rw [show len + (i - len) = i by omega] at hz
            exact ⟨z, hz⟩
        obtain ⟨z, hz⟩ := key
        rw [Option.bind_eq_some_iff] at hz
        obtain ⟨ci, h1, h2⟩ := hz
        exact ⟨ci, z, h1, h2⟩
    · rename_i fs hu
      simp only [Bool.and_eq_true, decide_eq_true_eq] at ht
      unfold DataW.trodStep at hy
      rw [hu] at hy
      simp only at hy
      split at hy
      case isFalse => cases hy
      rename_i hlen
      obtain ⟨ys, hys, _⟩ := Option.map_eq_some_iff.1 hy
      have hall := List.all_eq_true.1 ht.2
      obtain ⟨H', M', us, a1, m1, i1, v1, r1⟩ := Got.parts (n := n) (all := cs) (fun t h H M cs h1 h2 => ih t h H M cs h1 h2) fs.toList 0 _ H M hi ht.1 hlen (fun x hx => hall x hx) (fun x hx => by
        obtain ⟨z, hz⟩ := mapM_all hys x hx
        exact ⟨m, z, hz⟩)
      exact ⟨H', M', us, a1, m1, i1, by simpa using v1, by unfold Rd; rw [hu]; exact r1⟩
    · rename_i k e hu
      simp only [Bool.and_eq_true, decide_eq_true_eq] at ht
      unfold DataW.trodStep at hy
      rw [hu] at hy
      simp only at hy
      split at hy
      case isFalse => cases hy
      rename_i hlen
      obtain ⟨ys, hys, _⟩ := Option.map_eq_some_iff.1 hy
      obtain ⟨H', M', us, a1, m1, i1, v1, l1, r1⟩ := Got.elems (n := n) (e := e) (s := P.cellsOf e) (sp := fun _ => true) (fun H M cs h1 _ h3 => ih e ht.2 H M cs h1 h3) k cs H M hi (by rw [hlen, ht.1]) (fun i hik => by
        obtain ⟨z, _, hz⟩ := mapM_get hys i i (List.getElem?_range hik)
        exact ⟨m, z, hz⟩)
      exact ⟨H', M', us, a1, m1, i1, v1, by unfold Rd; rw [hu]; exact r1⟩
    · cases ht
end
end Go.Proofs.Ytockblbbcikkmaa.E
