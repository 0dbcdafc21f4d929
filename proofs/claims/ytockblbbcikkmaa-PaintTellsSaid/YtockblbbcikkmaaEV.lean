/- From a law's walk to its row, where arguments lead to memory. -/
import Derived.Test.YtockblbbcikkmaaEU
set_option linter.unusedVariables false
namespace Go.Proofs.Ytockblbbcikkmaa.E
open Go Go.RowKit
theorem SemCall.worldH {P : Program} {f : FuncId} {args : List Value} {H H' : AH} {W : List Nat} {b : Bool} (h : SemCall P f args H (.bool b) H' W) {M : Mp} (w : World) (hi : Img w.heap.size H M w) (args' : Array Value) (ha : VRs M args args'.toList) :
    Calls P f args' w fun e w' => e = .returned (.bool b) ∧ Below w.heap.size w w' := by
  refine (h.2 w.heap.size M w args' (hi.pre (Nat.le_refl _)) ha).mono (fun e w' ⟨v', M', he, hr, q⟩ => ?_)
  have := hr.bool_inv
  subst this
  refine ⟨he, q.os, q.tape, q.output, q.size, fun k hk => q.frame k hk (fun b hb g o n hh => ?_)⟩
  have h1 := (q.wown b hb).2 g k o n hh
  omega
theorem cells_one {P : Program} {W : World} {r : Reach} {b : Nat} {t e : TypeId} {v : Value} (hu : P.underlying t = some (.slice e)) (hval : Value.okWide P W r b t v) : v.cells.toList = [v] := by
  unfold Value.okWide at hval
  rw [hu] at hval
  simp only [Cell.okWide, hu, Cell.ok] at hval
  split at hval <;> simp_all [Value.cells]
section
variable {Hh : Type} {enc : TypeId × Value → Hh} {P : Program} {W : World}
/-- An argument that is a row. -/
theorem arg_row {n : Nat} {t e : TypeId} {v : Value} {d : DataW Hh} {ps : List MemPlace} {r : Reach} {b : Nat} (hr : rdOk P n t = true) (hu : P.underlying t = some (.slice e)) (hval : Value.okWide P W r b t v) (hd : DataW.Trod enc P W 0 (fun _ => true) true t v d ps)
    {H : AH} {M : Mp} (hi : Img W.heap.size H M W) : ∃ H' M' u, Ahead H H' ∧ MLe M M' ∧ Img W.heap.size H' M' W ∧ VR M' u v ∧ Rd P n H' t [u] := by
  obtain ⟨m, hm⟩ := hd
  rw [cells_one hu hval] at hm
  obtain ⟨H', M', us, a1, m1, i1, v1, r1⟩ := got n t hr H M [v] hi ⟨m, _, hm⟩
  have hl := v1.1.1
  match us, hl with
  | [u], _ => exact ⟨H', M', u, a1, m1, i1, v1.1.2 0 u v rfl rfl, r1⟩
/-- An argument that is a struct or an array. -/
theorem arg_agg {n : Nat} {t : TypeId} {v : Value} {d : DataW Hh} {ps : List MemPlace} {r : Reach} {b : Nat} (hr : rdOk P n t = true) (ha : isAgg P t = true) (hval : Value.okWide P W r b t v) (hd : DataW.Trod enc P W 0 (fun _ => true) true t v d ps)
    {H : AH} {M : Mp} (hi : Img W.heap.size H M W) : ∃ H' M' us, Ahead H H' ∧ MLe M M' ∧ Img W.heap.size H' M' W ∧ VR M' (.agg us.toArray) v ∧ Rd P n H' t us := by
  have hv : ∃ cs, v = .agg cs := by
    unfold isAgg at ha
    unfold Value.okWide at hval
    split at ha <;> simp_all
    · obtain ⟨cs, h, _⟩ := hval; exact ⟨cs, h⟩
    · obtain ⟨cs, h, _⟩ := hval; exact ⟨cs, h⟩
  obtain ⟨⟨l⟩, rfl⟩ := hv
  obtain ⟨m, hm⟩ := hd
  obtain ⟨H', M', us, a1, m1, i1, v1, r1⟩ := got n t hr H M l hi ⟨m, _, hm⟩
  exact ⟨H', M', us, a1, m1, i1, v1.agg, r1⟩
/-- A row of numbers. -/
theorem elems_ints {n : Nat} {H : AH} {e : TypeId} (he : P.underlying e = some (.int .i64)) : ∀ {len : Nat} {us : List Value}, elems P (Rd P (n + 1) H e) 1 len us → ∃ ls : List Int, us = intC ls ∧ ls.length = len ∧ ∀ x ∈ ls, (Lit.int .i64 x).wf = true
  | 0, us, h => ⟨[], h, rfl, fun x hx => by cases hx⟩
  | len + 1, us, h => by
    obtain ⟨h1, h2, h3⟩ := h
    obtain ⟨ls, e1, e2, e3⟩ := elems_ints he h3
    unfold Rd at h1
    rw [he] at h1
    obtain ⟨a, ha, hw⟩ := h1
    refine ⟨a :: ls, ?_, by simp [e2], fun x hx => ?_⟩
    · rw [← List.take_append_drop 1 us, ha, e1]; rfl
    · rcases List.mem_cons.1 hx with rfl | hx
      · exact hw
      · exact e3 x hx
theorem ints_of {n : Nat} {H : AH} {t e : TypeId} {u : Value} (hu : P.underlying t = some (.slice e)) (he : P.underlying e = some (.int .i64)) (hc : P.cellsOf e = 1) (h : Rd P (n + 2) H t [u]) : ∃ ls : List Int, Ints H H.length u ls ∧ ∀ x ∈ ls, (Lit.int .i64 x).wf = true := by
  unfold Rd at h
  rw [hu] at h
  rcases h with h | h | ⟨b, len, us, h1, h2, h3, h4, h5⟩
  · simp at h; subst h; exact ⟨[], .inl ⟨rfl, .inr rfl⟩, fun x hx => by cases hx⟩
  · simp at h; subst h; exact ⟨[], .inl ⟨rfl, .inl ⟨_, rfl⟩⟩, fun x hx => by cases hx⟩
  · simp at h1; subst h1
    rw [hc] at h4 h5 ⊢
    obtain ⟨ls, rfl, hl, hw⟩ := elems_ints he h5
    subst hl
    exact ⟨ls, .inr ⟨b, 0, [], false, rfl, by have := (List.getElem?_eq_some_iff.1 h2).1; omega, by rw [List.append_nil]; exact h2, h3⟩, hw⟩
end
theorem VRs.cons' {M : Mp} {v v' : Value} {l l' : List Value} (h : VR M v v') (k : VRs M l l') : VRs M (v :: l) (v' :: l') := VRs.cons h k
theorem Ints.ahead {H H' : AH} {lv : Value} {ls : List Int} {t : Nat} (h : Ints H t lv ls) (a : Ahead H H') : Ints H' t lv ls := by
  obtain ⟨L, rfl⟩ := a; exact h.app L
end Go.Proofs.Ytockblbbcikkmaa.E
