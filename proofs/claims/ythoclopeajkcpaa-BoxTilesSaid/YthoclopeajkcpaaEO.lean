/- What an argument's reading says of its value: arrays of four bytes. -/
import Derived.Test.YthoclopeajkcpaaEN
set_option linter.unusedVariables false
namespace Go.Proofs.Ythoclopeajkcpaa.E
open Go Go.RowKit

theorem open_four {H : Type} {enc : TypeId × Value → H} {P : Program} {W : World} {b0 : Nat} {sp : Nat → Bool} {held : Bool} {r : Reach} {b : Nat} {t e : TypeId} {q : IntKind} {v : Value} {d : DataW H} {ps : List MemPlace}
    (hu : P.underlying t = some (.array 4 e)) (he : P.underlying e = some (.int q)) (hone : P.cellsOf e = 1) (hsize : P.cellsOf t = 4) (hval : Value.okWide P W r b t v) (hd : DataW.Trod enc P W b0 sp held t v d ps) :
    ∃ a0 a1 a2 a3 : Int, v = .agg #[.int q a0, .int q a1, .int q a2, .int q a3] ∧ (Lit.int q a0).wf = true ∧ (Lit.int q a1).wf = true ∧ (Lit.int q a2).wf = true ∧ (Lit.int q a3).wf = true := by
  simp only [Value.okWide, hu] at hval
  obtain ⟨cs, rfl, h2, _⟩ := hval
  obtain ⟨n, hn⟩ := hd
  obtain ⟨l⟩ := cs
  have hl : l.length = 4 := by rw [hsize] at h2; simpa using h2
  match l, hl with
  | [x0, x1, x2, x3], _ =>
    cases n with
    | zero => simp [DataW.trod] at hn
    | succ n =>
      rw [DataW.trod_step] at hn
      unfold DataW.trodStep at hn
      simp only [hu, Value.cells] at hn
      rw [if_pos (by rw [hsize]; rfl)] at hn
      simp only [Option.map_eq_some_iff] at hn
      obtain ⟨ys, hy, _⟩ := hn
      rw [hone] at hy
      have hr : List.range 4 = [0, 1, 2, 3] := rfl
      rw [hr] at hy
      simp only [List.mapM_cons, bind, Option.bind_eq_some_iff] at hy
      obtain ⟨y0, h0, y', ⟨y1, h1, y'', ⟨y2, h2', y''', ⟨y3, h3, _⟩, _⟩, _⟩, _⟩ := hy
      obtain ⟨a0, e0, _, w0⟩ := DataW.trod_int he h0
      obtain ⟨a1, e1, _, w1⟩ := DataW.trod_int he h1
      obtain ⟨a2, e2, _, w2⟩ := DataW.trod_int he h2'
      obtain ⟨a3, e3, _, w3⟩ := DataW.trod_int he h3
      simp at e0 e1 e2 e3
      subst e0 e1 e2 e3
      exact ⟨a0, a1, a2, a3, rfl, w0, w1, w2, w3⟩
theorem wf_u8 {a : Int} (h : (Lit.int .u8 a).wf = true) : 0 ≤ a ∧ a ≤ 255 := by
  simp [Lit.wf, IntKind.min, IntKind.max, IntKind.bits, IntKind.signed] at h
  omega
end Go.Proofs.Ythoclopeajkcpaa.E
