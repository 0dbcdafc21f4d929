/- Calls that leave nothing behind, whatever comes of them. -/
import Derived.Test.YtockblbbcikkmaaEV
set_option linter.unusedVariables false
namespace Go.Proofs.Ytockblbbcikkmaa.E
open Go Go.RowKit
theorem pures_of {P : Program} {f : FuncId} {args : List Value} {H : AH} {ι : Type} (p : ι → Prop) (val : ι → Value)
    (h : @XCal P f args H ⟨fun v _ W => W = [] ∧ ∃ r, p r ∧ v = val r⟩) (hv : ∀ r, p r → renR H.length [] (val r) = some (val r)) :
    Cal P f args H fun v H' W => ∃ r, p r ∧ v = val r ∧ H' = H ∧ W = [] := by
  obtain ⟨v, H1, W1, h1, rfl, r, hp, rfl⟩ := h
  exact ⟨val r, H, [], h1.ren [] (hv r hp) (by simp) (by simp) (by simp) (fun b hb _ => (h1.1.2.2 b hb (by simp)).symm) (by simp) (by simp), r, hp, rfl, rfl, rfl⟩
/-- A call whose result leads to one new block, whatever it is. -/
theorem flats_of {P : Program} {f : FuncId} {args : List Value} {H : AH} {ι : Type} (p : ι → Prop) (val : ι → Nat → Nat → Value) (cells : ι → List Value)
    (h : @XCal P f args H ⟨fun v H1 W => W = [] ∧ ∃ r b g, p r ∧ H.length ≤ b ∧ v = val r b g ∧ H1[b]? = some ⟨cells r, g, true⟩⟩)
    (hv : ∀ r b g, p r → H.length ≤ b → renR H.length [(b, g)] (val r b g) = some (val r H.length 0)) (hc : ∀ r b g, p r → renL H.length [(b, g)] (cells r) = some (cells r)) :
    Cal P f args H fun v H' W => ∃ r, p r ∧ v = val r H.length 0 ∧ H' = H ++ [⟨cells r, 0, true⟩] ∧ W = [] := by
  obtain ⟨v, H1, W1, h1, rfl, r, b, g, hp, hb, rfl, hk⟩ := h
  refine ⟨val r H.length 0, H ++ [⟨cells r, 0, true⟩], [], h1.ren [(b, g)] (hv r b g hp hb) (by simp) (fun b' g' hh => by simp at hh; omega) (by simp) (fun b' hb' _ => by rw [List.getElem?_append_left hb']; exact (h1.1.2.2 b' hb' (by simp)).symm) (by simp) (fun j b' g' hj => ?_), r, hp, rfl, rfl, rfl⟩
  cases j with
  | zero =>
    simp at hj
    obtain ⟨rfl, rfl⟩ := hj
    exact ⟨_, ⟨cells r, 0, true⟩, hk, rfl, by simp, ⟨hc r _ _ hp, rfl⟩, rfl⟩
  | succ j => simp at hj
theorem tapeIn {H : AH} {t : Nat} {lv : Value} {ls : List Int} (h : Ints H t lv ls) (L L' : AH) {a : Int} (h1 : 0 ≤ a) (h2 : a ≤ ls.length) : TapeAt (H ++ (L ++ (⟨[lv, .int .i64 a], 0, true⟩ :: L'))) (H.length + L.length) 0 lv ls := by
  refine ⟨(h.to (by omega)).app _, a, h1, h2, ?_⟩
  rw [hget_app, List.getElem?_append_right (by omega), Nat.sub_self]; rfl
end Go.Proofs.Ytockblbbcikkmaa.E
