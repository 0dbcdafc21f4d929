/- From a law's walk to what its row says: what was read stays as it was. -/
import Derived.Test.YthoclopeajkcpaaEM
import Derived.ReadAgain
import Derived.ChangeOld
import Derived.ChangeSame
import Derived.Below
import Derived.RowKit
set_option linter.unusedVariables false
namespace Go.Proofs.Ythoclopeajkcpaa.E
open Go Go.RowKit

theorem carryAll {H : Type} {enc : TypeId × Value → H} {P : Program} {W W' : World} {b : Nat} {sp : Nat → Bool} {held : Bool} : ∀ {ts : List TypeId} {vs : List Value} {ds : List (DataW H)} {ps : List MemPlace},
    DataW.TrodAll enc P W b sp held ts vs ds ps → (∀ p ∈ ps, W.sameAt W' p) → DataW.TrodAll enc P W' b sp held ts vs ds ps
  | [], [], [], _, h, _ => h
  | _ :: _, _ :: _, _ :: _, _, ⟨p, q, ⟨n, h1⟩, h2, e⟩, hs => ⟨p, q, ⟨n, DataW.trod_carry n _ _ _ h1 (fun x hx => hs x (by rw [e]; exact List.mem_append_left _ hx))⟩,
      carryAll h2 (fun x hx => hs x (by rw [e]; exact List.mem_append_right _ hx)), e⟩

theorem law_post {H : Type} {enc : TypeId × Value → H} {P : Program} {f : Func} {s : ChangeSpec} {W W' : World} {args : Array Value} {ds gs : List (DataW H)} {before : List MemPlace} {tb : TypeId}
    (K : Kids P (· < P.types.size)) (hz : ∀ t e, t < P.types.size → P.underlying t = some (.slice e) → 0 < P.cellsOf e) (hT : ∀ t ∈ f.params.toList, t < P.types.size)
    (hvars : s.vars = []) (hr : f.resultTypes = #[tb]) (hb : P.underlying tb = some .bool)
    (hW : DataW.Whole enc P f.params.toList s.vars false W args.toList ds gs before)
    (hfn : s.fn H (ds ++ gs) = { results := [.lit (.bool true)], args := ds }) (bel : Below W.heap.size W W') :
    s.post enc P f false true false false W args (.bool true) W' := by
  have hlt := hW.lt
  obtain ⟨p, q, hA, hV, rfl, hfz, hnd⟩ := hW
  have hV' := hV
  rw [hvars] at hV'
  cases gs with
  | cons g gs => exact hV'.elim
  | nil =>
    have hq : q = [] := hV'
    subst hq
    refine ⟨ds, [], p ++ [], [], p, [], ⟨p, [], hA, hV, rfl, hfz, hnd⟩, ?_, ?_, ?_, bel.frame _, fun h => by cases h⟩
    · rw [hfn, hr]
      exact ⟨[], [], shut_bool hb true, rfl, rfl⟩
    · rw [hfn]
      have hlt' : ∀ x ∈ p, x.block < W.heap.size := fun x hx => hlt x (List.mem_append_left _ hx)
      refine carryAll (DataW.TrodAll.respare K hz hT hA (fun x hx => by simpa using hlt' x hx)) (fun x hx => bel.same (hlt' x hx))
    · rw [hfn, hvars]
      rfl
end Go.Proofs.Ythoclopeajkcpaa.E
