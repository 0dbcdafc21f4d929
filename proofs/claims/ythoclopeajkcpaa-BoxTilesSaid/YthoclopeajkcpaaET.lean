/- Calls that write one old block, and leave at most one new one. -/
import Derived.Test.YthoclopeajkcpaaES
set_option linter.unusedVariables false
set_option linter.unusedSimpArgs false
namespace Go.Proofs.Ythoclopeajkcpaa.E
open Go Go.RowKit
theorem set_same {H : AH} {b : Nat} {k : Blk} (h : H[b]? = some k) : H.set b k = H := by
  refine List.ext_getElem? fun i => ?_
  by_cases e : b = i
  · subst e
    rw [List.getElem?_set_self (List.getElem?_eq_some_iff.1 h).1, h]
  · rw [List.getElem?_set_ne e]
section
variable {P : Program} {f : FuncId} {args : List Value} {H : AH}
theorem SemCall.addW {v : Value} {tb g off i : Nat} {cells : List Value} (h : SemCall P f args H v H []) (hb : H[tb]? = some ⟨cells, g, true⟩) (ha : args[i]? = some (ap tb off g)) : SemCall P f args H v H [tb] := by
  refine ⟨⟨h.1.1, Nat.le_refl _, fun _ _ _ => rfl⟩, fun N0 M w args' p hargs => (h.2 N0 M w args' p hargs).mono fun e w' ⟨v', M', a, b, q⟩ => ⟨v', M', a, b, ?_⟩⟩
  have hi : i < args'.toList.length := by rw [← hargs.1]; exact (List.getElem?_eq_some_iff.1 ha).1
  obtain ⟨c0, o0, n0, hM, _⟩ := (hargs.2 i _ _ ha (List.getElem?_eq_getElem hi)).ptr_inv
  obtain ⟨c, o, n, e1, e2, e3, e4⟩ := p.cont trivial hb ⟨_, _, hM⟩
  have hlt := p.hp.lt e1
  refine ⟨q.le, fun b hb hn => rfl, q.ext, fun b g hb hn => q.keep b g hb (by simp), q.dom, q.absent, q.fresh, fun c hc hf => q.frame c hc (by simp), fun b hb' => ?_, q.hp, fun hb' hk hx => ?_, q.size, q.os, q.tape, q.output⟩
  · simp at hb'; subst hb'
    exact ⟨⟨_, _, hM⟩, fun g' c' o' n' e => p.hp.hom e1 e (e4 rfl)⟩
  · rcases hb' with hb' | hb'
    · simp at hb'; subst hb'
      rw [hb] at hk; cases hk
      refine ⟨c, o, n, by rw [q.keep _ _ (List.getElem?_eq_some_iff.1 hb).1 (by simp)]; exact e1, fun g' hg => by rw [q.keep _ _ (List.getElem?_eq_some_iff.1 hb).1 (by simp)]; exact e2 g' hg, e3.keep q.ext (q.frame c hlt (by simp)), e4⟩
    · have := (List.getElem?_eq_some_iff.1 hk).1; omega
/-- A call that writes one old block, whose result leads nowhere new. -/
theorem none_of {ι : Type} (p : ι → Prop) (val : ι → Value) (tb : Nat) (k : ι → Blk) (htb : tb < H.length)
    (h : @XCal P f args H ⟨fun v H1 W1 => SameW W1 [tb] ∧ ∃ r, p r ∧ v = val r ∧ H1[tb]? = some (k r)⟩)
    (hv : ∀ r, p r → renR H.length [] (val r) = some (val r)) (hk : ∀ r, p r → renL H.length [] (k r).cells = some (k r).cells) :
    Cal P f args H fun v H' W' => ∃ r, p r ∧ v = val r ∧ H' = H.set tb (k r) ∧ W' = [tb] := by
  obtain ⟨v, H1, W1, h1, h2, r, hp, rfl, hb⟩ := h
  have h1 := h1.setW h2
  refine ⟨val r, H.set tb (k r), [tb], h1.ren [] (hv r hp) (by simp) (by simp) (by simp) (fun b hb hn => ?_) (fun b hb' => ?_) (by simp), r, hp, rfl, rfl, rfl⟩
  · rw [List.getElem?_set_ne (by simp at hn; omega)]
    exact (h1.1.2.2 b hb hn).symm
  · simp at hb'; subst hb'
    exact ⟨k r, k r, hb, List.getElem?_set_self htb, ⟨hk r hp, rfl⟩, rfl⟩
/-- A call that writes one old block, whose result leads to one new one. -/
theorem one_of {ι : Type} (p : ι → Prop) (val : ι → Nat → Nat → Value) (cells : ι → List Value) (tb : Nat) (k : ι → Blk) (htb : tb < H.length)
    (h : @XCal P f args H ⟨fun v H1 W1 => SameW W1 [tb] ∧ ∃ r b g, p r ∧ H.length ≤ b ∧ v = val r b g ∧ H1[b]? = some ⟨cells r, g, true⟩ ∧ H1[tb]? = some (k r)⟩)
    (hv : ∀ r b g, p r → H.length ≤ b → renR H.length [(b, g)] (val r b g) = some (val r H.length 0)) (hc : ∀ r b g, p r → renL H.length [(b, g)] (cells r) = some (cells r))
    (hk : ∀ r b g, p r → H.length ≤ b → renL H.length [(b, g)] (k r).cells = some (k r).cells) :
    Cal P f args H fun v H' W' => ∃ r, p r ∧ v = val r H.length 0 ∧ H' = H.set tb (k r) ++ [⟨cells r, 0, true⟩] ∧ W' = [tb] := by
  obtain ⟨v, H1, W1, h1, h2, r, b, g, hp, hb, rfl, hcb, htbk⟩ := h
  have h1 := h1.setW h2
  refine ⟨val r H.length 0, H.set tb (k r) ++ [⟨cells r, 0, true⟩], [tb], h1.ren [(b, g)] (hv r b g hp hb) (by simp) (fun b' g' hh => by simp at hh; omega) (by simp) (fun b' hb' hn => ?_) (fun b' hb' => ?_) (fun j b' g' hj => ?_), r, hp, rfl, rfl, rfl⟩
  · rw [List.getElem?_append_left (by simpa using hb'), List.getElem?_set_ne (by simp at hn; omega)]
    exact (h1.1.2.2 b' hb' hn).symm
  · simp at hb'; subst hb'
    exact ⟨k r, k r, htbk, by rw [List.getElem?_append_left (by simpa using htb)]; exact List.getElem?_set_self htb, ⟨hk r b g hp hb, rfl⟩, rfl⟩
  · cases j with
    | zero =>
      simp at hj
      obtain ⟨rfl, rfl⟩ := hj
      exact ⟨_, ⟨cells r, 0, true⟩, hcb, rfl, by simp, ⟨hc r _ _ hp, rfl⟩, rfl⟩
    | succ j => simp at hj
end
/-- A row of numbers, as it may lie. -/
def Ints (H : AH) (tb : Nat) (lv : Value) (ls : List Int) : Prop :=
  (ls = [] ∧ ((∃ e, lv = .slice (some ⟨0, 0, none⟩) 0 e) ∨ lv = .slice none 0 0)) ∨
  ∃ b g rest rw_, lv = sl b 0 g ls.length 1 ∧ ¬ b = tb ∧ H[b]? = some ⟨intC ls ++ rest, g, rw_⟩ ∧ ls.length ≤ 9223372036854775807
theorem Ints.ren {H : AH} {tb : Nat} {lv : Value} {ls : List Int} (h : Ints H tb lv ls) (K : List (Nat × Nat)) : renV H.length K lv = some lv := by
  rcases h with ⟨_, ⟨e, rfl⟩ | rfl⟩ | ⟨b, g, rest, rw_, rfl, _, hb, _⟩
  · rfl
  · rfl
  · have := (List.getElem?_eq_some_iff.1 hb).1
    show (renB H.length K b g).map _ = _
    unfold renB; rw [if_pos this]; rfl
theorem Ints.set {H : AH} {tb : Nat} {lv : Value} {ls : List Int} (h : Ints H tb lv ls) (k : Blk) (L : AH) : Ints (H.set tb k ++ L) tb lv ls := by
  rcases h with h | ⟨b, g, rest, rw_, h1, h2, h3, h4⟩
  · exact .inl h
  · refine .inr ⟨b, g, rest, rw_, h1, h2, ?_, h4⟩
    have := (List.getElem?_eq_some_iff.1 h3).1
    rw [List.getElem?_append_left (by simpa using this), List.getElem?_set_ne (fun e => h2 e.symm)]; exact h3
theorem Ints.app {H : AH} {tb : Nat} {lv : Value} {ls : List Int} (h : Ints H tb lv ls) (L : AH) : Ints (H ++ L) tb lv ls := by
  rcases h with h | ⟨b, g, rest, rw_, h1, h2, h3, h4⟩
  · exact .inl h
  · exact .inr ⟨b, g, rest, rw_, h1, h2, old_get h3 L, h4⟩
theorem Ints.form {H : AH} {tb : Nat} {lv : Value} {ls : List Int} (h : Ints H tb lv ls) : ∃ a e, lv = .slice a ls.length e := by
  rcases h with ⟨rfl, ⟨e, rfl⟩ | rfl⟩ | ⟨b, g, rest, rw_, rfl, _⟩
  · exact ⟨_, _, rfl⟩
  · exact ⟨_, _, rfl⟩
  · exact ⟨_, _, rfl⟩
theorem Ints.cellsL {H : AH} {t : Nat} {lv : Value} {ls : List Int} (h : Ints H t lv ls) : cellsL lv = some [lv] := by
  obtain ⟨a, e, rfl⟩ := h.form; rfl
theorem Ints.to {H : AH} {t : Nat} {lv : Value} {ls : List Int} (h : Ints H t lv ls) {n : Nat} (hn : H.length ≤ n) : Ints H n lv ls := by
  rcases h with h | ⟨b, g, rest, rw_, h1, h2, h3, h4⟩
  · exact .inl h
  · exact .inr ⟨b, g, rest, rw_, h1, by have := (List.getElem?_eq_some_iff.1 h3).1; omega, h3, h4⟩
/-- A tape, as it lies, before the place at_. -/
def TapeAt (H : AH) (tb g : Nat) (lv : Value) (ls : List Int) : Prop := Ints H tb lv ls ∧ ∃ at_ : Int, 0 ≤ at_ ∧ at_ ≤ ls.length ∧ H[tb]? = some ⟨[lv, .int .i64 at_], g, true⟩
theorem TapeAt.lt {H : AH} {tb g : Nat} {lv : Value} {ls : List Int} (h : TapeAt H tb g lv ls) : tb < H.length := by
  obtain ⟨_, _, _, _, h⟩ := h; exact (List.getElem?_eq_some_iff.1 h).1
theorem TapeAt.app {H : AH} {tb g : Nat} {lv : Value} {ls : List Int} (h : TapeAt H tb g lv ls) (L : AH) : TapeAt (H ++ L) tb g lv ls := by
  obtain ⟨h1, a, h2, h3, h4⟩ := h; exact ⟨h1.app L, a, h2, h3, old_get h4 L⟩
theorem TapeAt.set {H : AH} {tb g : Nat} {lv : Value} {ls : List Int} (h : TapeAt H tb g lv ls) {at_ : Int} (h1 : 0 ≤ at_) (h2 : at_ ≤ ls.length) : TapeAt (H.set tb ⟨[lv, .int .i64 at_], g, true⟩) tb g lv ls := by
  have hl := h.lt
  refine ⟨by simpa using h.1.set ⟨[lv, .int .i64 at_], g, true⟩ [], at_, h1, h2, List.getElem?_set_self hl⟩
theorem Ints.ne {H : AH} {tb : Nat} {lv : Value} {ls : List Int} (h : Ints H tb lv ls) (hn : ¬ ls = []) : ∃ b g rest rw_, lv = sl b 0 g ls.length 1 ∧ ¬ b = tb ∧ H[b]? = some ⟨intC ls ++ rest, g, rw_⟩ ∧ ls.length ≤ 9223372036854775807 := h.resolve_left fun h => hn h.1
theorem Ints.len {H : AH} {tb : Nat} {lv : Value} {ls : List Int} (h : Ints H tb lv ls) : ls.length ≤ 9223372036854775807 := by
  rcases h with ⟨rfl, _⟩ | ⟨b, g, rest, rw_, rfl, _, _, h⟩
  · simp
  · exact h
end Go.Proofs.Ythoclopeajkcpaa.E
