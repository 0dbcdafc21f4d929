/- Merged texts: Box9 BoxR. -/
import Derived.Test.YthoclopeajkcpaaZB
/- Chapter 14: the walk of the law that tells. -/
namespace Go.Proofs.Ythoclopeajkcpaa
open Go Go.RowKit E
attribute [local irreducible] XRun XOps XCode XCal XLoop XQ SemCall
set_option linter.unusedSimpArgs false
set_option linter.unusedVariables false
theorem and_7 (x : Int) : bits .and .i64 x 127 = x % 128 := and_i64 x 7 (by decide)
/-- No more than six. -/
theorem Polys.six {H : AH} {b g : Nat} {ps : List PL} (h : Polys H (sl b 0 g ps.length 2) ps) (hl : 6 < ps.length) : Polys H (sl b 0 g 6 2) (ps.take 6) := by
  obtain ⟨b', g', rest, rw_, vs, hv, hb, hvl, hlen, hel⟩ := h.ne (fun e => by rw [e] at hl; simp at hl)
  cases hv
  have hl6 : (ps.take 6).length = 6 := by rw [List.length_take]; omega
  refine .inr ⟨b, g, plC (vs.drop 6) ++ rest, rw_, vs.take 6, by rw [hl6], ?_, by rw [List.length_take, List.length_take, hvl], by omega, fun i x hx => ?_⟩
  · rw [← List.append_assoc, ← plC_app, List.take_append_drop]; exact hb
  · have hi : i < 6 := by have := (List.getElem?_eq_some_iff.1 hx).1; omega
    rw [List.getElem?_take_of_lt hi] at hx ⊢
    exact hel i x hx
set_option maxHeartbeats 4000000 in
theorem btells (lv : Value) (ls : List Int) (t : Nat) (H : AH) (h : Ints H t lv ls) (a b : B4) (x y w hh : Int) (v : Value) (ps : List PL) (hP : Polys H v ps) (hB : ∀ x ∈ ps, ∀ p ∈ x.2, Ip p) : SemCall Try.prog 8 [lv, a.val, b.val, .int .i64 x, .int .i64 y, .int .i64 w, .int .i64 hh, v] H (.bool true) H [] := by
  refine pure_of ?_ rfl
  have hcl := h.cellsL
  have w1 := fun H => within_ w 1 200 (by omega) (by omega) (by omega) H
  have w2 := fun H => within_ hh 1 200 (by omega) (by omega) (by omega) H
  refine XCal.of hm Try.func8 rfl (fun xs w => Try.call8 xs w) Try.ntmps8 Try.results8 rfl ?_
  simp only [go_sem, Nat.reduceEqDiff, Nat.reduceAdd, Nat.reduceSub, Nat.reduceMul, Nat.reduceLT, Nat.reduceLeDiff, Int.reducePow, Int.reduceBEq, Int.reduceBNe, Int.reduceDiv, Int.reduceMod, Int.reduceEq, Int.reduceLT, Int.reduceLE, Int.reduceAdd, Int.reduceSub, Int.reduceMul, Int.reduceNeg, Int.reduceToNat, Int.reduceTDiv, Int.reduceTMod, ↓reduceIte, hcl]
  refine (polysOf1 _ (newTp h [_, _] [] (H.length + 2) rfl)).x ?_
  rintro v1 H1 W1 ⟨rfl, hOx, hKl, qs, hQ, hql, hqb⟩
  have hKl' : H.length ≤ H1.length := by simp at hKl; omega
  have ka : H1[H.length]? = some ⟨b4C a, 0, true⟩ := hOx _ _ (by omega) (by rw [hget_app0]; rfl)
  have kb : H1[H.length + 1]? = some ⟨b4C b, 0, true⟩ := hOx _ _ (by omega) (by rw [hget_app]; rfl)
  have hold : Old H H1 := fun c k e => hOx c k (by have := (List.getElem?_eq_some_iff.1 e).1; omega) (old_get e _)
  have hP1 := hP.old hold
  have kd : ∀ n, decide (H1.length + n < H.length) = false := fun n => df (by omega)
  have kd0 : decide (H1.length < H.length) = false := df (by omega)
  have o1 := fun H2 (h : Polys H2 v1 qs) => boxof_ qs v1 (fun x hx p hp => ((hqb x hx).2 p hp).ip) H2 h
  have o2 := fun H2 (h : Polys H2 v1 qs) => rboxof_ qs v1 (fun x hx p hp => ((hqb x hx).2 p hp).ip) H2 h
  have hq : ∀ M, Polys (H1 ++ M) v1 qs := fun M => hQ.app M
  by_cases hl : 6 < ps.length
  · obtain ⟨bp, gp, rest, rw_, vs, hve, hbp, hvl, hlen, hel⟩ := hP1.ne (fun e => by rw [e] at hl; simp at hl)
    subst hve
    have hP6 := hP1.six hl
    have hB6 : ∀ x ∈ ps.take 6, ∀ p ∈ x.2, Ip p := fun x hx => hB x (List.mem_of_mem_take hx)
    have p1 := fun M => boxof_ _ _ hB6 _ (hP6.app M)
    have p2 := fun M => rboxof_ _ _ hB6 _ (hP6.app M)
    have hsl : aslice Try.prog 55 (sl bp 0 gp ps.length 2) none (some (.int .i64 6)) none = some (sl bp 0 gp 6 2) := by
      have h6 : (6 : Int).toNat = 6 := rfl
      simp only [go_sem, Nat.reduceEqDiff, Nat.reduceAdd, Nat.reduceSub, Nat.reduceMul, Nat.reduceLT, Nat.reduceLeDiff, Int.reducePow, Int.reduceBEq, Int.reduceBNe, Int.reduceDiv, Int.reduceMod, Int.reduceEq, Int.reduceLT, Int.reduceLE, Int.reduceAdd, Int.reduceSub, Int.reduceMul, Int.reduceNeg, Int.reduceToNat, Int.reduceTDiv, Int.reduceTMod, ↓reduceIte, aslice, abound, h6, show (0 : Int) ≤ 6 by omega, show 6 ≤ ps.length by omega, true_and, and_self, and_true, Nat.zero_le, Nat.zero_mul, Nat.sub_zero, Nat.add_zero]
    simp only [go_sem, Nat.reduceEqDiff, Nat.reduceAdd, Nat.reduceSub, Nat.reduceMul, Nat.reduceLT, Nat.reduceLeDiff, Int.reducePow, Int.reduceBEq, Int.reduceBNe, Int.reduceDiv, Int.reduceMod, Int.reduceEq, Int.reduceLT, Int.reduceLE, Int.reduceAdd, Int.reduceSub, Int.reduceMul, Int.reduceNeg, Int.reduceToNat, Int.reduceTDiv, Int.reduceTMod, ↓reduceIte, dt (show (6 : Int) < (ps.length : Int) by omega), ka, kb, kd, kd0, Option.map, hsl]
    repeat ((first | refine (w1 _).x ?_ | refine (w2 _).x ?_ | refine (boxes_ a b _ _ _).x ?_ | refine (boxes_ ⟨_, _, _, _⟩ ⟨_, _, _, _⟩ _ _ _).x ?_ | refine (ctiles_ a _ _ _).x ?_ | refine (ctiles_ ⟨_, _, _, _⟩ _ _ _).x ?_ | refine (o1 _ (hq _)).x ?_ | refine (o2 _ (hq _)).x ?_ | refine (p1 _).x ?_ | refine (p2 _).x ?_ | refine (bknown_ _).x ?_ | refine drawnF ?_ (by decide +kernel)); simp only [go_sem, Nat.reduceEqDiff, Nat.reduceAdd, Nat.reduceSub, Nat.reduceMul, Nat.reduceLT, Nat.reduceLeDiff, Int.reducePow, Int.reduceBEq, Int.reduceBNe, Int.reduceDiv, Int.reduceMod, Int.reduceEq, Int.reduceLT, Int.reduceLE, Int.reduceAdd, Int.reduceSub, Int.reduceMul, Int.reduceNeg, Int.reduceToNat, Int.reduceTDiv, Int.reduceTMod, ↓reduceIte, ka, kb, old_get ka, old_get kb, kd, kd0, beq_self_eq_true, bne_self_eq_false])
  · obtain ⟨va, ve, hve⟩ := hP1.form
    subst hve
    have p1 := fun M => boxof_ _ _ hB _ (hP1.app M)
    have p2 := fun M => rboxof_ _ _ hB _ (hP1.app M)
    simp only [go_sem, Nat.reduceEqDiff, Nat.reduceAdd, Nat.reduceSub, Nat.reduceMul, Nat.reduceLT, Nat.reduceLeDiff, Int.reducePow, Int.reduceBEq, Int.reduceBNe, Int.reduceDiv, Int.reduceMod, Int.reduceEq, Int.reduceLT, Int.reduceLE, Int.reduceAdd, Int.reduceSub, Int.reduceMul, Int.reduceNeg, Int.reduceToNat, Int.reduceTDiv, Int.reduceTMod, ↓reduceIte, df (show ¬ (6 : Int) < (ps.length : Int) by omega), ka, kb, kd, kd0]
    repeat ((first | refine (w1 _).x ?_ | refine (w2 _).x ?_ | refine (boxes_ a b _ _ _).x ?_ | refine (boxes_ ⟨_, _, _, _⟩ ⟨_, _, _, _⟩ _ _ _).x ?_ | refine (ctiles_ a _ _ _).x ?_ | refine (ctiles_ ⟨_, _, _, _⟩ _ _ _).x ?_ | refine (o1 _ (hq _)).x ?_ | refine (o2 _ (hq _)).x ?_ | refine (p1 _).x ?_ | refine (p2 _).x ?_ | refine (bknown_ _).x ?_ | refine drawnF ?_ (by decide +kernel)); simp only [go_sem, Nat.reduceEqDiff, Nat.reduceAdd, Nat.reduceSub, Nat.reduceMul, Nat.reduceLT, Nat.reduceLeDiff, Int.reducePow, Int.reduceBEq, Int.reduceBNe, Int.reduceDiv, Int.reduceMod, Int.reduceEq, Int.reduceLT, Int.reduceLE, Int.reduceAdd, Int.reduceSub, Int.reduceMul, Int.reduceNeg, Int.reduceToNat, Int.reduceTDiv, Int.reduceTMod, ↓reduceIte, ka, kb, old_get ka, old_get kb, kd, kd0, beq_self_eq_true, bne_self_eq_false])
end Go.Proofs.Ythoclopeajkcpaa
/- Arguments that are rows of polys. -/
namespace Go.Proofs.Ythoclopeajkcpaa
open Go Go.RowKit E
set_option linter.unusedSimpArgs false
set_option linter.unusedVariables false
section
variable {P : Program} {H : AH}
theorem int_rd {n : Nat} {cs : List Value} {t : TypeId} (hu : P.underlying t = some (.int .i64)) (h : Rd P (n + 1) H t cs) : ∃ a : Int, cs = [.int .i64 a] ∧ I64 a := by
  unfold Rd at h; rw [hu] at h
  obtain ⟨a, h1, h2⟩ := h
  exact ⟨a, h1, wf_i64 h2⟩
theorem two_parts {F : TypeId → List Value → Prop} {fs : List Go.Field} {a b : TypeId} {cs : List Value} (hf : fs.map (·.type) = [a, b]) (ha : P.cellsOf a = 1) (hb : P.cellsOf b = 1) (h : parts F P fs 0 cs) : ∃ x y, cs = [x, y] ∧ F a [x] ∧ F b [y] := by
  match fs, hf with
  | [f, g], hf =>
    simp only [List.map_cons, List.map_nil, List.cons.injEq, and_true] at hf
    obtain ⟨rfl, rfl⟩ := hf
    obtain ⟨_, h1, h1l, _, h2, h2l, h3⟩ := h
    rw [ha] at h1 h1l h2 h2l h3
    rw [hb] at h2 h2l h3
    match cs, h1, h1l, h2, h2l, h3 with
    | [x, y], h1, _, h2, _, _ => exact ⟨x, y, rfl, h1, h2⟩
    | [x], _, _, _, h2l, _ => simp at h2l
    | [], _, h1l, _, _, _ => simp at h1l
    | x :: y :: z :: r, _, _, _, _, h3 => exact absurd (show z :: r = [] from h3) (by simp)
theorem pt_rd {n : Nat} {cs : List Value} {tp ti : TypeId} {fs : Array Go.Field} (hu : P.underlying tp = some (.struct fs)) (hf : fs.toList.map (·.type) = [ti, ti]) (hc : P.cellsOf ti = 1) (hi : P.underlying ti = some (.int .i64)) (h : Rd P (n + 2) H tp cs) : ∃ p : Pt, cs = [.int .i64 p.1, .int .i64 p.2] ∧ Ip p := by
  unfold Rd at h; rw [hu] at h
  obtain ⟨x, y, rfl, h1, h2⟩ := two_parts hf hc hc h
  obtain ⟨a, e1, i1⟩ := int_rd hi h1
  obtain ⟨b, e2, i2⟩ := int_rd hi h2
  cases e1; cases e2
  exact ⟨(a, b), rfl, i1, i2⟩
theorem elems_pts {F : List Value → Prop} (hF : ∀ cs, F cs → ∃ p : Pt, cs = [.int .i64 p.1, .int .i64 p.2] ∧ Ip p) : ∀ {len : Nat} {us : List Value}, elems P F 2 len us → ∃ l : List Pt, us = ptC l ∧ l.length = len ∧ ∀ p ∈ l, Ip p
  | 0, us, h => ⟨[], h, rfl, fun x hx => by cases hx⟩
  | len + 1, us, h => by
    obtain ⟨h1, h2, h3⟩ := h
    obtain ⟨l, e1, e2, e3⟩ := elems_pts hF h3
    obtain ⟨p, ep, ip⟩ := hF _ h1
    refine ⟨p :: l, ?_, by simp [e2], fun x hx => ?_⟩
    · rw [← List.take_append_drop 2 us, ep, e1]; rfl
    · rcases List.mem_cons.1 hx with rfl | hx
      · exact ip
      · exact e3 x hx
theorem pts_rd {n : Nat} {u : Value} {t tp ti : TypeId} {fs : Array Go.Field} (ht : P.underlying t = some (.slice tp)) (hcp : P.cellsOf tp = 2) (hby : P.bytesOf tp = 16) (hu : P.underlying tp = some (.struct fs)) (hf : fs.toList.map (·.type) = [ti, ti]) (hc : P.cellsOf ti = 1) (hi : P.underlying ti = some (.int .i64)) (h : Rd P (n + 3) H t [u]) : ∃ l : List Pt, Pts H u l ∧ (∀ p ∈ l, Ip p) ∧ l.length ≤ 8796093021952 := by
  unfold Rd at h; rw [ht] at h
  rcases h with h | h | ⟨b, len, us, h1, h2, h3, h4, h5⟩
  · cases h; exact ⟨[], .inl ⟨rfl, .inr rfl⟩, (fun x hx => by cases hx), by simp⟩
  · cases h; exact ⟨[], .inl ⟨rfl, .inl ⟨_, rfl⟩⟩, (fun x hx => by cases hx), by simp⟩
  · rw [hcp] at h1 h4 h5
    cases h1
    obtain ⟨l, rfl, hl, hw⟩ := elems_pts (fun cs h => pt_rd hu hf hc hi h) h5
    subst hl
    exact ⟨l, .inr ⟨b, 0, [], false, rfl, by rw [List.append_nil]; exact h2, h3.1⟩, hw, by have := h3.2; rw [hby] at this; omega⟩
theorem elems_pls {F : List Value → Prop} (hF : ∀ cs, F cs → ∃ (c : Bool) (pv : Value) (l : List Pt), cs = [.bool c, pv] ∧ Pts H pv l ∧ (∀ p ∈ l, Ip p) ∧ l.length ≤ 8796093021952) : ∀ {len : Nat} {us : List Value}, elems P F 2 len us → ∃ (vs : List (Bool × Value)) (ps : List PL), us = plC vs ∧ vs.length = len ∧ ps.length = len ∧ (∀ (i : Nat) x, ps[i]? = some x → ∃ pv, vs[i]? = some (x.1, pv) ∧ Pts H pv x.2) ∧ ∀ x ∈ ps, (∀ p ∈ x.2, Ip p) ∧ x.2.length ≤ 8796093021952
  | 0, us, h => ⟨[], [], h, rfl, rfl, by simp, by simp⟩
  | len + 1, us, h => by
    obtain ⟨h1, h2, h3⟩ := h
    obtain ⟨vs, ps, e1, e2, e3, e4, e5⟩ := elems_pls hF h3
    obtain ⟨c, pv, l, ep, hp, ip⟩ := hF _ h1
    refine ⟨(c, pv) :: vs, (c, l) :: ps, ?_, by simp [e2], by simp [e3], fun i x hx => ?_, fun x hx => ?_⟩
    · rw [← List.take_append_drop 2 us, ep, e1]; rfl
    · cases i with
      | zero => simp at hx; subst hx; exact ⟨pv, rfl, hp⟩
      | succ i => exact e4 i x (by simpa using hx)
    · rcases List.mem_cons.1 hx with rfl | hx
      · exact ip
      · exact e5 x hx
theorem polys_rd {n : Nat} {u : Value} {s t' t tp ti tb : TypeId} {fs gs : Array Go.Field} (hs : P.underlying s = some (.slice t')) (hcs : P.cellsOf t' = 2) (hg : P.underlying t' = some (.struct gs)) (hgf : gs.toList.map (·.type) = [tb, t]) (hb : P.underlying tb = some .bool) (hbc : P.cellsOf tb = 1) (htc : P.cellsOf t = 1)
    (ht : P.underlying t = some (.slice tp)) (hcp : P.cellsOf tp = 2) (hby : P.bytesOf tp = 16) (hu : P.underlying tp = some (.struct fs)) (hf : fs.toList.map (·.type) = [ti, ti]) (hc : P.cellsOf ti = 1) (hi : P.underlying ti = some (.int .i64)) (h : Rd P (n + 5) H s [u]) : ∃ ps : List PL, Polys H u ps ∧ (∀ x ∈ ps, ∀ p ∈ x.2, Ip p) ∧ ∀ x ∈ ps, x.2.length ≤ 8796093021952 := by
  unfold Rd at h; rw [hs] at h
  rcases h with h | h | ⟨b, len, us, h1, h2, h3, h4, h5⟩
  · cases h; exact ⟨[], .inl ⟨rfl, .inr rfl⟩, (fun x hx => by cases hx), fun x hx => by cases hx⟩
  · cases h; exact ⟨[], .inl ⟨rfl, .inl ⟨_, rfl⟩⟩, (fun x hx => by cases hx), fun x hx => by cases hx⟩
  · rw [hcs] at h1 h4 h5
    cases h1
    obtain ⟨vs, ps, rfl, hl, hl2, hel, hw⟩ := elems_pls (H := H) (fun cs h => by
      unfold Rd at h; rw [hg] at h
      obtain ⟨x, y, rfl, h1, h2⟩ := two_parts hgf hbc htc h
      unfold Rd at h1; rw [hb] at h1
      obtain ⟨c, hcx⟩ := h1
      cases hcx
      obtain ⟨l, hl, hw⟩ := pts_rd ht hcp hby hu hf hc hi h2
      exact ⟨c, y, l, rfl, hl, hw⟩) h5
    refine ⟨ps, .inr ⟨b, 0, [], false, vs, by rw [hl2], by rw [List.append_nil]; exact h2, by omega, by omega, hel⟩, (fun x hx => (hw x hx).1), fun x hx => (hw x hx).2⟩
end
end Go.Proofs.Ythoclopeajkcpaa
