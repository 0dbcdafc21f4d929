/- Merged texts: Polys15 Cover1 Cover2 Cover3 Cover4 Cover5 Cover6 Cover7 Cover8 Cover9 CoverA CoverB. -/
import Derived.Test.YthoclopeajkcpaaZC
/- The walk of rows of polys that a tape makes, of chapter 15's law. -/
namespace Go.Proofs.Ythoclopeajkcpaa
open Go Go.RowKit E
attribute [local irreducible] XRun XOps XCode XCal XLoop XQ SemCall
set_option linter.unusedSimpArgs false
set_option linter.unusedVariables false
set_option maxHeartbeats 4000000 in
theorem polysOf15_ (H : AH) {tb g : Nat} {lv : Value} {ls : List Int} (h : TapeAt H tb g lv ls) : Cal Try.prog 41 [ap tb 0 g] H fun v H' W => SameW W [tb] ∧ Olx tb H H' ∧ H.length ≤ H'.length ∧ ∃ ps, Polys H' v ps ∧ ps.length ≤ 20000 ∧ ∀ x ∈ ps, PolyB x := by
  have htb := h.lt
  have dtb : decide (tb < H.length) = true := dt htb
  refine of_x ?_
  refine XCal.of hm Try.func41 rfl (fun xs w => Try.call41 xs w) Try.ntmps41 Try.results41 rfl ?_
  simp only [go_sem, Nat.reduceEqDiff, Nat.reduceAdd, Nat.reduceSub, Nat.reduceMul, Nat.reduceLT, Nat.reduceLeDiff, Int.reducePow, Int.reduceBEq, Int.reduceBNe, Int.reduceDiv, Int.reduceMod, Int.reduceEq, Int.reduceLT, Int.reduceLE, Int.reduceAdd, Int.reduceSub, Int.reduceMul, Int.reduceNeg, Int.reduceToNat, Int.reduceTDiv, Int.reduceTMod, ↓reduceIte]
  refine (next_ 4 (by omega) _ h).x ?_
  rintro v H1 W1 ⟨⟨q, a1⟩, ⟨q0, q1, a0, a2⟩, rfl, rfl, rfl⟩
  have q0 : 0 ≤ q := q0
  have q1 : q < 4 := q1
  have hT := h.set (at_ := a1) a0 a2
  have hO1 := Olx.set0 tb H (tblk lv g a1)
  have hL1 : H.length ≤ (H.set tb (tblk lv g a1)).length := by simp
  generalize H.set tb (tblk lv g a1) = K0 at *
  simp only [go_sem, Nat.reduceEqDiff, Nat.reduceAdd, Nat.reduceSub, Nat.reduceMul, Nat.reduceLT, Nat.reduceLeDiff, Int.reducePow, Int.reduceBEq, Int.reduceBNe, Int.reduceDiv, Int.reduceMod, Int.reduceEq, Int.reduceLT, Int.reduceLE, Int.reduceAdd, Int.reduceSub, Int.reduceMul, Int.reduceNeg, Int.reduceToNat, Int.reduceTDiv, Int.reduceTMod, ↓reduceIte, dtb]
  obtain ⟨nq, rfl⟩ : ∃ n : Nat, q = (n : Int) := ⟨q.toNat, by omega⟩
  refine keep (fun k T K D => SameW D [tb] ∧ k ≤ 3 ∧ T 4 = .int .i64 (k : Int) ∧ T 0 = ap tb 0 g ∧ TapeAt K tb g lv ls ∧ Olx tb H K ∧ H.length ≤ K.length ∧ ∃ qs, OutP H.length K (T 3) qs ∧ qs.length ≤ 4100 * (3 - k) ∧ ∀ x ∈ qs, PolyB x) nq
    ⟨SameW.rfl', by omega, by simp only [go_sem, Nat.reduceEqDiff, Nat.reduceAdd, Nat.reduceSub, Nat.reduceMul, Nat.reduceLT, Nat.reduceLeDiff, Int.reducePow, Int.reduceBEq, Int.reduceBNe, Int.reduceDiv, Int.reduceMod, Int.reduceEq, Int.reduceLT, Int.reduceLE, Int.reduceAdd, Int.reduceSub, Int.reduceMul, Int.reduceNeg, Int.reduceToNat, Int.reduceTDiv, Int.reduceTMod, ↓reduceIte], by simp only [go_sem, Nat.reduceEqDiff, Nat.reduceAdd, Nat.reduceSub, Nat.reduceMul, Nat.reduceLT, Nat.reduceLeDiff, Int.reducePow, Int.reduceBEq, Int.reduceBNe, Int.reduceDiv, Int.reduceMod, Int.reduceEq, Int.reduceLT, Int.reduceLE, Int.reduceAdd, Int.reduceSub, Int.reduceMul, Int.reduceNeg, Int.reduceToNat, Int.reduceTDiv, Int.reduceTMod, ↓reduceIte], hT, hO1, hL1, [], .inl ⟨rfl, by simp only [go_sem, Nat.reduceEqDiff, Nat.reduceAdd, Nat.reduceSub, Nat.reduceMul, Nat.reduceLT, Nat.reduceLeDiff, Int.reducePow, Int.reduceBEq, Int.reduceBNe, Int.reduceDiv, Int.reduceMod, Int.reduceEq, Int.reduceLT, Int.reduceLE, Int.reduceAdd, Int.reduceSub, Int.reduceMul, Int.reduceNeg, Int.reduceToNat, Int.reduceTDiv, Int.reduceTMod, ↓reduceIte] <;> rfl⟩, by simp, by simp⟩ ?_
  clear hT hO1 hL1
  rintro k T K D ⟨hD, hk3, h4, h0, hT, hOx, hKl, qs, hO, hql, hqs⟩
  by_cases hk : 0 < k
  · have w1 : IntKind.i64.wrap ((k : Int) - 1) = ((k - 1 : Nat) : Int) := by rw [wi (by omega) (by omega)]; omega
    generalize hv3 : T 3 = v3 at *
    simp only [go_sem, Nat.reduceEqDiff, Nat.reduceAdd, Nat.reduceSub, Nat.reduceMul, Nat.reduceLT, Nat.reduceLeDiff, Int.reducePow, Int.reduceBEq, Int.reduceBNe, Int.reduceDiv, Int.reduceMod, Int.reduceEq, Int.reduceLT, Int.reduceLE, Int.reduceAdd, Int.reduceSub, Int.reduceMul, Int.reduceNeg, Int.reduceToNat, Int.reduceTDiv, Int.reduceTMod, ↓reduceIte, h4, h0, dt (show (0 : Int) < (k : Int) by omega)]
    refine (next_ 3 (by omega) _ hT).x ?_
    rintro v H1 W1 ⟨⟨q, a1⟩, ⟨q0, q1, a0, a2⟩, rfl, rfl, rfl⟩
    have hT := hT.set (at_ := a1) a0 a2
    have hOx := hOx.trans (Olx.set0 tb K (tblk lv g a1))
    have hO := hO.olt htb (Olx.set0 tb K (tblk lv g a1))
    have hKl : H.length ≤ (K.set tb (tblk lv g a1)).length := by simpa using hKl
    generalize K.set tb (tblk lv g a1) = K1 at *
    simp only [go_sem, Nat.reduceEqDiff, Nat.reduceAdd, Nat.reduceSub, Nat.reduceMul, Nat.reduceLT, Nat.reduceLeDiff, Int.reducePow, Int.reduceBEq, Int.reduceBNe, Int.reduceDiv, Int.reduceMod, Int.reduceEq, Int.reduceLT, Int.reduceLE, Int.reduceAdd, Int.reduceSub, Int.reduceMul, Int.reduceNeg, Int.reduceToNat, Int.reduceTDiv, Int.reduceTMod, ↓reduceIte, h4, h0, dtb, hv3]
    refine (next_ 2 (by omega) _ hT).x ?_
    rintro v H1 W1 ⟨⟨u, b1⟩, ⟨u0, u1, b0, b2⟩, rfl, rfl, rfl⟩
    have hT := hT.set (at_ := b1) b0 b2
    have hOx := hOx.trans (Olx.set0 tb K1 (tblk lv g b1))
    have hO := hO.olt htb (Olx.set0 tb K1 (tblk lv g b1))
    have hKl : H.length ≤ (K1.set tb (tblk lv g b1)).length := by simpa using hKl
    generalize K1.set tb (tblk lv g b1) = K2 at *
    obtain ⟨parts, hparts⟩ : ∃ n : Nat, (n : Int) = 1 + q := ⟨(1 + q).toNat, by have : 0 ≤ q := q0; omega⟩
    have w2 : IntKind.i64.wrap (1 + q) = (parts : Int) := by rw [← hparts]; exact wi (by omega) (by have : q < 3 := q1; omega)
    have hp1 : parts ≤ 3 := by have : q < 3 := q1; omega
    simp only [go_sem, Nat.reduceEqDiff, Nat.reduceAdd, Nat.reduceSub, Nat.reduceMul, Nat.reduceLT, Nat.reduceLeDiff, Int.reducePow, Int.reduceBEq, Int.reduceBNe, Int.reduceDiv, Int.reduceMod, Int.reduceEq, Int.reduceLT, Int.reduceLE, Int.reduceAdd, Int.reduceSub, Int.reduceMul, Int.reduceNeg, Int.reduceToNat, Int.reduceTDiv, Int.reduceTMod, ↓reduceIte, h4, h0, dtb, hv3, w2]
    generalize (u == 0) = c
    refine (path_ parts c (by omega) _ hT).x ?_
    rintro v H1 W1 ⟨⟨l, c1⟩, ⟨hl, hB, c0, c2⟩, rfl, rfl, rfl⟩
    have hl : l.length = 3 * parts + 1 := hl
    have hB : ∀ p ∈ l, Bp p := hB
    have hT := (hT.set (at_ := c1) c0 c2).app [⟨ptC l, 0, true⟩]
    have hOx := hOx.trans (Olx.set1 tb K2 [⟨ptC l, 0, true⟩] (tblk lv g c1))
    have hO := hO.olt htb (Olx.set1 tb K2 [⟨ptC l, 0, true⟩] (tblk lv g c1))
    have hP : Pts (K2.set tb (tblk lv g c1) ++ [⟨ptC l, 0, true⟩]) (sl K2.length 0 0 l.length 2) l := .inr ⟨K2.length, 0, [], true, rfl, by rw [show K2.length = (K2.set tb (tblk lv g c1)).length by simp, hget_app0, List.append_nil]; rfl, by omega⟩
    have hKl : H.length ≤ (K2.set tb (tblk lv g c1) ++ [(⟨ptC l, 0, true⟩ : Blk)]).length := by simp; omega
    generalize K2.set tb (tblk lv g c1) ++ [⟨ptC l, 0, true⟩] = K3 at *
    generalize sl K2.length 0 0 l.length 2 = pv at *
    simp only [go_sem, Nat.reduceEqDiff, Nat.reduceAdd, Nat.reduceSub, Nat.reduceMul, Nat.reduceLT, Nat.reduceLeDiff, Int.reducePow, Int.reduceBEq, Int.reduceBNe, Int.reduceDiv, Int.reduceMod, Int.reduceEq, Int.reduceLT, Int.reduceLE, Int.reduceAdd, Int.reduceSub, Int.reduceMul, Int.reduceNeg, Int.reduceToNat, Int.reduceTDiv, Int.reduceTMod, ↓reduceIte, h4, h0, dtb, hv3]
    refine (rflat_ c l pv (fun p hp => (hB p hp).ip) _ hP).x ?_
    rintro v H1 W1 ⟨rfl, ⟨L, rfl⟩, pv', rfl, hF⟩
    obtain ⟨a, e, hpe⟩ := hF.form
    have hfl := fL_len c l
    have hfb := fL_b c l hB
    generalize fL c l = f at *
    subst hpe
    simp only [go_sem, Nat.reduceEqDiff, Nat.reduceAdd, Nat.reduceSub, Nat.reduceMul, Nat.reduceLT, Nat.reduceLeDiff, Int.reducePow, Int.reduceBEq, Int.reduceBNe, Int.reduceDiv, Int.reduceMod, Int.reduceEq, Int.reduceLT, Int.reduceLE, Int.reduceAdd, Int.reduceSub, Int.reduceMul, Int.reduceNeg, Int.reduceToNat, Int.reduceTDiv, Int.reduceTMod, ↓reduceIte, h4, h0, dtb, hv3, poly]
    have hlt : ∀ b g n s, v3 = sl b 0 g n s → b < K3.length := fun b g n s e => by
      rcases hO with ⟨_, h3⟩ | ⟨bo, go, vo, hbo, h3, hbk, hov⟩
      · rw [h3] at e; cases e
      · rw [h3] at e; cases e; exact (List.getElem?_eq_some_iff.1 hbk).1
    have hT := hT.app (L ++ [⟨[.bool c, .slice a f.length e], 0, true⟩])
    refine (next_ 4 (by omega) _ hT).x ?_
    rintro v H1 W1 ⟨⟨s, d1⟩, ⟨s0, s1, d0, d2⟩, rfl, rfl, rfl⟩
    have o3 : Old K3 (K3 ++ (L ++ [⟨[.bool c, .slice a f.length e], 0, true⟩])) := Old.app' _ _
    have h5 : (K3 ++ (L ++ [⟨[.bool c, .slice a f.length e], 0, true⟩]))[K3.length + L.length]? = some (⟨[.bool c, .slice a f.length e], 0, true⟩ : Blk) := last2 _ _ _ _ rfl
    have hF := hF.old (J := K3 ++ (L ++ [⟨[.bool c, .slice a f.length e], 0, true⟩])) (by rw [← List.append_assoc]; exact Old.app' _ _)
    have hm4 : H.length ≤ K3.length + L.length := by omega
    have hO := hO.old o3
    have hOx := hOx.trans (Olx.old o3)
    have hl4 : K3.length + L.length < (K3 ++ (L ++ [(⟨[.bool c, .slice a f.length e], 0, true⟩ : Blk)])).length := by simp
    have hF := hF.weak (n1 := K3.length) (bad' := tb) (Nat.le_refl _) (by omega)
    generalize K3 ++ (L ++ [⟨[.bool c, .slice a f.length e], 0, true⟩]) = K4 at *
    have hT := hT.set (at_ := d1) d0 d2
    have hOx := hOx.trans (Olx.set0 tb K4 (tblk lv g d1))
    have hO := hO.olt htb (Olx.set0 tb K4 (tblk lv g d1))
    have hF := hF.olt (by omega) (Olx.set0 tb K4 (tblk lv g d1))
    have kd3 : decide (K3.length + L.length < H.length) = false := df (by omega)
    have h5 := Olx.set0 tb K4 (tblk lv g d1) (K3.length + L.length) _ (by omega) h5
    have hl4 : K3.length + L.length < (K4.set tb (tblk lv g d1)).length := by simpa using hl4
    generalize K4.set tb (tblk lv g d1) = K5 at *
    have hKl : H.length ≤ K5.length := by omega
    have kd : ∀ n, decide (K5.length + n < H.length) = false := fun n => df (by omega)
    have kd0 : decide (K5.length < H.length) = false := df (by omega)
    have hD5 : SameW (D ++ [tb] ++ [tb] ++ [tb] ++ [tb]) [tb] := snoc (snoc (snoc (snoc hD)))
    have hpb : PolyB (c, f) := ⟨hfl, fun p hp => (hfb p hp).mono (by omega)⟩
    obtain ⟨z, hz⟩ : ∃ z, ((s : Int) == 0) = z := ⟨_, rfl⟩
    cases z with
    | true =>
      simp only [go_sem, Nat.reduceEqDiff, Nat.reduceAdd, Nat.reduceSub, Nat.reduceMul, Nat.reduceLT, Nat.reduceLeDiff, Int.reducePow, Int.reduceBEq, Int.reduceBNe, Int.reduceDiv, Int.reduceMod, Int.reduceEq, Int.reduceLT, Int.reduceLE, Int.reduceAdd, Int.reduceSub, Int.reduceMul, Int.reduceNeg, Int.reduceToNat, Int.reduceTDiv, Int.reduceTMod, ↓reduceIte, h4, h0, dtb, hv3, hz]
      refine drawnU [(0, 3), (1, 3), (3, 4), (0, 5), (1, 5), (0, 6)] (by decide +kernel) ?_
      simp only [go_sem, Nat.reduceEqDiff, Nat.reduceAdd, Nat.reduceSub, Nat.reduceMul, Nat.reduceLT, Nat.reduceLeDiff, Int.reducePow, Int.reduceBEq, Int.reduceBNe, Int.reduceDiv, Int.reduceMod, Int.reduceEq, Int.reduceLT, Int.reduceLE, Int.reduceAdd, Int.reduceSub, Int.reduceMul, Int.reduceNeg, Int.reduceToNat, Int.reduceTDiv, Int.reduceTMod, ↓reduceIte, h4, h0, dtb, hv3, hz, h5, kd3]
      refine (number_ 0 3 (by omega) (by omega) (by omega) _ hT).x ?_
      rintro v H1 W1 ⟨⟨nn, d1⟩, ⟨n0, n1, d0, d2⟩, rfl, rfl, rfl⟩
      have hT := hT.set (at_ := d1) d0 d2
      have hOx := hOx.trans (Olx.set0 tb K5 (tblk lv g d1))
      have hO := hO.olt htb (Olx.set0 tb K5 (tblk lv g d1))
      have hF := hF.olt (by omega) (Olx.set0 tb K5 (tblk lv g d1))
      have hKl : H.length ≤ (K5.set tb (tblk lv g d1)).length := by simpa using hKl
      generalize K5.set tb (tblk lv g d1) = K6 at *
      simp only [go_sem, Nat.reduceEqDiff, Nat.reduceAdd, Nat.reduceSub, Nat.reduceMul, Nat.reduceLT, Nat.reduceLeDiff, Int.reducePow, Int.reduceBEq, Int.reduceBNe, Int.reduceDiv, Int.reduceMod, Int.reduceEq, Int.reduceLT, Int.reduceLE, Int.reduceAdd, Int.reduceSub, Int.reduceMul, Int.reduceNeg, Int.reduceToNat, Int.reduceTDiv, Int.reduceTMod, ↓reduceIte, h4, h0, dtb, hv3, hz, h5, kd3]
      refine (next_ 2 (by omega) _ hT).x ?_
      rintro v H1 W1 ⟨⟨cp, d1⟩, ⟨_, _, d0, d2⟩, rfl, rfl, rfl⟩
      have hT := hT.set (at_ := d1) d0 d2
      have hOx := hOx.trans (Olx.set0 tb K6 (tblk lv g d1))
      have hO := hO.olt htb (Olx.set0 tb K6 (tblk lv g d1))
      have hF := hF.olt (by omega) (Olx.set0 tb K6 (tblk lv g d1))
      have hKl : H.length ≤ (K6.set tb (tblk lv g d1)).length := by simpa using hKl
      generalize K6.set tb (tblk lv g d1) = K7 at *
      simp only [go_sem, Nat.reduceEqDiff, Nat.reduceAdd, Nat.reduceSub, Nat.reduceMul, Nat.reduceLT, Nat.reduceLeDiff, Int.reducePow, Int.reduceBEq, Int.reduceBNe, Int.reduceDiv, Int.reduceMod, Int.reduceEq, Int.reduceLT, Int.reduceLE, Int.reduceAdd, Int.reduceSub, Int.reduceMul, Int.reduceNeg, Int.reduceToNat, Int.reduceTDiv, Int.reduceTMod, ↓reduceIte, h4, h0, dtb, hv3, hz, h5, kd3]
      refine (rstroke_ c f _ nn cp _ hF.pts (by omega) hfb ⟨by have : 0 * 65536 ≤ nn := n0; omega, by have : nn < 3 * 65536 + 65536 := n1; omega⟩).x ?_
      rintro v H1 W1 ⟨rfl, ⟨L1, rfl⟩, js, hj, hjl, hjs⟩
      have hjp : ∀ x ∈ js, PolyB x := fun x hx => hjs x hx
      have hD7 : SameW (D ++ [tb] ++ [tb] ++ [tb] ++ [tb] ++ [tb] ++ [tb]) [tb] := snoc (snoc (snoc (snoc (snoc (snoc hD)))))
      have kd : ∀ n, decide (K7.length + n < H.length) = false := fun n => df (by omega)
      have kd0 : decide (K7.length < H.length) = false := df (by omega)
      have hO' := hO
      by_cases hjn : js.length = 0
      · rcases hj with ⟨hj0, hjv⟩ | ⟨bj, gj, vj, hbj, hjv, hbk', hov'⟩
        · subst hjv
          rcases hO with ⟨ho, h3⟩ | ⟨bo, go, vo, hbo, h3, hbk, hov⟩
          · simp only [go_sem, Nat.reduceEqDiff, Nat.reduceAdd, Nat.reduceSub, Nat.reduceMul, Nat.reduceLT, Nat.reduceLeDiff, Int.reducePow, Int.reduceBEq, Int.reduceBNe, Int.reduceDiv, Int.reduceMod, Int.reduceEq, Int.reduceLT, Int.reduceLE, Int.reduceAdd, Int.reduceSub, Int.reduceMul, Int.reduceNeg, Int.reduceToNat, Int.reduceTDiv, Int.reduceTMod, ↓reduceIte, h4, h0, dtb, hv3, h3, hz, h5, kd3, kd, kd0, w1]
            rw [h3] at hO'
            exact ⟨fun e => by omega, k - 1, by omega, hD7, by omega, rfl, hT.app _, hOx.trans (Olx.old (Old.app' _ _)), by omega, qs, hO'.app _, by omega, hqs⟩
          · have hco : (plC vo).length = qs.length * 2 := by rw [plC_len, hov.1]
            simp only [go_sem, Nat.reduceEqDiff, Nat.reduceAdd, Nat.reduceSub, Nat.reduceMul, Nat.reduceLT, Nat.reduceLeDiff, Int.reducePow, Int.reduceBEq, Int.reduceBNe, Int.reduceDiv, Int.reduceMod, Int.reduceEq, Int.reduceLT, Int.reduceLE, Int.reduceAdd, Int.reduceSub, Int.reduceMul, Int.reduceNeg, Int.reduceToNat, Int.reduceTDiv, Int.reduceTMod, ↓reduceIte, h4, h0, dtb, hv3, h3, hz, h5, kd3, kd, kd0, w1, old_get hbk, hco]
            rw [h3] at hO'
            exact ⟨fun e => by omega, k - 1, by omega, hD7, by omega, rfl, hT.app _, hOx.trans (Olx.old (Old.app' _ _)), by omega, qs, hO'.app _, by omega, hqs⟩
        · rw [hjn] at hjv
          subst hjv
          rcases hO with ⟨ho, h3⟩ | ⟨bo, go, vo, hbo, h3, hbk, hov⟩
          · simp only [go_sem, Nat.reduceEqDiff, Nat.reduceAdd, Nat.reduceSub, Nat.reduceMul, Nat.reduceLT, Nat.reduceLeDiff, Int.reducePow, Int.reduceBEq, Int.reduceBNe, Int.reduceDiv, Int.reduceMod, Int.reduceEq, Int.reduceLT, Int.reduceLE, Int.reduceAdd, Int.reduceSub, Int.reduceMul, Int.reduceNeg, Int.reduceToNat, Int.reduceTDiv, Int.reduceTMod, ↓reduceIte, h4, h0, dtb, hv3, h3, hz, h5, kd3, kd, kd0, w1]
            rw [h3] at hO'
            exact ⟨fun e => by omega, k - 1, by omega, hD7, by omega, rfl, hT.app _, hOx.trans (Olx.old (Old.app' _ _)), by omega, qs, hO'.app _, by omega, hqs⟩
          · have hco : (plC vo).length = qs.length * 2 := by rw [plC_len, hov.1]
            simp only [go_sem, Nat.reduceEqDiff, Nat.reduceAdd, Nat.reduceSub, Nat.reduceMul, Nat.reduceLT, Nat.reduceLeDiff, Int.reducePow, Int.reduceBEq, Int.reduceBNe, Int.reduceDiv, Int.reduceMod, Int.reduceEq, Int.reduceLT, Int.reduceLE, Int.reduceAdd, Int.reduceSub, Int.reduceMul, Int.reduceNeg, Int.reduceToNat, Int.reduceTDiv, Int.reduceTMod, ↓reduceIte, h4, h0, dtb, hv3, h3, hz, h5, kd3, kd, kd0, w1, old_get hbk, hco]
            rw [h3] at hO'
            exact ⟨fun e => by omega, k - 1, by omega, hD7, by omega, rfl, hT.app _, hOx.trans (Olx.old (Old.app' _ _)), by omega, qs, hO'.app _, by omega, hqs⟩
      · obtain ⟨bj, gj, vj, hbj, hjv, hbk', hov'⟩ := hj.resolve_left (fun e => hjn (by rw [e.1]; rfl))
        subst hjv
        have p4 : (plC vj).length = js.length * 2 := by rw [plC_len, hov'.1]
        have t4 : (plC vj).take (js.length * 2) = plC vj := List.take_of_length_le (by omega)
        have s1 := small_p (n := qs.length) (k := js.length) (by omega) (by omega)
        have s2 := small_p (n := 0) (k := js.length) (by omega) (by omega)
        rw [Nat.zero_add] at s2
        rcases hO with ⟨ho, h3⟩ | ⟨bo, go, vo, hbo, h3, hbk, hov⟩
        · simp only [go_sem, Nat.reduceEqDiff, Nat.reduceAdd, Nat.reduceSub, Nat.reduceMul, Nat.reduceLT, Nat.reduceLeDiff, Int.reducePow, Int.reduceBEq, Int.reduceBNe, Int.reduceDiv, Int.reduceMod, Int.reduceEq, Int.reduceLT, Int.reduceLE, Int.reduceAdd, Int.reduceSub, Int.reduceMul, Int.reduceNeg, Int.reduceToNat, Int.reduceTDiv, Int.reduceTMod, ↓reduceIte, h4, h0, dtb, hv3, h3, hz, h5, kd3, kd, kd0, w1, hbk', p4, t4, show (js.length = 0) = False from eq_false hjn, show 0 + js.length * 2 - js.length * 2 = 0 by omega, s2.1, s2.2]
          exact ⟨fun e => by omega, k - 1, by omega, hD7, by omega, rfl, hT.app _, hOx.trans (Olx.old (Old.app' _ _)), by omega, js, OutP.firsts hov' (old_pre ⟨_, by rw [List.append_assoc]⟩) (by omega) rfl (last2 _ _ _ _ rfl) (by simp) (by omega), by omega, hjp⟩
        · have hco : (plC vo).length = qs.length * 2 := by rw [plC_len, hov.1]
          simp only [go_sem, Nat.reduceEqDiff, Nat.reduceAdd, Nat.reduceSub, Nat.reduceMul, Nat.reduceLT, Nat.reduceLeDiff, Int.reducePow, Int.reduceBEq, Int.reduceBNe, Int.reduceDiv, Int.reduceMod, Int.reduceEq, Int.reduceLT, Int.reduceLE, Int.reduceAdd, Int.reduceSub, Int.reduceMul, Int.reduceNeg, Int.reduceToNat, Int.reduceTDiv, Int.reduceTMod, ↓reduceIte, h4, h0, dtb, hv3, h3, hz, h5, kd3, kd, kd0, w1, hbk', p4, t4, show (js.length = 0) = False from eq_false hjn, show 0 + js.length * 2 - js.length * 2 = 0 by omega, old_get hbk, old_set hbk, hco, s1.1, s1.2, df (show ¬ bo < H.length by omega)]
          have hbl := (List.getElem?_eq_some_iff.1 hbk).1
          have hOx' := hOx.bo hbo (Olx.set1 bo K7 L1 ⟨plC vo ++ plC vj, go + 1, true⟩)
          exact ⟨fun e => by omega, k - 1, by omega, hD7, by omega, rfl, tape_re h hT hOx' (Olx.set1 bo K7 _ _) (by omega), hOx', by omega, qs ++ js, OutP.nexts hov hbo (Olx.set1 bo K7 _ _) hov' (olx_pre hbl ⟨L1, [], rfl, by rw [List.append_nil]⟩) hbl (by omega) rfl (old_sget hbk _ _), by rw [List.length_append]; omega, fun x hx => (List.mem_append.1 hx).elim (hqs x) (hjp x)⟩
    | false =>
      rcases hO with ⟨ho, h3⟩ | ⟨bo, go, vo, hbo, h3, hbk, hov⟩
      · simp only [go_sem, Nat.reduceEqDiff, Nat.reduceAdd, Nat.reduceSub, Nat.reduceMul, Nat.reduceLT, Nat.reduceLeDiff, Int.reducePow, Int.reduceBEq, Int.reduceBNe, Int.reduceDiv, Int.reduceMod, Int.reduceEq, Int.reduceLT, Int.reduceLE, Int.reduceAdd, Int.reduceSub, Int.reduceMul, Int.reduceNeg, Int.reduceToNat, Int.reduceTDiv, Int.reduceTMod, ↓reduceIte, h4, h0, dtb, hv3, h3, hz, h5, kd, kd0, kd3, w1, List.append_nil]
        exact ⟨k - 1, by omega, hD5, by omega, rfl, hT.app _, hOx.trans (Olx.old (Old.app' _ _)), by omega, [(c, f)], OutP.first hF (Old.app' _ _) (by omega) (by rw [hget_app]; rfl) (by omega) (by omega), by simp; omega, by simpa using hpb⟩
      · have hco : (plC vo).length = qs.length * 2 := by rw [plC_len, hov.1]
        have s1 := small_p (n := qs.length) (k := 1) (by omega) (by omega)
        simp only [go_sem, Nat.reduceEqDiff, Nat.reduceAdd, Nat.reduceSub, Nat.reduceMul, Nat.reduceLT, Nat.reduceLeDiff, Int.reducePow, Int.reduceBEq, Int.reduceBNe, Int.reduceDiv, Int.reduceMod, Int.reduceEq, Int.reduceLT, Int.reduceLE, Int.reduceAdd, Int.reduceSub, Int.reduceMul, Int.reduceNeg, Int.reduceToNat, Int.reduceTDiv, Int.reduceTMod, ↓reduceIte, h4, h0, dtb, hv3, h3, hz, h5, old_get h5, kd, kd0, w1, old_get hbk, old_set hbk, hco, s1.1, s1.2, df (show ¬ bo < H.length by omega), kd3, List.append_nil]
        have hOx' := hOx.bo hbo (Olx.set1 bo K5 [⟨[.bool c, .slice a f.length e], 0, true⟩] ⟨plC vo ++ [.bool c, .slice a f.length e], go + 1, true⟩)
        exact ⟨k - 1, by omega, hD5, by omega, rfl, tape_re h hT hOx' (Olx.set1 bo K5 _ _) (by omega), hOx', by omega, qs ++ [(c, f)], OutP.next hov hbo (Olx.set1 bo K5 _ _) hF (Olx.set1 bo K5 _ _) (hlt _ _ _ _ h3) (old_sget hbk _ _), by rw [List.length_append]; simp; omega, fun x hx => (List.mem_append.1 hx).elim (hqs x) (fun h => by rw [List.mem_singleton.1 h]; exact hpb)⟩
  · simp only [go_sem, Nat.reduceEqDiff, Nat.reduceAdd, Nat.reduceSub, Nat.reduceMul, Nat.reduceLT, Nat.reduceLeDiff, Int.reducePow, Int.reduceBEq, Int.reduceBNe, Int.reduceDiv, Int.reduceMod, Int.reduceEq, Int.reduceLT, Int.reduceLE, Int.reduceAdd, Int.reduceSub, Int.reduceMul, Int.reduceNeg, Int.reduceToNat, Int.reduceTDiv, Int.reduceTMod, ↓reduceIte, h4, h0, df (show ¬ (0 : Int) < (k : Int) by omega)]
    exact ⟨hD, hOx, hKl, qs, hO.polys (by omega), by omega, hqs⟩
end Go.Proofs.Ythoclopeajkcpaa
/- Chapter 15: the walks of its small functions. -/
namespace Go.Proofs.Ythoclopeajkcpaa
open Go Go.RowKit E
attribute [local irreducible] XRun XOps XCode XCal XLoop XQ SemCall
set_option linter.unusedSimpArgs false
set_option linter.unusedVariables false
def thereB (x : Int) : Bool := decide (-256 ≤ x) && decide (x ≤ 256)
theorem there_ (x : Int) (H : AH) : SemCall Try.prog 66 [.int .i64 x] H (.bool (thereB x)) H [] := by
  refine pure_of ?_ rfl
  unfold thereB
  cases h1 : decide (-256 ≤ x) with
  | false =>
    refine XCal.of hm Try.func66 rfl (fun xs w => Try.call66 xs w) Try.ntmps66 Try.results66 rfl ?_
    simp only [go_sem, Nat.reduceEqDiff, Nat.reduceAdd, Nat.reduceSub, Nat.reduceMul, Nat.reduceLT, Nat.reduceLeDiff, Int.reducePow, Int.reduceBEq, Int.reduceBNe, Int.reduceDiv, Int.reduceMod, Int.reduceEq, Int.reduceLT, Int.reduceLE, Int.reduceAdd, Int.reduceSub, Int.reduceMul, Int.reduceNeg, Int.reduceToNat, Int.reduceTDiv, Int.reduceTMod, ↓reduceIte, h1]
  | true =>
    refine XCal.of hm Try.func66 rfl (fun xs w => Try.call66 xs w) Try.ntmps66 Try.results66 rfl ?_
    simp only [go_sem, Nat.reduceEqDiff, Nat.reduceAdd, Nat.reduceSub, Nat.reduceMul, Nat.reduceLT, Nat.reduceLeDiff, Int.reducePow, Int.reduceBEq, Int.reduceBNe, Int.reduceDiv, Int.reduceMod, Int.reduceEq, Int.reduceLT, Int.reduceLE, Int.reduceAdd, Int.reduceSub, Int.reduceMul, Int.reduceNeg, Int.reduceToNat, Int.reduceTDiv, Int.reduceTMod, ↓reduceIte, h1]
theorem rnear15_ (x : Int) (H : AH) : SemCall Try.prog 91 [.int .i64 x] H (.bool (thereB x)) H [] := by
  refine pure_of ?_ rfl
  unfold thereB
  cases h1 : decide (-256 ≤ x) with
  | false =>
    refine XCal.of hm Try.func91 rfl (fun xs w => Try.call91 xs w) Try.ntmps91 Try.results91 rfl ?_
    simp only [go_sem, Nat.reduceEqDiff, Nat.reduceAdd, Nat.reduceSub, Nat.reduceMul, Nat.reduceLT, Nat.reduceLeDiff, Int.reducePow, Int.reduceBEq, Int.reduceBNe, Int.reduceDiv, Int.reduceMod, Int.reduceEq, Int.reduceLT, Int.reduceLE, Int.reduceAdd, Int.reduceSub, Int.reduceMul, Int.reduceNeg, Int.reduceToNat, Int.reduceTDiv, Int.reduceTMod, ↓reduceIte, h1]
  | true =>
    refine XCal.of hm Try.func91 rfl (fun xs w => Try.call91 xs w) Try.ntmps91 Try.results91 rfl ?_
    simp only [go_sem, Nat.reduceEqDiff, Nat.reduceAdd, Nat.reduceSub, Nat.reduceMul, Nat.reduceLT, Nat.reduceLeDiff, Int.reducePow, Int.reduceBEq, Int.reduceBNe, Int.reduceDiv, Int.reduceMod, Int.reduceEq, Int.reduceLT, Int.reduceLE, Int.reduceAdd, Int.reduceSub, Int.reduceMul, Int.reduceNeg, Int.reduceToNat, Int.reduceTDiv, Int.reduceTMod, ↓reduceIte, h1]
theorem cplace_ (p : Pt) (H : AH) : SemCall Try.prog 73 [ptv p] H (ptv (plp p)) H [] := by
  refine pure_of ?_ rfl
  refine XCal.of hm Try.func73 rfl (fun xs w => Try.call73 xs w) Try.ntmps73 Try.results73 rfl ?_
  simp only [go_sem, Nat.reduceEqDiff, Nat.reduceAdd, Nat.reduceSub, Nat.reduceMul, Nat.reduceLT, Nat.reduceLeDiff, Int.reducePow, Int.reduceBEq, Int.reduceBNe, Int.reduceDiv, Int.reduceMod, Int.reduceEq, Int.reduceLT, Int.reduceLE, Int.reduceAdd, Int.reduceSub, Int.reduceMul, Int.reduceNeg, Int.reduceToNat, Int.reduceTDiv, Int.reduceTMod, ↓reduceIte, ptv]
  repeat ((first | refine (place_ _ _).x ?_ | refine drawnF ?_ (by decide +kernel) | refine drawnU [(2, 3), (2, 4)] (by decide +kernel) ?_); simp only [go_sem, Nat.reduceEqDiff, Nat.reduceAdd, Nat.reduceSub, Nat.reduceMul, Nat.reduceLT, Nat.reduceLeDiff, Int.reducePow, Int.reduceBEq, Int.reduceBNe, Int.reduceDiv, Int.reduceMod, Int.reduceEq, Int.reduceLT, Int.reduceLE, Int.reduceAdd, Int.reduceSub, Int.reduceMul, Int.reduceNeg, Int.reduceToNat, Int.reduceTDiv, Int.reduceTMod, ↓reduceIte, plp])
def crs (p q : Pt) (x y : Int) : Int := (q.1 - p.1) * (y - p.2) - (x - p.1) * (q.2 - p.2)
def sideW (p q : Pt) (x y : Int) : Int := if decide (p.2 ≤ y) = decide (q.2 ≤ y) then 0 else if p.2 ≤ y ∧ 0 < crs p q x y then 1 else if q.2 ≤ y ∧ crs p q x y < 0 then -1 else 0
theorem mul_bb {a b : Int} (ha : -1073741824 ≤ a ∧ a ≤ 1073741824) (hb : -1073741824 ≤ b ∧ b ≤ 1073741824) : -1152921504606846976 ≤ a * b ∧ a * b ≤ 1152921504606846976 := by
  have h1 : (a * b).natAbs ≤ 1073741824 * 1073741824 := by rw [Int.natAbs_mul]; exact Nat.mul_le_mul (by omega) (by omega)
  omega
theorem cside_ (p q : Pt) (x y : Int) (hp : Pb p) (hq : Pb q) (hx : -536870912 ≤ x ∧ x ≤ 536870912) (hy : -536870912 ≤ y ∧ y ≤ 536870912) (H : AH) : SemCall Try.prog 74 [ptv p, ptv q, .int .i64 x, .int .i64 y] H (.int .i64 (sideW p q x y)) H [] := by
  refine pure_of ?_ rfl
  have m1 := mul_bb (a := q.1 - p.1) (b := y - p.2) (by omega) (by omega)
  have m2 := mul_bb (a := x - p.1) (b := q.2 - p.2) (by omega) (by omega)
  have w1 : IntKind.i64.wrap (q.1 - p.1) = q.1 - p.1 := wi (by omega) (by omega)
  have w2 : IntKind.i64.wrap (y - p.2) = y - p.2 := wi (by omega) (by omega)
  have w3 : IntKind.i64.wrap (x - p.1) = x - p.1 := wi (by omega) (by omega)
  have w4 : IntKind.i64.wrap (q.2 - p.2) = q.2 - p.2 := wi (by omega) (by omega)
  have w5 : IntKind.i64.wrap ((q.1 - p.1) * (y - p.2)) = (q.1 - p.1) * (y - p.2) := wi (by omega) (by omega)
  have w6 : IntKind.i64.wrap ((x - p.1) * (q.2 - p.2)) = (x - p.1) * (q.2 - p.2) := wi (by omega) (by omega)
  have w7 : IntKind.i64.wrap ((q.1 - p.1) * (y - p.2) - (x - p.1) * (q.2 - p.2)) = crs p q x y := by rw [wi (by omega) (by omega)]; rfl
  unfold sideW
  generalize crs p q x y = d at *
  by_cases h1 : p.2 ≤ y
  · by_cases h2 : q.2 ≤ y
    · rw [if_pos (by rw [dt h1, dt h2])]
      refine XCal.of hm Try.func74 rfl (fun xs w => Try.call74 xs w) Try.ntmps74 Try.results74 rfl ?_
      simp only [go_sem, Nat.reduceEqDiff, Nat.reduceAdd, Nat.reduceSub, Nat.reduceMul, Nat.reduceLT, Nat.reduceLeDiff, Int.reducePow, Int.reduceBEq, Int.reduceBNe, Int.reduceDiv, Int.reduceMod, Int.reduceEq, Int.reduceLT, Int.reduceLE, Int.reduceAdd, Int.reduceSub, Int.reduceMul, Int.reduceNeg, Int.reduceToNat, Int.reduceTDiv, Int.reduceTMod, ↓reduceIte, ptv, dt h1, dt h2, w1, w2, w3, w4, w5, w6, w7]
    · rw [if_neg (by rw [dt h1, df h2]; decide)]
      by_cases h3 : 0 < d
      · rw [if_pos ⟨h1, h3⟩]
        refine XCal.of hm Try.func74 rfl (fun xs w => Try.call74 xs w) Try.ntmps74 Try.results74 rfl ?_
        simp only [go_sem, Nat.reduceEqDiff, Nat.reduceAdd, Nat.reduceSub, Nat.reduceMul, Nat.reduceLT, Nat.reduceLeDiff, Int.reducePow, Int.reduceBEq, Int.reduceBNe, Int.reduceDiv, Int.reduceMod, Int.reduceEq, Int.reduceLT, Int.reduceLE, Int.reduceAdd, Int.reduceSub, Int.reduceMul, Int.reduceNeg, Int.reduceToNat, Int.reduceTDiv, Int.reduceTMod, ↓reduceIte, ptv, dt h1, df h2, dt h3, w1, w2, w3, w4, w5, w6, w7]
      · rw [if_neg (fun h => h3 h.2), if_neg (fun h => h2 h.1)]
        refine XCal.of hm Try.func74 rfl (fun xs w => Try.call74 xs w) Try.ntmps74 Try.results74 rfl ?_
        simp only [go_sem, Nat.reduceEqDiff, Nat.reduceAdd, Nat.reduceSub, Nat.reduceMul, Nat.reduceLT, Nat.reduceLeDiff, Int.reducePow, Int.reduceBEq, Int.reduceBNe, Int.reduceDiv, Int.reduceMod, Int.reduceEq, Int.reduceLT, Int.reduceLE, Int.reduceAdd, Int.reduceSub, Int.reduceMul, Int.reduceNeg, Int.reduceToNat, Int.reduceTDiv, Int.reduceTMod, ↓reduceIte, ptv, dt h1, df h2, df h3, w1, w2, w3, w4, w5, w6, w7]
  · by_cases h2 : q.2 ≤ y
    · rw [if_neg (by rw [df h1, dt h2]; decide), if_neg (fun h => h1 h.1)]
      by_cases h3 : d < 0
      · rw [if_pos ⟨h2, h3⟩]
        refine XCal.of hm Try.func74 rfl (fun xs w => Try.call74 xs w) Try.ntmps74 Try.results74 rfl ?_
        simp only [go_sem, Nat.reduceEqDiff, Nat.reduceAdd, Nat.reduceSub, Nat.reduceMul, Nat.reduceLT, Nat.reduceLeDiff, Int.reducePow, Int.reduceBEq, Int.reduceBNe, Int.reduceDiv, Int.reduceMod, Int.reduceEq, Int.reduceLT, Int.reduceLE, Int.reduceAdd, Int.reduceSub, Int.reduceMul, Int.reduceNeg, Int.reduceToNat, Int.reduceTDiv, Int.reduceTMod, ↓reduceIte, ptv, df h1, dt h2, dt h3, w1, w2, w3, w4, w5, w6, w7]
      · rw [if_neg (fun h => h3 h.2)]
        refine XCal.of hm Try.func74 rfl (fun xs w => Try.call74 xs w) Try.ntmps74 Try.results74 rfl ?_
        simp only [go_sem, Nat.reduceEqDiff, Nat.reduceAdd, Nat.reduceSub, Nat.reduceMul, Nat.reduceLT, Nat.reduceLeDiff, Int.reducePow, Int.reduceBEq, Int.reduceBNe, Int.reduceDiv, Int.reduceMod, Int.reduceEq, Int.reduceLT, Int.reduceLE, Int.reduceAdd, Int.reduceSub, Int.reduceMul, Int.reduceNeg, Int.reduceToNat, Int.reduceTDiv, Int.reduceTMod, ↓reduceIte, ptv, df h1, dt h2, df h3, w1, w2, w3, w4, w5, w6, w7]
    · rw [if_pos (by rw [df h1, df h2])]
      refine XCal.of hm Try.func74 rfl (fun xs w => Try.call74 xs w) Try.ntmps74 Try.results74 rfl ?_
      simp only [go_sem, Nat.reduceEqDiff, Nat.reduceAdd, Nat.reduceSub, Nat.reduceMul, Nat.reduceLT, Nat.reduceLeDiff, Int.reducePow, Int.reduceBEq, Int.reduceBNe, Int.reduceDiv, Int.reduceMod, Int.reduceEq, Int.reduceLT, Int.reduceLE, Int.reduceAdd, Int.reduceSub, Int.reduceMul, Int.reduceNeg, Int.reduceToNat, Int.reduceTDiv, Int.reduceTMod, ↓reduceIte, ptv, df h1, df h2, w1, w2, w3, w4, w5, w6, w7]
def withB (n rule : Int) : Bool := if rule = 0 then n != 0 else if rule = 1 then n.tmod 2 != 0 else false
theorem cwithin_ (n rule : Int) (H : AH) : SemCall Try.prog 89 [.int .i64 n, .int .i64 rule] H (.bool (withB n rule)) H [] := by
  refine pure_of ?_ rfl
  unfold withB
  by_cases h1 : rule = 0
  · rw [if_pos h1]
    refine XCal.of hm Try.func89 rfl (fun xs w => Try.call89 xs w) Try.ntmps89 Try.results89 rfl ?_
    simp only [go_sem, Nat.reduceEqDiff, Nat.reduceAdd, Nat.reduceSub, Nat.reduceMul, Nat.reduceLT, Nat.reduceLeDiff, Int.reducePow, Int.reduceBEq, Int.reduceBNe, Int.reduceDiv, Int.reduceMod, Int.reduceEq, Int.reduceLT, Int.reduceLE, Int.reduceAdd, Int.reduceSub, Int.reduceMul, Int.reduceNeg, Int.reduceToNat, Int.reduceTDiv, Int.reduceTMod, ↓reduceIte, bt h1]
  · rw [if_neg h1]
    by_cases h2 : rule = 1
    · rw [if_pos h2]
      refine XCal.of hm Try.func89 rfl (fun xs w => Try.call89 xs w) Try.ntmps89 Try.results89 rfl ?_
      simp only [go_sem, Nat.reduceEqDiff, Nat.reduceAdd, Nat.reduceSub, Nat.reduceMul, Nat.reduceLT, Nat.reduceLeDiff, Int.reducePow, Int.reduceBEq, Int.reduceBNe, Int.reduceDiv, Int.reduceMod, Int.reduceEq, Int.reduceLT, Int.reduceLE, Int.reduceAdd, Int.reduceSub, Int.reduceMul, Int.reduceNeg, Int.reduceToNat, Int.reduceTDiv, Int.reduceTMod, ↓reduceIte, bf h1, bt h2]
    · rw [if_neg h2]
      refine XCal.of hm Try.func89 rfl (fun xs w => Try.call89 xs w) Try.ntmps89 Try.results89 rfl ?_
      simp only [go_sem, Nat.reduceEqDiff, Nat.reduceAdd, Nat.reduceSub, Nat.reduceMul, Nat.reduceLT, Nat.reduceLeDiff, Int.reducePow, Int.reduceBEq, Int.reduceBNe, Int.reduceDiv, Int.reduceMod, Int.reduceEq, Int.reduceLT, Int.reduceLE, Int.reduceAdd, Int.reduceSub, Int.reduceMul, Int.reduceNeg, Int.reduceToNat, Int.reduceTDiv, Int.reduceTMod, ↓reduceIte, bf h1, bf h2]
theorem wrap_s (x : Int) : IntKind.i64.wrap x = (x + 9223372036854775808) % 18446744073709551616 - 9223372036854775808 := by
  have e : IntKind.i64.wrap x = if (9223372036854775808 : Int) ≤ x % 18446744073709551616 then x % 18446744073709551616 - 18446744073709551616 else x % 18446744073709551616 := by
    simp [IntKind.wrap, IntKind.signed, IntKind.bits]
  rw [e]; split <;> omega
theorem wrap_add (a s : Int) : IntKind.i64.wrap (IntKind.i64.wrap a + s) = IntKind.i64.wrap (a + s) := by
  rw [wrap_s, wrap_s, wrap_s]; omega
theorem wrap_sub (a s : Int) : IntKind.i64.wrap (IntKind.i64.wrap a - s) = IntKind.i64.wrap (a - s) := by
  rw [wrap_s, wrap_s, wrap_s]; omega
theorem wrap_0 : IntKind.i64.wrap 0 = 0 := by rw [wrap_s]; rfl
end Go.Proofs.Ythoclopeajkcpaa
/- Chapter 15: the walk of the winding. -/
namespace Go.Proofs.Ythoclopeajkcpaa
open Go Go.RowKit E
attribute [local irreducible] XRun XOps XCode XCal XLoop XQ SemCall
set_option linter.unusedSimpArgs false
set_option linter.unusedVariables false
def windGo (x y : Int) : Pt → List Pt → Int
  | _, [] => 0
  | a, p :: t => sideW a (plp p) x y + windGo x y (plp p) t
def windP (l : List Pt) (x y : Int) : Int := if l.length < 2 then 0 else windGo x y (plp ((l[l.length - 1]?).getD (0, 0))) l
def windL : List PL → Int → Int → Int
  | [], _, _ => 0
  | p :: t, x, y => windP p.2 x y + windL t x y
theorem sideW_b (p q : Pt) (x y : Int) : -1 ≤ sideW p q x y ∧ sideW p q x y ≤ 1 := by
  unfold sideW; split
  · omega
  · split
    · omega
    · split <;> omega
theorem windGo_b (x y : Int) : ∀ (l : List Pt) (a : Pt), -(l.length : Int) ≤ windGo x y a l ∧ windGo x y a l ≤ l.length
  | [], a => by simp [windGo]
  | p :: t, a => by
    have := sideW_b a (plp p) x y
    have := windGo_b x y t (plp p)
    simp only [windGo, List.length_cons]; omega
theorem windP_b (l : List Pt) (x y : Int) : -(l.length : Int) ≤ windP l x y ∧ windP l x y ≤ l.length := by
  unfold windP; split
  · omega
  · exact windGo_b x y l _
theorem windL_b : ∀ (ps : List PL) (x y : Int) (m : Nat), (∀ p ∈ ps, p.2.length ≤ m) → -((ps.length * m : Nat) : Int) ≤ windL ps x y ∧ windL ps x y ≤ ((ps.length * m : Nat) : Int)
  | [], _, _, _, _ => by simp [windL]
  | p :: t, x, y, m, h => by
    have h1 := windP_b p.2 x y
    have h2 := windL_b t x y m (fun q hq => h q (by simp [hq]))
    have h3 := h p (by simp)
    simp only [windL, List.length_cons, Nat.add_mul, Nat.one_mul]; omega
theorem windL_drop {ps : List PL} {i : Nat} {p : PL} (h : ps.drop i = p :: ps.drop (i + 1)) (x y : Int) : windL (ps.drop i) x y = windP p.2 x y + windL (ps.drop (i + 1)) x y := by rw [h]; rfl
set_option maxHeartbeats 4000000 in
theorem wind_ (ps : List PL) (v : Value) (x y : Int) (H : AH) (h : Polys H v ps) : SemCall Try.prog 44 [v, .int .i64 x, .int .i64 y] H (.int .i64 (IntKind.i64.wrap (windL ps (place x) (place y)))) H [] := by
  refine pure_of ?_ rfl
  have hx := place_b x
  have hy := place_b y
  by_cases hn : ps = []
  · subst hn
    obtain ⟨a, e, rfl⟩ := h.form
    refine XCal.of hm Try.func44 rfl (fun xs w => Try.call44 xs w) Try.ntmps44 Try.results44 rfl ?_
    simp only [go_sem, Nat.reduceEqDiff, Nat.reduceAdd, Nat.reduceSub, Nat.reduceMul, Nat.reduceLT, Nat.reduceLeDiff, Int.reducePow, Int.reduceBEq, Int.reduceBNe, Int.reduceDiv, Int.reduceMod, Int.reduceEq, Int.reduceLT, Int.reduceLE, Int.reduceAdd, Int.reduceSub, Int.reduceMul, Int.reduceNeg, Int.reduceToNat, Int.reduceTDiv, Int.reduceTMod, ↓reduceIte]
    repeat ((first | refine (place_ _ _).x ?_ | refine drawnF ?_ (by decide +kernel)); simp only [go_sem, Nat.reduceEqDiff, Nat.reduceAdd, Nat.reduceSub, Nat.reduceMul, Nat.reduceLT, Nat.reduceLeDiff, Int.reducePow, Int.reduceBEq, Int.reduceBNe, Int.reduceDiv, Int.reduceMod, Int.reduceEq, Int.reduceLT, Int.reduceLE, Int.reduceAdd, Int.reduceSub, Int.reduceMul, Int.reduceNeg, Int.reduceToNat, Int.reduceTDiv, Int.reduceTMod, ↓reduceIte])
    refine rounds 1 ?_
    simp only [go_sem, Nat.reduceEqDiff, Nat.reduceAdd, Nat.reduceSub, Nat.reduceMul, Nat.reduceLT, Nat.reduceLeDiff, Int.reducePow, Int.reduceBEq, Int.reduceBNe, Int.reduceDiv, Int.reduceMod, Int.reduceEq, Int.reduceLT, Int.reduceLE, Int.reduceAdd, Int.reduceSub, Int.reduceMul, Int.reduceNeg, Int.reduceToNat, Int.reduceTDiv, Int.reduceTMod, ↓reduceIte, List.length_nil, show ((0 : Nat) : Int) = 0 from rfl, windL, wrap_0]
    try rfl
  · obtain ⟨b, g, rest, rw_, vs, rfl, hb, hvl, hlen, hel⟩ := h.ne hn
    refine XCal.of hm Try.func44 rfl (fun xs w => Try.call44 xs w) Try.ntmps44 Try.results44 rfl ?_
    simp only [go_sem, Nat.reduceEqDiff, Nat.reduceAdd, Nat.reduceSub, Nat.reduceMul, Nat.reduceLT, Nat.reduceLeDiff, Int.reducePow, Int.reduceBEq, Int.reduceBNe, Int.reduceDiv, Int.reduceMod, Int.reduceEq, Int.reduceLT, Int.reduceLE, Int.reduceAdd, Int.reduceSub, Int.reduceMul, Int.reduceNeg, Int.reduceToNat, Int.reduceTDiv, Int.reduceTMod, ↓reduceIte]
    repeat ((first | refine (place_ _ _).x ?_ | refine drawnF ?_ (by decide +kernel)); simp only [go_sem, Nat.reduceEqDiff, Nat.reduceAdd, Nat.reduceSub, Nat.reduceMul, Nat.reduceLT, Nat.reduceLeDiff, Int.reducePow, Int.reduceBEq, Int.reduceBNe, Int.reduceDiv, Int.reduceMod, Int.reduceEq, Int.reduceLT, Int.reduceLE, Int.reduceAdd, Int.reduceSub, Int.reduceMul, Int.reduceNeg, Int.reduceToNat, Int.reduceTDiv, Int.reduceTMod, ↓reduceIte])
    generalize place x = X at *
    generalize place y = Y at *
    refine keep (fun k T K D => D = [] ∧ ∃ (i : Nat) (acc : Int), i + k = ps.length ∧ Old H K ∧ H.length ≤ K.length ∧ acc + windL (ps.drop i) X Y = windL ps X Y ∧ T 1 = .int .i64 X ∧ T 2 = .int .i64 Y ∧ T 7 = .int .i64 (IntKind.i64.wrap acc) ∧ T 17 = sl b 0 g ps.length 2 ∧ T 18 = .int .i64 (ps.length : Int) ∧ T 19 = .int .i64 (i : Int)) ps.length
      ⟨rfl, 0, 0, by omega, Old.refl _, by simp, by simp, by simp only [go_sem, Nat.reduceEqDiff, Nat.reduceAdd, Nat.reduceSub, Nat.reduceMul, Nat.reduceLT, Nat.reduceLeDiff, Int.reducePow, Int.reduceBEq, Int.reduceBNe, Int.reduceDiv, Int.reduceMod, Int.reduceEq, Int.reduceLT, Int.reduceLE, Int.reduceAdd, Int.reduceSub, Int.reduceMul, Int.reduceNeg, Int.reduceToNat, Int.reduceTDiv, Int.reduceTMod, ↓reduceIte], by simp only [go_sem, Nat.reduceEqDiff, Nat.reduceAdd, Nat.reduceSub, Nat.reduceMul, Nat.reduceLT, Nat.reduceLeDiff, Int.reducePow, Int.reduceBEq, Int.reduceBNe, Int.reduceDiv, Int.reduceMod, Int.reduceEq, Int.reduceLT, Int.reduceLE, Int.reduceAdd, Int.reduceSub, Int.reduceMul, Int.reduceNeg, Int.reduceToNat, Int.reduceTDiv, Int.reduceTMod, ↓reduceIte], by simp only [go_sem, Nat.reduceEqDiff, Nat.reduceAdd, Nat.reduceSub, Nat.reduceMul, Nat.reduceLT, Nat.reduceLeDiff, Int.reducePow, Int.reduceBEq, Int.reduceBNe, Int.reduceDiv, Int.reduceMod, Int.reduceEq, Int.reduceLT, Int.reduceLE, Int.reduceAdd, Int.reduceSub, Int.reduceMul, Int.reduceNeg, Int.reduceToNat, Int.reduceTDiv, Int.reduceTMod, ↓reduceIte, wrap_0] <;> rfl, by simp only [go_sem, Nat.reduceEqDiff, Nat.reduceAdd, Nat.reduceSub, Nat.reduceMul, Nat.reduceLT, Nat.reduceLeDiff, Int.reducePow, Int.reduceBEq, Int.reduceBNe, Int.reduceDiv, Int.reduceMod, Int.reduceEq, Int.reduceLT, Int.reduceLE, Int.reduceAdd, Int.reduceSub, Int.reduceMul, Int.reduceNeg, Int.reduceToNat, Int.reduceTDiv, Int.reduceTMod, ↓reduceIte], by simp only [go_sem, Nat.reduceEqDiff, Nat.reduceAdd, Nat.reduceSub, Nat.reduceMul, Nat.reduceLT, Nat.reduceLeDiff, Int.reducePow, Int.reduceBEq, Int.reduceBNe, Int.reduceDiv, Int.reduceMod, Int.reduceEq, Int.reduceLT, Int.reduceLE, Int.reduceAdd, Int.reduceSub, Int.reduceMul, Int.reduceNeg, Int.reduceToNat, Int.reduceTDiv, Int.reduceTMod, ↓reduceIte], by simp only [go_sem, Nat.reduceEqDiff, Nat.reduceAdd, Nat.reduceSub, Nat.reduceMul, Nat.reduceLT, Nat.reduceLeDiff, Int.reducePow, Int.reduceBEq, Int.reduceBNe, Int.reduceDiv, Int.reduceMod, Int.reduceEq, Int.reduceLT, Int.reduceLE, Int.reduceAdd, Int.reduceSub, Int.reduceMul, Int.reduceNeg, Int.reduceToNat, Int.reduceTDiv, Int.reduceTMod, ↓reduceIte] <;> rfl⟩ ?_
    rintro k T K D ⟨rfl, i, acc, hik, hold, hKl, hacc, h1, h2, h7, h17, h18, h19⟩
    have kb := hold _ _ hb
    have kd : ∀ n, decide (K.length + n < H.length) = false := fun n => df (by omega)
    have kd0 : decide (K.length < H.length) = false := df (by omega)
    by_cases hk : i < ps.length
    · obtain ⟨p, hxi, hdr⟩ := getD_some hk
      obtain ⟨pv, hvi, hp⟩ := hel i p hxi
      have hld := fun (b : Nat) => ald_pl (b := b) (g := g) (rw_ := rw_) rest hvi
      have hpk := hp.old hold
      obtain ⟨pa, pe, hpe⟩ := hpk.form
      subst hpe
      have w1 : IntKind.i64.wrap ((i : Int) + 1) = ((i + 1 : Nat) : Int) := by rw [wi (by omega) (by omega)]; rfl
      have hpl := hp.len
      rw [windL_drop hdr] at hacc
      by_cases hs : p.2.length < 2
      · simp only [go_sem, Nat.reduceEqDiff, Nat.reduceAdd, Nat.reduceSub, Nat.reduceMul, Nat.reduceLT, Nat.reduceLeDiff, Int.reducePow, Int.reduceBEq, Int.reduceBNe, Int.reduceDiv, Int.reduceMod, Int.reduceEq, Int.reduceLT, Int.reduceLE, Int.reduceAdd, Int.reduceSub, Int.reduceMul, Int.reduceNeg, Int.reduceToNat, Int.reduceTDiv, Int.reduceTMod, ↓reduceIte, h1, h2, h7, h17, h18, h19, dt (show (i : Int) < (ps.length : Int) by omega), show (0 : Int) ≤ (i : Int) by omega, show (i : Int) < (ps.length : Int) by omega, Int.toNat_natCast, Nat.zero_add, kb, hld, kd, kd0, dt (show (p.2.length : Int) < 2 by omega), w1]
        have e : windP p.2 X Y = 0 := by unfold windP; rw [if_pos hs]
        rw [e] at hacc
        exact ⟨k - 1, by omega, i + 1, acc, by omega, hold.app _, by omega, by omega, rfl, rfl⟩
      · obtain ⟨b2, g2, rest2, rw2, hpe, kb2, _⟩ := hpk.ne (fun e => by rw [e] at hs; simp at hs)
        cases hpe
        have w2 : IntKind.i64.wrap ((p.2.length : Int) - 1) = ((p.2.length - 1 : Nat) : Int) := by rw [wi (by omega) (by omega)]; omega
        obtain ⟨q, hq, _⟩ := getD_some (show p.2.length - 1 < p.2.length by omega)
        have lq := fun (c : Nat) => ald_pt (b := c) (g := g2) (rw_ := rw2) rest2 hq
        have e : windP p.2 X Y = windGo X Y (plp q) p.2 := by unfold windP; rw [if_neg hs, hq]; rfl
        rw [e] at hacc
        have q0 : ∀ x : Nat, (0 : Int) ≤ (x : Int) := fun x => by omega
        simp only [go_sem, Nat.reduceEqDiff, Nat.reduceAdd, Nat.reduceSub, Nat.reduceMul, Nat.reduceLT, Nat.reduceLeDiff, Int.reducePow, Int.reduceBEq, Int.reduceBNe, Int.reduceDiv, Int.reduceMod, Int.reduceEq, Int.reduceLT, Int.reduceLE, Int.reduceAdd, Int.reduceSub, Int.reduceMul, Int.reduceNeg, Int.reduceToNat, Int.reduceTDiv, Int.reduceTMod, ↓reduceIte, h1, h2, h7, h17, h18, h19, dt (show (i : Int) < (ps.length : Int) by omega), q0, show (i : Int) < (ps.length : Int) by omega, Int.toNat_natCast, Nat.zero_add, kb, hld, kd, kd0, df (show ¬ (p.2.length : Int) < 2 by omega), w1, w2, show ((p.2.length - 1 : Nat) : Int) < (p.2.length : Int) by omega, old_get kb2, lq, ptv]
        refine (cplace_ q _).x ?_
        simp only [go_sem, Nat.reduceEqDiff, Nat.reduceAdd, Nat.reduceSub, Nat.reduceMul, Nat.reduceLT, Nat.reduceLeDiff, Int.reducePow, Int.reduceBEq, Int.reduceBNe, Int.reduceDiv, Int.reduceMod, Int.reduceEq, Int.reduceLT, Int.reduceLE, Int.reduceAdd, Int.reduceSub, Int.reduceMul, Int.reduceNeg, Int.reduceToNat, Int.reduceTDiv, Int.reduceTMod, ↓reduceIte, h1, h2, h7, h17, h18, h19, kd, kd0, ptv]
        refine keep (fun k' T J D => D = [] ∧ ∃ (j : Nat) (a : Pt) (ac : Int), j + k' = p.2.length ∧ Olx (K.length + 1) K J ∧ K.length + 2 ≤ J.length ∧ J[K.length + 1]? = some ⟨[.int .i64 a.1, .int .i64 a.2], 0, true⟩ ∧ Pb a ∧ ac + windGo X Y a (p.2.drop j) = acc + windGo X Y (plp q) p.2 ∧ T 1 = .int .i64 X ∧ T 2 = .int .i64 Y ∧ T 7 = .int .i64 (IntKind.i64.wrap ac) ∧ T 10 = ap (K.length + 1) 0 0 ∧ T 17 = sl b 0 g ps.length 2 ∧ T 18 = .int .i64 (ps.length : Int) ∧ T 19 = .int .i64 (i : Int) ∧ T 37 = sl b2 0 g2 p.2.length 2 ∧ T 38 = .int .i64 (p.2.length : Int) ∧ T 39 = .int .i64 (j : Int)) p.2.length
          ⟨rfl, 0, plp q, acc, by omega, Olx.old (Old.app' _ _), by simp, by rw [hget_app]; rfl, plp_b q, rfl, by simp only [go_sem, Nat.reduceEqDiff, Nat.reduceAdd, Nat.reduceSub, Nat.reduceMul, Nat.reduceLT, Nat.reduceLeDiff, Int.reducePow, Int.reduceBEq, Int.reduceBNe, Int.reduceDiv, Int.reduceMod, Int.reduceEq, Int.reduceLT, Int.reduceLE, Int.reduceAdd, Int.reduceSub, Int.reduceMul, Int.reduceNeg, Int.reduceToNat, Int.reduceTDiv, Int.reduceTMod, ↓reduceIte, h1], by simp only [go_sem, Nat.reduceEqDiff, Nat.reduceAdd, Nat.reduceSub, Nat.reduceMul, Nat.reduceLT, Nat.reduceLeDiff, Int.reducePow, Int.reduceBEq, Int.reduceBNe, Int.reduceDiv, Int.reduceMod, Int.reduceEq, Int.reduceLT, Int.reduceLE, Int.reduceAdd, Int.reduceSub, Int.reduceMul, Int.reduceNeg, Int.reduceToNat, Int.reduceTDiv, Int.reduceTMod, ↓reduceIte, h2], by simp only [go_sem, Nat.reduceEqDiff, Nat.reduceAdd, Nat.reduceSub, Nat.reduceMul, Nat.reduceLT, Nat.reduceLeDiff, Int.reducePow, Int.reduceBEq, Int.reduceBNe, Int.reduceDiv, Int.reduceMod, Int.reduceEq, Int.reduceLT, Int.reduceLE, Int.reduceAdd, Int.reduceSub, Int.reduceMul, Int.reduceNeg, Int.reduceToNat, Int.reduceTDiv, Int.reduceTMod, ↓reduceIte, h7], by simp only [go_sem, Nat.reduceEqDiff, Nat.reduceAdd, Nat.reduceSub, Nat.reduceMul, Nat.reduceLT, Nat.reduceLeDiff, Int.reducePow, Int.reduceBEq, Int.reduceBNe, Int.reduceDiv, Int.reduceMod, Int.reduceEq, Int.reduceLT, Int.reduceLE, Int.reduceAdd, Int.reduceSub, Int.reduceMul, Int.reduceNeg, Int.reduceToNat, Int.reduceTDiv, Int.reduceTMod, ↓reduceIte], by simp only [go_sem, Nat.reduceEqDiff, Nat.reduceAdd, Nat.reduceSub, Nat.reduceMul, Nat.reduceLT, Nat.reduceLeDiff, Int.reducePow, Int.reduceBEq, Int.reduceBNe, Int.reduceDiv, Int.reduceMod, Int.reduceEq, Int.reduceLT, Int.reduceLE, Int.reduceAdd, Int.reduceSub, Int.reduceMul, Int.reduceNeg, Int.reduceToNat, Int.reduceTDiv, Int.reduceTMod, ↓reduceIte, h17], by simp only [go_sem, Nat.reduceEqDiff, Nat.reduceAdd, Nat.reduceSub, Nat.reduceMul, Nat.reduceLT, Nat.reduceLeDiff, Int.reducePow, Int.reduceBEq, Int.reduceBNe, Int.reduceDiv, Int.reduceMod, Int.reduceEq, Int.reduceLT, Int.reduceLE, Int.reduceAdd, Int.reduceSub, Int.reduceMul, Int.reduceNeg, Int.reduceToNat, Int.reduceTDiv, Int.reduceTMod, ↓reduceIte, h18], by simp only [go_sem, Nat.reduceEqDiff, Nat.reduceAdd, Nat.reduceSub, Nat.reduceMul, Nat.reduceLT, Nat.reduceLeDiff, Int.reducePow, Int.reduceBEq, Int.reduceBNe, Int.reduceDiv, Int.reduceMod, Int.reduceEq, Int.reduceLT, Int.reduceLE, Int.reduceAdd, Int.reduceSub, Int.reduceMul, Int.reduceNeg, Int.reduceToNat, Int.reduceTDiv, Int.reduceTMod, ↓reduceIte, h19], by simp only [go_sem, Nat.reduceEqDiff, Nat.reduceAdd, Nat.reduceSub, Nat.reduceMul, Nat.reduceLT, Nat.reduceLeDiff, Int.reducePow, Int.reduceBEq, Int.reduceBNe, Int.reduceDiv, Int.reduceMod, Int.reduceEq, Int.reduceLT, Int.reduceLE, Int.reduceAdd, Int.reduceSub, Int.reduceMul, Int.reduceNeg, Int.reduceToNat, Int.reduceTDiv, Int.reduceTMod, ↓reduceIte], by simp only [go_sem, Nat.reduceEqDiff, Nat.reduceAdd, Nat.reduceSub, Nat.reduceMul, Nat.reduceLT, Nat.reduceLeDiff, Int.reducePow, Int.reduceBEq, Int.reduceBNe, Int.reduceDiv, Int.reduceMod, Int.reduceEq, Int.reduceLT, Int.reduceLE, Int.reduceAdd, Int.reduceSub, Int.reduceMul, Int.reduceNeg, Int.reduceToNat, Int.reduceTDiv, Int.reduceTMod, ↓reduceIte], by simp only [go_sem, Nat.reduceEqDiff, Nat.reduceAdd, Nat.reduceSub, Nat.reduceMul, Nat.reduceLT, Nat.reduceLeDiff, Int.reducePow, Int.reduceBEq, Int.reduceBNe, Int.reduceDiv, Int.reduceMod, Int.reduceEq, Int.reduceLT, Int.reduceLE, Int.reduceAdd, Int.reduceSub, Int.reduceMul, Int.reduceNeg, Int.reduceToNat, Int.reduceTDiv, Int.reduceTMod, ↓reduceIte] <;> rfl⟩ ?_
        clear h1 h2 h7 h17 h18 h19
        rintro k' T J D ⟨rfl, j, a, ac, hjk, hJ, hJl, hJa, hPa, hac, h1, h2, h7, h10, h17, h18, h19, h37, h38, h39⟩
        have kd : ∀ n, decide (J.length + n < H.length) = false := fun n => df (by omega)
        have kd0 : decide (J.length < H.length) = false := df (by omega)
        have kd1 : decide (K.length + 1 < H.length) = false := df (by omega)
        have kb3 := hJ _ _ (by have := (List.getElem?_eq_some_iff.1 kb2).1; omega) kb2
        by_cases hj : j < p.2.length
        · obtain ⟨r, hr, hdr2⟩ := getD_some hj
          have lr := fun (c : Nat) => ald_pt (b := c) (g := g2) (rw_ := rw2) rest2 hr
          have w3 : IntKind.i64.wrap ((j : Int) + 1) = ((j + 1 : Nat) : Int) := by rw [wi (by omega) (by omega)]; rfl
          rw [hdr2] at hac
          simp only [windGo] at hac
          have w4 := wrap_add ac (sideW a (plp r) X Y)
          simp only [go_sem, Nat.reduceEqDiff, Nat.reduceAdd, Nat.reduceSub, Nat.reduceMul, Nat.reduceLT, Nat.reduceLeDiff, Int.reducePow, Int.reduceBEq, Int.reduceBNe, Int.reduceDiv, Int.reduceMod, Int.reduceEq, Int.reduceLT, Int.reduceLE, Int.reduceAdd, Int.reduceSub, Int.reduceMul, Int.reduceNeg, Int.reduceToNat, Int.reduceTDiv, Int.reduceTMod, ↓reduceIte, h1, h2, h7, h10, h17, h18, h19, h37, h38, h39, dt (show (j : Int) < (p.2.length : Int) by omega), q0, show (j : Int) < (p.2.length : Int) by omega, Int.toNat_natCast, Nat.zero_add, old_get kb3, kb3, lr, kd, kd0, ptv]
          refine (cplace_ r _).x ?_
          simp only [go_sem, Nat.reduceEqDiff, Nat.reduceAdd, Nat.reduceSub, Nat.reduceMul, Nat.reduceLT, Nat.reduceLeDiff, Int.reducePow, Int.reduceBEq, Int.reduceBNe, Int.reduceDiv, Int.reduceMod, Int.reduceEq, Int.reduceLT, Int.reduceLE, Int.reduceAdd, Int.reduceSub, Int.reduceMul, Int.reduceNeg, Int.reduceToNat, Int.reduceTDiv, Int.reduceTMod, ↓reduceIte, h1, h2, h7, h10, h17, h18, h19, h37, h38, h39, kd, kd0, ptv, old_get hJa]
          refine (cside_ a (plp r) X Y hPa (plp_b r) hx hy _).x ?_
          simp only [go_sem, Nat.reduceEqDiff, Nat.reduceAdd, Nat.reduceSub, Nat.reduceMul, Nat.reduceLT, Nat.reduceLeDiff, Int.reducePow, Int.reduceBEq, Int.reduceBNe, Int.reduceDiv, Int.reduceMod, Int.reduceEq, Int.reduceLT, Int.reduceLE, Int.reduceAdd, Int.reduceSub, Int.reduceMul, Int.reduceNeg, Int.reduceToNat, Int.reduceTDiv, Int.reduceTMod, ↓reduceIte, h1, h2, h7, h10, h17, h18, h19, h37, h38, h39, kd, kd0, kd1, ptv, old_get hJa, old_set hJa, w3, w4]
          exact ⟨k' - 1, by omega, j + 1, plp r, ac + sideW a (plp r) X Y, by omega, hJ.trans (Olx.set1 _ J _ _), by omega, old_sget hJa _ _, plp_b r, by omega, rfl, rfl⟩
        · have : p.2.drop j = [] := List.drop_eq_nil_of_le (by omega)
          rw [this] at hac
          simp only [go_sem, Nat.reduceEqDiff, Nat.reduceAdd, Nat.reduceSub, Nat.reduceMul, Nat.reduceLT, Nat.reduceLeDiff, Int.reducePow, Int.reduceBEq, Int.reduceBNe, Int.reduceDiv, Int.reduceMod, Int.reduceEq, Int.reduceLT, Int.reduceLE, Int.reduceAdd, Int.reduceSub, Int.reduceMul, Int.reduceNeg, Int.reduceToNat, Int.reduceTDiv, Int.reduceTMod, ↓reduceIte, h1, h2, h7, h10, h17, h18, h19, h37, h38, h39, df (show ¬ (j : Int) < (p.2.length : Int) by omega), w1]
          simp only [windGo] at hac
          exact ⟨k - 1, by omega, i + 1, ac, by omega, hold.olx hJ (by omega), by omega, by omega, rfl, rfl⟩
    · have : ps.drop i = [] := List.drop_eq_nil_of_le (by omega)
      rw [this] at hacc
      simp only [go_sem, Nat.reduceEqDiff, Nat.reduceAdd, Nat.reduceSub, Nat.reduceMul, Nat.reduceLT, Nat.reduceLeDiff, Int.reducePow, Int.reduceBEq, Int.reduceBNe, Int.reduceDiv, Int.reduceMod, Int.reduceEq, Int.reduceLT, Int.reduceLE, Int.reduceAdd, Int.reduceSub, Int.reduceMul, Int.reduceNeg, Int.reduceToNat, Int.reduceTDiv, Int.reduceTMod, ↓reduceIte, h1, h2, h7, h17, h18, h19, df (show ¬ (i : Int) < (ps.length : Int) by omega)]
      rw [← hacc]
      simp [windL]
end Go.Proofs.Ythoclopeajkcpaa
/- Chapter 15: the walk of the plain form of the winding. -/
namespace Go.Proofs.Ythoclopeajkcpaa
open Go Go.RowKit E
attribute [local irreducible] XRun XOps XCode XCal XLoop XQ SemCall
set_option linter.unusedSimpArgs false
set_option linter.unusedVariables false
/-- The sides behind a place, the last one back to z. -/
def windFw (x y : Int) (z : Pt) : List Pt → Int
  | [] => 0
  | [p] => sideW (plp p) z x y
  | p :: q :: t => sideW (plp p) (plp q) x y + windFw x y z (q :: t)
theorem windGo_fw (x y : Int) (z : Pt) : ∀ (l : List Pt) (a : Pt), windFw x y z (a :: l) = windGo x y (plp a) l + sideW (plp (((a :: l)[l.length]?).getD (0, 0))) z x y
  | [], a => by simp [windFw, windGo]
  | q :: t, a => by
    have := windGo_fw x y z t q
    simp only [windFw, windGo, this, List.length_cons, List.getElem?_cons_succ]
    omega
theorem windP_fw (l : List Pt) (x y : Int) (p : Pt) (t : List Pt) (hl : l = p :: t) (h2 : ¬ l.length < 2) : windP l x y = windFw x y (plp p) l := by
  subst hl
  unfold windP
  rw [if_neg h2, windGo_fw]
  simp only [windGo, List.length_cons, Nat.add_sub_cancel]
  omega
theorem windFw_b (x y : Int) (z : Pt) : ∀ (l : List Pt), -(l.length : Int) ≤ windFw x y z l ∧ windFw x y z l ≤ l.length
  | [] => by simp [windFw]
  | [p] => by have := sideW_b (plp p) z x y; simp [windFw]; omega
  | p :: q :: t => by
    have := sideW_b (plp p) (plp q) x y
    have := windFw_b x y z (q :: t)
    simp only [windFw, List.length_cons] at *; omega
theorem windFw_step (x y : Int) (l : List Pt) (p0 : Pt) (j : Nat) (r q : Pt) (h0 : l[0]? = some p0) (hr : l[j]? = some r) (hdr : l.drop j = r :: l.drop (j + 1)) (hq : l[(j + 1) % l.length]? = some q) (hj : j < l.length) : windFw x y (plp p0) (l.drop j) = sideW (plp r) (plp q) x y + windFw x y (plp p0) (l.drop (j + 1)) := by
  by_cases hl : j + 1 < l.length
  · rw [Nat.mod_eq_of_lt hl] at hq
    obtain ⟨q', hq', hdr'⟩ := getD_some hl
    rw [hq'] at hq; cases hq
    rw [hdr, hdr']; rfl
  · have e : (j + 1) % l.length = 0 := by rw [show j + 1 = l.length by omega]; exact Nat.mod_self _
    rw [e, h0] at hq; cases hq
    have : l.drop (j + 1) = [] := List.drop_eq_nil_of_le (by omega)
    rw [hdr, this]; simp [windFw]
set_option maxHeartbeats 4000000 in
theorem rwind_ (ps : List PL) (v : Value) (x y : Int) (H : AH) (h : Polys H v ps) : SemCall Try.prog 45 [v, .int .i64 x, .int .i64 y] H (.int .i64 (IntKind.i64.wrap (windL ps (place x) (place y)))) H [] := by
  refine pure_of ?_ rfl
  have hx := place_b x
  have hy := place_b y
  by_cases hn : ps = []
  · subst hn
    obtain ⟨a, e, rfl⟩ := h.form
    refine XCal.of hm Try.func45 rfl (fun xs w => Try.call45 xs w) Try.ntmps45 Try.results45 rfl ?_
    simp only [go_sem, Nat.reduceEqDiff, Nat.reduceAdd, Nat.reduceSub, Nat.reduceMul, Nat.reduceLT, Nat.reduceLeDiff, Int.reducePow, Int.reduceBEq, Int.reduceBNe, Int.reduceDiv, Int.reduceMod, Int.reduceEq, Int.reduceLT, Int.reduceLE, Int.reduceAdd, Int.reduceSub, Int.reduceMul, Int.reduceNeg, Int.reduceToNat, Int.reduceTDiv, Int.reduceTMod, ↓reduceIte]
    repeat ((first | refine (rplace_ _ _).x ?_ | refine drawnF ?_ (by decide +kernel) | refine drawnU [(4, 14), (5, 14), (6, 14), (7, 14), (8, 14), (9, 14), (10, 14), (11, 14)] (by decide +kernel) ?_ | refine drawnU [(2, 3), (2, 4)] (by decide +kernel) ?_); simp only [go_sem, Nat.reduceEqDiff, Nat.reduceAdd, Nat.reduceSub, Nat.reduceMul, Nat.reduceLT, Nat.reduceLeDiff, Int.reducePow, Int.reduceBEq, Int.reduceBNe, Int.reduceDiv, Int.reduceMod, Int.reduceEq, Int.reduceLT, Int.reduceLE, Int.reduceAdd, Int.reduceSub, Int.reduceMul, Int.reduceNeg, Int.reduceToNat, Int.reduceTDiv, Int.reduceTMod, ↓reduceIte])
    refine rounds 1 ?_
    simp only [go_sem, Nat.reduceEqDiff, Nat.reduceAdd, Nat.reduceSub, Nat.reduceMul, Nat.reduceLT, Nat.reduceLeDiff, Int.reducePow, Int.reduceBEq, Int.reduceBNe, Int.reduceDiv, Int.reduceMod, Int.reduceEq, Int.reduceLT, Int.reduceLE, Int.reduceAdd, Int.reduceSub, Int.reduceMul, Int.reduceNeg, Int.reduceToNat, Int.reduceTDiv, Int.reduceTMod, ↓reduceIte, List.length_nil, show ((0 : Nat) : Int) = 0 from rfl, windL, wrap_0]
    try rfl
  · obtain ⟨b, g, rest, rw_, vs, rfl, hb, hvl, hlen, hel⟩ := h.ne hn
    refine XCal.of hm Try.func45 rfl (fun xs w => Try.call45 xs w) Try.ntmps45 Try.results45 rfl ?_
    simp only [go_sem, Nat.reduceEqDiff, Nat.reduceAdd, Nat.reduceSub, Nat.reduceMul, Nat.reduceLT, Nat.reduceLeDiff, Int.reducePow, Int.reduceBEq, Int.reduceBNe, Int.reduceDiv, Int.reduceMod, Int.reduceEq, Int.reduceLT, Int.reduceLE, Int.reduceAdd, Int.reduceSub, Int.reduceMul, Int.reduceNeg, Int.reduceToNat, Int.reduceTDiv, Int.reduceTMod, ↓reduceIte]
    repeat ((first | refine (rplace_ _ _).x ?_ | refine drawnF ?_ (by decide +kernel) | refine drawnU [(4, 14), (5, 14), (6, 14), (7, 14), (8, 14), (9, 14), (10, 14), (11, 14)] (by decide +kernel) ?_ | refine drawnU [(2, 3), (2, 4)] (by decide +kernel) ?_); simp only [go_sem, Nat.reduceEqDiff, Nat.reduceAdd, Nat.reduceSub, Nat.reduceMul, Nat.reduceLT, Nat.reduceLeDiff, Int.reducePow, Int.reduceBEq, Int.reduceBNe, Int.reduceDiv, Int.reduceMod, Int.reduceEq, Int.reduceLT, Int.reduceLE, Int.reduceAdd, Int.reduceSub, Int.reduceMul, Int.reduceNeg, Int.reduceToNat, Int.reduceTDiv, Int.reduceTMod, ↓reduceIte])
    generalize place x = X at *
    generalize place y = Y at *
    refine keep (fun k T K D => D = [] ∧ ∃ (i : Nat) (acc : Int), i + k = ps.length ∧ Old H K ∧ H.length ≤ K.length ∧ acc + windL (ps.drop i) X Y = windL ps X Y ∧ T 1 = .int .i64 X ∧ T 2 = .int .i64 Y ∧ T 7 = .int .i64 (IntKind.i64.wrap acc) ∧ T 0 = sl b 0 g ps.length 2 ∧ T 8 = .int .i64 (i : Int)) ps.length
      ⟨rfl, 0, 0, by omega, Old.refl _, by simp, by simp, by simp only [go_sem, Nat.reduceEqDiff, Nat.reduceAdd, Nat.reduceSub, Nat.reduceMul, Nat.reduceLT, Nat.reduceLeDiff, Int.reducePow, Int.reduceBEq, Int.reduceBNe, Int.reduceDiv, Int.reduceMod, Int.reduceEq, Int.reduceLT, Int.reduceLE, Int.reduceAdd, Int.reduceSub, Int.reduceMul, Int.reduceNeg, Int.reduceToNat, Int.reduceTDiv, Int.reduceTMod, ↓reduceIte], by simp only [go_sem, Nat.reduceEqDiff, Nat.reduceAdd, Nat.reduceSub, Nat.reduceMul, Nat.reduceLT, Nat.reduceLeDiff, Int.reducePow, Int.reduceBEq, Int.reduceBNe, Int.reduceDiv, Int.reduceMod, Int.reduceEq, Int.reduceLT, Int.reduceLE, Int.reduceAdd, Int.reduceSub, Int.reduceMul, Int.reduceNeg, Int.reduceToNat, Int.reduceTDiv, Int.reduceTMod, ↓reduceIte], by simp only [go_sem, Nat.reduceEqDiff, Nat.reduceAdd, Nat.reduceSub, Nat.reduceMul, Nat.reduceLT, Nat.reduceLeDiff, Int.reducePow, Int.reduceBEq, Int.reduceBNe, Int.reduceDiv, Int.reduceMod, Int.reduceEq, Int.reduceLT, Int.reduceLE, Int.reduceAdd, Int.reduceSub, Int.reduceMul, Int.reduceNeg, Int.reduceToNat, Int.reduceTDiv, Int.reduceTMod, ↓reduceIte, wrap_0] <;> rfl, by simp only [go_sem, Nat.reduceEqDiff, Nat.reduceAdd, Nat.reduceSub, Nat.reduceMul, Nat.reduceLT, Nat.reduceLeDiff, Int.reducePow, Int.reduceBEq, Int.reduceBNe, Int.reduceDiv, Int.reduceMod, Int.reduceEq, Int.reduceLT, Int.reduceLE, Int.reduceAdd, Int.reduceSub, Int.reduceMul, Int.reduceNeg, Int.reduceToNat, Int.reduceTDiv, Int.reduceTMod, ↓reduceIte], by simp only [go_sem, Nat.reduceEqDiff, Nat.reduceAdd, Nat.reduceSub, Nat.reduceMul, Nat.reduceLT, Nat.reduceLeDiff, Int.reducePow, Int.reduceBEq, Int.reduceBNe, Int.reduceDiv, Int.reduceMod, Int.reduceEq, Int.reduceLT, Int.reduceLE, Int.reduceAdd, Int.reduceSub, Int.reduceMul, Int.reduceNeg, Int.reduceToNat, Int.reduceTDiv, Int.reduceTMod, ↓reduceIte] <;> rfl⟩ ?_
    rintro k T K D ⟨rfl, i, acc, hik, hold, hKl, hacc, h1, h2, h7, h0, h8⟩
    have kb := hold _ _ hb
    by_cases hk : i < ps.length
    · obtain ⟨p, hxi, hdr⟩ := getD_some hk
      obtain ⟨pv, hvi, hp⟩ := hel i p hxi
      have hget := (plC_get vs i _ rest hvi).2
      have hpk := hp.old hold
      obtain ⟨pa, pe, hpe⟩ := hpk.form
      subst hpe
      have w1 : IntKind.i64.wrap ((i : Int) + 1) = ((i + 1 : Nat) : Int) := by rw [wi (by omega) (by omega)]; rfl
      have hpl := hp.len
      rw [windL_drop hdr] at hacc
      have q0 : ∀ x : Nat, (0 : Int) ≤ (x : Int) := fun x => by omega
      simp only [go_sem, Nat.reduceEqDiff, Nat.reduceAdd, Nat.reduceSub, Nat.reduceMul, Nat.reduceLT, Nat.reduceLeDiff, Int.reducePow, Int.reduceBEq, Int.reduceBNe, Int.reduceDiv, Int.reduceMod, Int.reduceEq, Int.reduceLT, Int.reduceLE, Int.reduceAdd, Int.reduceSub, Int.reduceMul, Int.reduceNeg, Int.reduceToNat, Int.reduceTDiv, Int.reduceTMod, ↓reduceIte, h1, h2, h7, h0, h8, dt (show (i : Int) < (ps.length : Int) by omega), q0, show (i : Int) < (ps.length : Int) by omega, Int.toNat_natCast, Nat.zero_add, kb, hget]
      by_cases hs : p.2.length < 2
      · have e : windP p.2 X Y = 0 := by unfold windP; rw [if_pos hs]
        rw [e] at hacc
        refine rounds 1 ?_
        cases hz : decide ((0 : Int) < (p.2.length : Int)) with
        | true =>
          simp only [go_sem, Nat.reduceEqDiff, Nat.reduceAdd, Nat.reduceSub, Nat.reduceMul, Nat.reduceLT, Nat.reduceLeDiff, Int.reducePow, Int.reduceBEq, Int.reduceBNe, Int.reduceDiv, Int.reduceMod, Int.reduceEq, Int.reduceLT, Int.reduceLE, Int.reduceAdd, Int.reduceSub, Int.reduceMul, Int.reduceNeg, Int.reduceToNat, Int.reduceTDiv, Int.reduceTMod, ↓reduceIte, h1, h2, h7, h0, h8, hz, df (show ¬ (2 : Int) ≤ (p.2.length : Int) by omega), w1]
          exact ⟨k - 1, by omega, i + 1, acc, by omega, hold, by omega, by omega, rfl, rfl⟩
        | false =>
          simp only [go_sem, Nat.reduceEqDiff, Nat.reduceAdd, Nat.reduceSub, Nat.reduceMul, Nat.reduceLT, Nat.reduceLeDiff, Int.reducePow, Int.reduceBEq, Int.reduceBNe, Int.reduceDiv, Int.reduceMod, Int.reduceEq, Int.reduceLT, Int.reduceLE, Int.reduceAdd, Int.reduceSub, Int.reduceMul, Int.reduceNeg, Int.reduceToNat, Int.reduceTDiv, Int.reduceTMod, ↓reduceIte, h1, h2, h7, h0, h8, hz, w1]
          exact ⟨k - 1, by omega, i + 1, acc, by omega, hold, by omega, by omega, rfl, rfl⟩
      · obtain ⟨b2, g2, rest2, rw2, hpe, kb2, _⟩ := hpk.ne (fun e => by rw [e] at hs; simp at hs)
        cases hpe
        obtain ⟨p0, hp0, hdr0⟩ := getD_some (show 0 < p.2.length by omega)
        have e : windP p.2 X Y = windFw X Y (plp p0) p.2 := windP_fw p.2 X Y p0 (p.2.drop 1) (by simpa using hdr0) hs
        rw [e] at hacc
        refine keep (fun k' T J D => D = [] ∧ ∃ (j : Nat) (ac : Int), j + k' = p.2.length ∧ Old K J ∧ K.length ≤ J.length ∧ ac + windFw X Y (plp p0) (p.2.drop j) = acc + windFw X Y (plp p0) p.2 ∧ T 1 = .int .i64 X ∧ T 2 = .int .i64 Y ∧ T 7 = .int .i64 (IntKind.i64.wrap ac) ∧ T 0 = sl b 0 g ps.length 2 ∧ T 8 = .int .i64 (i : Int) ∧ T 9 = sl b2 0 g2 p.2.length 2 ∧ T 10 = .int .i64 (j : Int)) p.2.length
          ⟨rfl, 0, acc, by omega, Old.refl _, by omega, rfl, by simp only [go_sem, Nat.reduceEqDiff, Nat.reduceAdd, Nat.reduceSub, Nat.reduceMul, Nat.reduceLT, Nat.reduceLeDiff, Int.reducePow, Int.reduceBEq, Int.reduceBNe, Int.reduceDiv, Int.reduceMod, Int.reduceEq, Int.reduceLT, Int.reduceLE, Int.reduceAdd, Int.reduceSub, Int.reduceMul, Int.reduceNeg, Int.reduceToNat, Int.reduceTDiv, Int.reduceTMod, ↓reduceIte, h1], by simp only [go_sem, Nat.reduceEqDiff, Nat.reduceAdd, Nat.reduceSub, Nat.reduceMul, Nat.reduceLT, Nat.reduceLeDiff, Int.reducePow, Int.reduceBEq, Int.reduceBNe, Int.reduceDiv, Int.reduceMod, Int.reduceEq, Int.reduceLT, Int.reduceLE, Int.reduceAdd, Int.reduceSub, Int.reduceMul, Int.reduceNeg, Int.reduceToNat, Int.reduceTDiv, Int.reduceTMod, ↓reduceIte, h2], by simp only [go_sem, Nat.reduceEqDiff, Nat.reduceAdd, Nat.reduceSub, Nat.reduceMul, Nat.reduceLT, Nat.reduceLeDiff, Int.reducePow, Int.reduceBEq, Int.reduceBNe, Int.reduceDiv, Int.reduceMod, Int.reduceEq, Int.reduceLT, Int.reduceLE, Int.reduceAdd, Int.reduceSub, Int.reduceMul, Int.reduceNeg, Int.reduceToNat, Int.reduceTDiv, Int.reduceTMod, ↓reduceIte, h7], by simp only [go_sem, Nat.reduceEqDiff, Nat.reduceAdd, Nat.reduceSub, Nat.reduceMul, Nat.reduceLT, Nat.reduceLeDiff, Int.reducePow, Int.reduceBEq, Int.reduceBNe, Int.reduceDiv, Int.reduceMod, Int.reduceEq, Int.reduceLT, Int.reduceLE, Int.reduceAdd, Int.reduceSub, Int.reduceMul, Int.reduceNeg, Int.reduceToNat, Int.reduceTDiv, Int.reduceTMod, ↓reduceIte, h0], by simp only [go_sem, Nat.reduceEqDiff, Nat.reduceAdd, Nat.reduceSub, Nat.reduceMul, Nat.reduceLT, Nat.reduceLeDiff, Int.reducePow, Int.reduceBEq, Int.reduceBNe, Int.reduceDiv, Int.reduceMod, Int.reduceEq, Int.reduceLT, Int.reduceLE, Int.reduceAdd, Int.reduceSub, Int.reduceMul, Int.reduceNeg, Int.reduceToNat, Int.reduceTDiv, Int.reduceTMod, ↓reduceIte, h8], by simp only [go_sem, Nat.reduceEqDiff, Nat.reduceAdd, Nat.reduceSub, Nat.reduceMul, Nat.reduceLT, Nat.reduceLeDiff, Int.reducePow, Int.reduceBEq, Int.reduceBNe, Int.reduceDiv, Int.reduceMod, Int.reduceEq, Int.reduceLT, Int.reduceLE, Int.reduceAdd, Int.reduceSub, Int.reduceMul, Int.reduceNeg, Int.reduceToNat, Int.reduceTDiv, Int.reduceTMod, ↓reduceIte], by simp only [go_sem, Nat.reduceEqDiff, Nat.reduceAdd, Nat.reduceSub, Nat.reduceMul, Nat.reduceLT, Nat.reduceLeDiff, Int.reducePow, Int.reduceBEq, Int.reduceBNe, Int.reduceDiv, Int.reduceMod, Int.reduceEq, Int.reduceLT, Int.reduceLE, Int.reduceAdd, Int.reduceSub, Int.reduceMul, Int.reduceNeg, Int.reduceToNat, Int.reduceTDiv, Int.reduceTMod, ↓reduceIte] <;> rfl⟩ ?_
        clear h1 h2 h7 h0 h8
        rintro k' T J D ⟨rfl, j, ac, hjk, hJ, hJl, hac, h1, h2, h7, h0, h8, h9, h10⟩
        have kd : ∀ n, decide (J.length + n < H.length) = false := fun n => df (by omega)
        have kd0 : decide (J.length < H.length) = false := df (by omega)
        have kb3 := hJ _ _ kb2
        by_cases hj : j < p.2.length
        · obtain ⟨r, hr, hdr2⟩ := getD_some hj
          have w3 : IntKind.i64.wrap ((j : Int) + 1) = ((j + 1 : Nat) : Int) := by rw [wi (by omega) (by omega)]; rfl
          have hjm : ((j + 1 : Nat) : Int).tmod (p.2.length : Int) = (((j + 1) % p.2.length : Nat) : Int) := by rw [Int.tmod_eq_emod_of_nonneg (by omega)]; rfl
          have hml : (j + 1) % p.2.length < p.2.length := Nat.mod_lt _ (by omega)
          obtain ⟨s, hs', _⟩ := getD_some hml
          have hstep := windFw_step X Y p.2 p0 j r s hp0 hr hdr2 hs' hj
          generalize (j + 1) % p.2.length = jm at *
          have lr := fun (c : Nat) => ald_pt (b := c) (g := g2) (rw_ := rw2) rest2 hr
          have ls := fun (c : Nat) => ald_pt (b := c) (g := g2) (rw_ := rw2) rest2 hs'
          rw [hstep] at hac
          have br := plp_b r
          have bs := plp_b s
          simp only [go_sem, Nat.reduceEqDiff, Nat.reduceAdd, Nat.reduceSub, Nat.reduceMul, Nat.reduceLT, Nat.reduceLeDiff, Int.reducePow, Int.reduceBEq, Int.reduceBNe, Int.reduceDiv, Int.reduceMod, Int.reduceEq, Int.reduceLT, Int.reduceLE, Int.reduceAdd, Int.reduceSub, Int.reduceMul, Int.reduceNeg, Int.reduceToNat, Int.reduceTDiv, Int.reduceTMod, ↓reduceIte, h1, h2, h7, h0, h8, h9, h10, dt (show (j : Int) < (p.2.length : Int) by omega), dt (show (2 : Int) ≤ (p.2.length : Int) by omega)]
          refine drawnU [(4, 14), (5, 14), (6, 14), (7, 14), (8, 14), (9, 14), (10, 14), (11, 14)] (by decide +kernel) ?_
          simp only [go_sem, Nat.reduceEqDiff, Nat.reduceAdd, Nat.reduceSub, Nat.reduceMul, Nat.reduceLT, Nat.reduceLeDiff, Int.reducePow, Int.reduceBEq, Int.reduceBNe, Int.reduceDiv, Int.reduceMod, Int.reduceEq, Int.reduceLT, Int.reduceLE, Int.reduceAdd, Int.reduceSub, Int.reduceMul, Int.reduceNeg, Int.reduceToNat, Int.reduceTDiv, Int.reduceTMod, ↓reduceIte, h1, h2, h7, h0, h8, h9, h10, q0, show (j : Int) < (p.2.length : Int) by omega, show (jm : Int) < (p.2.length : Int) by omega, show ((p.2.length : Int) = 0) = False from eq_false (by omega), w3, hjm, Int.toNat_natCast, Nat.zero_add, old_get kb3, kb3, lr, ls, kd, kd0, ptv, old_ne kb3, old_ne' kb3, old_ne0 kb3, old_ne0' kb3]
          have r1 := place_b r.1
          have r2 := place_b r.2
          have t1 := place_b s.1
          have t2 := place_b s.2
          have hsw : sideW (plp r) (plp s) X Y = (if decide (place r.2 ≤ Y) = decide (place s.2 ≤ Y) then 0 else if place r.2 ≤ Y ∧ 0 < (place s.1 - place r.1) * (Y - place r.2) - (X - place r.1) * (place s.2 - place r.2) then 1 else if place s.2 ≤ Y ∧ (place s.1 - place r.1) * (Y - place r.2) - (X - place r.1) * (place s.2 - place r.2) < 0 then -1 else 0) := rfl
          have m1 := mul_bb (a := place s.1 - place r.1) (b := Y - place r.2) (by omega) (by omega)
          have m2 := mul_bb (a := X - place r.1) (b := place s.2 - place r.2) (by omega) (by omega)
          have v1 : IntKind.i64.wrap (place s.1 - place r.1) = place s.1 - place r.1 := wi (by omega) (by omega)
          have v2 : IntKind.i64.wrap (Y - place r.2) = Y - place r.2 := wi (by omega) (by omega)
          have v3 : IntKind.i64.wrap (X - place r.1) = X - place r.1 := wi (by omega) (by omega)
          have v4 : IntKind.i64.wrap (place s.2 - place r.2) = place s.2 - place r.2 := wi (by omega) (by omega)
          have v5 : IntKind.i64.wrap ((place s.1 - place r.1) * (Y - place r.2)) = (place s.1 - place r.1) * (Y - place r.2) := wi (by omega) (by omega)
          have v6 : IntKind.i64.wrap ((X - place r.1) * (place s.2 - place r.2)) = (X - place r.1) * (place s.2 - place r.2) := wi (by omega) (by omega)
          have v7 : IntKind.i64.wrap ((place s.1 - place r.1) * (Y - place r.2) - (X - place r.1) * (place s.2 - place r.2)) = (place s.1 - place r.1) * (Y - place r.2) - (X - place r.1) * (place s.2 - place r.2) := wi (by omega) (by omega)
          have u1 := wrap_add ac 1
          have u2 := wrap_sub ac 1
          repeat ((first | refine (rplace_ _ _).x ?_ | refine drawnF ?_ (by decide +kernel) | refine drawnU [(4, 14), (5, 14), (6, 14), (7, 14), (8, 14), (9, 14), (10, 14), (11, 14)] (by decide +kernel) ?_ | refine drawnU [(2, 3), (2, 4)] (by decide +kernel) ?_); simp only [go_sem, Nat.reduceEqDiff, Nat.reduceAdd, Nat.reduceSub, Nat.reduceMul, Nat.reduceLT, Nat.reduceLeDiff, Int.reducePow, Int.reduceBEq, Int.reduceBNe, Int.reduceDiv, Int.reduceMod, Int.reduceEq, Int.reduceLT, Int.reduceLE, Int.reduceAdd, Int.reduceSub, Int.reduceMul, Int.reduceNeg, Int.reduceToNat, Int.reduceTDiv, Int.reduceTMod, ↓reduceIte, h1, h2, h7, h0, h8, h9, h10, v1, v2, v3, v4, v5, v6, v7])
          generalize (place s.1 - place r.1) * (Y - place r.2) - (X - place r.1) * (place s.2 - place r.2) = d at *
          by_cases c1 : place r.2 ≤ Y
          · by_cases c2 : place s.2 ≤ Y
            · rw [if_pos (by rw [dt c1, dt c2])] at hsw
              rw [hsw] at hac
              simp only [go_sem, Nat.reduceEqDiff, Nat.reduceAdd, Nat.reduceSub, Nat.reduceMul, Nat.reduceLT, Nat.reduceLeDiff, Int.reducePow, Int.reduceBEq, Int.reduceBNe, Int.reduceDiv, Int.reduceMod, Int.reduceEq, Int.reduceLT, Int.reduceLE, Int.reduceAdd, Int.reduceSub, Int.reduceMul, Int.reduceNeg, Int.reduceToNat, Int.reduceTDiv, Int.reduceTMod, ↓reduceIte, h1, h2, h7, h0, h8, h9, h10, w3, u1, u2, dt c1, dt c2, df (show ¬ Y < place s.2 by omega), df (show ¬ Y < place r.2 by omega)]
              exact ⟨k' - 1, by omega, j + 1, ac, by omega, hJ.app _, by omega, by omega, rfl, rfl⟩
            · rw [if_neg (by rw [dt c1, df c2]; decide)] at hsw
              by_cases c3 : 0 < d
              · rw [if_pos ⟨c1, c3⟩] at hsw
                rw [hsw] at hac
                simp only [go_sem, Nat.reduceEqDiff, Nat.reduceAdd, Nat.reduceSub, Nat.reduceMul, Nat.reduceLT, Nat.reduceLeDiff, Int.reducePow, Int.reduceBEq, Int.reduceBNe, Int.reduceDiv, Int.reduceMod, Int.reduceEq, Int.reduceLT, Int.reduceLE, Int.reduceAdd, Int.reduceSub, Int.reduceMul, Int.reduceNeg, Int.reduceToNat, Int.reduceTDiv, Int.reduceTMod, ↓reduceIte, h1, h2, h7, h0, h8, h9, h10, w3, u1, u2, dt c1, df c2, dt (show Y < place s.2 by omega), dt c3]
                exact ⟨k' - 1, by omega, j + 1, ac + 1, by omega, hJ.app _, by omega, by omega, rfl, rfl⟩
              · rw [if_neg (fun h => c3 h.2), if_neg (fun h => c2 h.1)] at hsw
                rw [hsw] at hac
                simp only [go_sem, Nat.reduceEqDiff, Nat.reduceAdd, Nat.reduceSub, Nat.reduceMul, Nat.reduceLT, Nat.reduceLeDiff, Int.reducePow, Int.reduceBEq, Int.reduceBNe, Int.reduceDiv, Int.reduceMod, Int.reduceEq, Int.reduceLT, Int.reduceLE, Int.reduceAdd, Int.reduceSub, Int.reduceMul, Int.reduceNeg, Int.reduceToNat, Int.reduceTDiv, Int.reduceTMod, ↓reduceIte, h1, h2, h7, h0, h8, h9, h10, w3, u1, u2, dt c1, df c2, dt (show Y < place s.2 by omega), df c3]
                exact ⟨k' - 1, by omega, j + 1, ac, by omega, hJ.app _, by omega, by omega, rfl, rfl⟩
          · by_cases c2 : place s.2 ≤ Y
            · rw [if_neg (by rw [df c1, dt c2]; decide), if_neg (fun h => c1 h.1)] at hsw
              by_cases c3 : d < 0
              · rw [if_pos ⟨c2, c3⟩] at hsw
                rw [hsw] at hac
                simp only [go_sem, Nat.reduceEqDiff, Nat.reduceAdd, Nat.reduceSub, Nat.reduceMul, Nat.reduceLT, Nat.reduceLeDiff, Int.reducePow, Int.reduceBEq, Int.reduceBNe, Int.reduceDiv, Int.reduceMod, Int.reduceEq, Int.reduceLT, Int.reduceLE, Int.reduceAdd, Int.reduceSub, Int.reduceMul, Int.reduceNeg, Int.reduceToNat, Int.reduceTDiv, Int.reduceTMod, ↓reduceIte, h1, h2, h7, h0, h8, h9, h10, w3, u1, u2, df c1, dt c2, dt (show Y < place r.2 by omega), dt c3]
                exact ⟨k' - 1, by omega, j + 1, ac - 1, by omega, hJ.app _, by omega, by omega, rfl, rfl⟩
              · rw [if_neg (fun h => c3 h.2)] at hsw
                rw [hsw] at hac
                simp only [go_sem, Nat.reduceEqDiff, Nat.reduceAdd, Nat.reduceSub, Nat.reduceMul, Nat.reduceLT, Nat.reduceLeDiff, Int.reducePow, Int.reduceBEq, Int.reduceBNe, Int.reduceDiv, Int.reduceMod, Int.reduceEq, Int.reduceLT, Int.reduceLE, Int.reduceAdd, Int.reduceSub, Int.reduceMul, Int.reduceNeg, Int.reduceToNat, Int.reduceTDiv, Int.reduceTMod, ↓reduceIte, h1, h2, h7, h0, h8, h9, h10, w3, u1, u2, df c1, dt c2, dt (show Y < place r.2 by omega), df c3]
                exact ⟨k' - 1, by omega, j + 1, ac, by omega, hJ.app _, by omega, by omega, rfl, rfl⟩
            · rw [if_pos (by rw [df c1, df c2])] at hsw
              rw [hsw] at hac
              simp only [go_sem, Nat.reduceEqDiff, Nat.reduceAdd, Nat.reduceSub, Nat.reduceMul, Nat.reduceLT, Nat.reduceLeDiff, Int.reducePow, Int.reduceBEq, Int.reduceBNe, Int.reduceDiv, Int.reduceMod, Int.reduceEq, Int.reduceLT, Int.reduceLE, Int.reduceAdd, Int.reduceSub, Int.reduceMul, Int.reduceNeg, Int.reduceToNat, Int.reduceTDiv, Int.reduceTMod, ↓reduceIte, h1, h2, h7, h0, h8, h9, h10, w3, u1, u2, df c1, df c2]
              exact ⟨k' - 1, by omega, j + 1, ac, by omega, hJ.app _, by omega, by omega, rfl, rfl⟩
        · have : p.2.drop j = [] := List.drop_eq_nil_of_le (by omega)
          rw [this] at hac
          simp only [windFw] at hac
          simp only [go_sem, Nat.reduceEqDiff, Nat.reduceAdd, Nat.reduceSub, Nat.reduceMul, Nat.reduceLT, Nat.reduceLeDiff, Int.reducePow, Int.reduceBEq, Int.reduceBNe, Int.reduceDiv, Int.reduceMod, Int.reduceEq, Int.reduceLT, Int.reduceLE, Int.reduceAdd, Int.reduceSub, Int.reduceMul, Int.reduceNeg, Int.reduceToNat, Int.reduceTDiv, Int.reduceTMod, ↓reduceIte, h1, h2, h7, h0, h8, h9, h10, df (show ¬ (j : Int) < (p.2.length : Int) by omega), w1]
          exact ⟨k - 1, by omega, i + 1, ac, by omega, hold.trans hJ, by omega, by omega, rfl, rfl⟩
    · have : ps.drop i = [] := List.drop_eq_nil_of_le (by omega)
      rw [this] at hacc
      simp only [go_sem, Nat.reduceEqDiff, Nat.reduceAdd, Nat.reduceSub, Nat.reduceMul, Nat.reduceLT, Nat.reduceLeDiff, Int.reducePow, Int.reduceBEq, Int.reduceBNe, Int.reduceDiv, Int.reduceMod, Int.reduceEq, Int.reduceLT, Int.reduceLE, Int.reduceAdd, Int.reduceSub, Int.reduceMul, Int.reduceNeg, Int.reduceToNat, Int.reduceTDiv, Int.reduceTMod, ↓reduceIte, h1, h2, h7, h0, h8, df (show ¬ (i : Int) < (ps.length : Int) by omega)]
      rw [← hacc]
      simp [windL]
end Go.Proofs.Ythoclopeajkcpaa
/- Chapter 15: the plain law: polys whose boxes don't hold a pixel don't go round its places. -/
namespace Go.Proofs.Ythoclopeajkcpaa
open Go Go.RowKit E
set_option linter.unusedSimpArgs false
set_option linter.unusedVariables false
theorem place_place (a : Int) : place (place a) = place a := place_in (place_b a).1 (place_b a).2
theorem plp_plp (p : Pt) : plp (plp p) = plp p := by unfold plp; rw [place_place, place_place]
theorem windGo_map (x y : Int) : ∀ (l : List Pt) (a : Pt), windGo x y a (l.map plp) = windGo x y a l
  | [], a => rfl
  | p :: t, a => by simp only [List.map_cons, windGo, plp_plp, windGo_map x y t]
theorem windP_map (l : List Pt) (x y : Int) : windP (l.map plp) x y = windP l x y := by
  unfold windP
  rw [List.length_map, windGo_map]
  by_cases h : l.length < 2
  · rw [if_pos h, if_pos h]
  · rw [if_neg h, if_neg h, List.getElem?_map, List.getElem?_eq_getElem (by omega)]
    simp only [Option.map_some, Option.getD_some, plp_plp]
theorem crs_def (p q : Pt) (x y : Int) : crs p q x y = (q.1 - x) * (y - p.2) + (p.1 - x) * (q.2 - y) := by
  unfold crs
  rw [show q.1 - p.1 = (q.1 - x) - (p.1 - x) by omega, show q.2 - p.2 = (y - p.2) + (q.2 - y) by omega, show x - p.1 = -(p.1 - x) by omega]
  rw [Int.sub_mul, Int.mul_add, Int.neg_mul, Int.neg_mul]; omega
def hhv (p : Pt) (y : Int) : Int := if p.2 ≤ y then 0 else 1
theorem sideW_flat {p q : Pt} {x y : Int} (h : y < p.2 ∧ y < q.2 ∨ p.2 ≤ y ∧ q.2 ≤ y) : sideW p q x y = 0 := by
  unfold sideW
  rw [if_pos]
  rcases h with ⟨h1, h2⟩ | ⟨h1, h2⟩
  · rw [df (by omega), df (by omega)]
  · rw [dt h1, dt h2]
theorem sideW_left {p q : Pt} {x y : Int} (h1 : p.1 < x) (h2 : q.1 < x) : sideW p q x y = 0 := by
  by_cases hf : y < p.2 ∧ y < q.2 ∨ p.2 ≤ y ∧ q.2 ≤ y
  · exact sideW_flat hf
  have e := crs_def p q x y
  unfold sideW
  rw [if_neg (by by_cases h : p.2 ≤ y
                 · rw [dt h, df (by omega)]; decide
                 · rw [df h, dt (by omega)]; decide)]
  by_cases h : p.2 ≤ y
  · have m1 := Int.mul_nonneg (show 0 ≤ x - q.1 by omega) (show 0 ≤ y - p.2 by omega)
    have m2 := Int.mul_nonneg (show 0 ≤ x - p.1 by omega) (show 0 ≤ q.2 - y by omega)
    rw [show x - q.1 = -(q.1 - x) by omega, Int.neg_mul] at m1
    rw [show x - p.1 = -(p.1 - x) by omega, Int.neg_mul] at m2
    rw [if_neg (by omega), if_neg (by omega)]
  · have m1 := Int.mul_nonneg (show 0 ≤ x - q.1 by omega) (show 0 ≤ p.2 - y by omega)
    have m2 := Int.mul_nonneg (show 0 ≤ x - p.1 by omega) (show 0 ≤ y - q.2 by omega)
    rw [show x - q.1 = -(q.1 - x) by omega, show p.2 - y = -(y - p.2) by omega, Int.neg_mul, Int.mul_neg] at m1
    rw [show x - p.1 = -(p.1 - x) by omega, show y - q.2 = -(q.2 - y) by omega, Int.neg_mul, Int.mul_neg] at m2
    rw [if_neg (by omega), if_neg (by omega)]
theorem sideW_right {p q : Pt} {x y : Int} (h1 : x < p.1) (h2 : x < q.1) : sideW p q x y = hhv q y - hhv p y := by
  by_cases hf : y < p.2 ∧ y < q.2 ∨ p.2 ≤ y ∧ q.2 ≤ y
  · rw [sideW_flat hf]
    unfold hhv
    rcases hf with ⟨h1, h2⟩ | ⟨h1, h2⟩
    · rw [if_neg (by omega), if_neg (by omega)]; rfl
    · rw [if_pos h1, if_pos h2]; rfl
  have e := crs_def p q x y
  unfold sideW hhv
  rw [if_neg (by by_cases h : p.2 ≤ y
                 · rw [dt h, df (by omega)]; decide
                 · rw [df h, dt (by omega)]; decide)]
  by_cases h : p.2 ≤ y
  · have m1 := Int.mul_nonneg (show 0 ≤ q.1 - x by omega) (show 0 ≤ y - p.2 by omega)
    have m2 := Int.mul_pos (show 0 < p.1 - x by omega) (show 0 < q.2 - y by omega)
    rw [if_pos ⟨h, by omega⟩, if_neg (show ¬ q.2 ≤ y by omega), if_pos h]; rfl
  · have m1 := Int.mul_pos (show 0 < q.1 - x by omega) (show 0 < p.2 - y by omega)
    have m2 := Int.mul_nonneg (show 0 ≤ p.1 - x by omega) (show 0 ≤ y - q.2 by omega)
    rw [show p.2 - y = -(y - p.2) by omega, Int.mul_neg] at m1
    rw [show y - q.2 = -(q.2 - y) by omega, Int.mul_neg] at m2
    rw [if_neg (by omega), if_pos ⟨by omega, by omega⟩, if_pos (show q.2 ≤ y by omega), if_neg h]; rfl
def lst : Pt → List Pt → Pt
  | a, [] => a
  | _, p :: t => lst (plp p) t
theorem lst_last : ∀ (l : List Pt) (a : Pt), ¬ l = [] → lst a l = plp ((l[l.length - 1]?).getD (0, 0))
  | [], a, h => absurd rfl h
  | [p], a, _ => rfl
  | p :: q :: t, a, _ => by
    rw [lst, lst_last (q :: t) _ (by simp)]
    simp only [List.length_cons, Nat.add_sub_cancel, List.getElem?_cons_succ]
theorem windGo_flat (x y : Int) : ∀ (l : List Pt) (a : Pt), (∀ p ∈ a :: l.map plp, y < p.2) ∨ (∀ p ∈ a :: l.map plp, p.2 ≤ y) → windGo x y a l = 0
  | [], a, _ => rfl
  | p :: t, a, h => by
    have h0 : windGo x y (plp p) t = 0 := windGo_flat x y t (plp p) (h.imp (fun k q hq => k q (List.mem_cons_of_mem _ hq)) (fun k q hq => k q (List.mem_cons_of_mem _ hq)))
    rw [windGo, h0, sideW_flat]; rfl
    exact h.imp (fun k => ⟨k a (by simp), k (plp p) (by simp)⟩) (fun k => ⟨k a (by simp), k (plp p) (by simp)⟩)
theorem windGo_left (x y : Int) : ∀ (l : List Pt) (a : Pt), (∀ p ∈ a :: l.map plp, p.1 < x) → windGo x y a l = 0
  | [], a, _ => rfl
  | p :: t, a, h => by
    rw [windGo, windGo_left x y t (plp p) (fun q hq => h q (List.mem_cons_of_mem _ hq)), sideW_left (h a (by simp)) (h (plp p) (by simp))]; rfl
theorem windGo_right (x y : Int) : ∀ (l : List Pt) (a : Pt), (∀ p ∈ a :: l.map plp, x < p.1) → windGo x y a l = hhv (lst a l) y - hhv a y
  | [], a, _ => by simp only [windGo, lst]; omega
  | p :: t, a, h => by
    rw [windGo, windGo_right x y t (plp p) (fun q hq => h q (List.mem_cons_of_mem _ hq)), sideW_right (h a (by simp)) (h (plp p) (by simp)), lst]; omega
/-- All on one side: not round. -/
theorem windP_out (l : List Pt) (x y : Int) (h : (∀ p ∈ l, y < (plp p).2) ∨ (∀ p ∈ l, (plp p).2 ≤ y) ∨ (∀ p ∈ l, (plp p).1 < x) ∨ (∀ p ∈ l, x < (plp p).1)) : windP l x y = 0 := by
  unfold windP
  by_cases hl : l.length < 2
  · rw [if_pos hl]
  · rw [if_neg hl]
    have hn : ¬ l = [] := fun e => by rw [e] at hl; simp at hl
    have hla := lst_last l (plp ((l[l.length - 1]?).getD (0, 0))) hn
    have hm : (l[l.length - 1]?).getD (0, 0) ∈ l := by rw [List.getElem?_eq_getElem (by omega)]; exact List.getElem_mem _
    generalize (l[l.length - 1]?).getD (0, 0) = z at *
    have lift : ∀ (P : Pt → Prop), (∀ p ∈ l, P (plp p)) → ∀ p ∈ plp z :: l.map plp, P p := fun P k p hp => by
      rcases List.mem_cons.1 hp with rfl | hp
      · exact k z hm
      · obtain ⟨q, hq, rfl⟩ := List.mem_map.1 hp; exact k q hq
    rcases h with h | h | h | h
    · exact windGo_flat x y l _ (.inl (lift (fun p => y < p.2) h))
    · exact windGo_flat x y l _ (.inr (lift (fun p => p.2 ≤ y) h))
    · exact windGo_left x y l _ (lift (fun p => p.1 < x) h)
    · rw [windGo_right x y l _ (lift (fun p => x < p.1) h), hla]; omega
def covP (p : PL) : PL := (false, p.2.map plp)
def rowIn (y : Int) (p : PL) : Bool := decide ((boxOf [p]).y0 ≤ y) && decide (y < (boxOf [p]).y1)
def colIn (x : Int) (p : PL) : Bool := decide ((boxOf [p]).x0 ≤ x) && decide (x < (boxOf [p]).x1)
def lineL (ps : List PL) (y : Int) : List PL := (ps.map covP).filter (rowIn y)
def keptL (ps : List PL) (x y : Int) : List PL := (lineL ps y).filter (colIn x)
theorem box_pt (p : PL) (q : Pt) (h : q ∈ p.2) : cov (boxOf [p]) (pbx q) := by
  rw [boxOf_flat]
  exact (fold_cov _ _).2 q (by simpa using h)
theorem drop_out (p : PL) (x y X Y : Int) (hX : x * 65536 < X ∧ X < x * 65536 + 65536) (hY : y * 65536 ≤ Y ∧ Y < y * 65536 + 65536) (hc : ¬ (rowIn y (covP p) = true ∧ colIn x (covP p) = true)) : windP p.2 X Y = 0 := by
  have hb : ∀ q ∈ p.2, cov (boxOf [covP p]) (pbx (plp q)) := fun q hq => box_pt _ _ (List.mem_map_of_mem hq)
  unfold rowIn colIn at hc
  simp only [Bool.and_eq_true, decide_eq_true_eq] at hc
  generalize boxOf [covP p] = B at *
  have hu : ∀ a : Int, a ≤ upS a * 65536 := fun a => by unfold upS; omega
  by_cases h1 : B.y0 ≤ y
  · by_cases h2 : y < B.y1
    · by_cases h3 : B.x0 ≤ x
      · by_cases h4 : x < B.x1
        · exact absurd ⟨⟨h1, h2⟩, h3, h4⟩ hc
        · refine windP_out _ _ _ (.inr (.inr (.inl fun q hq => ?_)))
          have := hb q hq
          have := hu (plp q).1
          simp only [cov, pbx] at *
          omega
      · refine windP_out _ _ _ (.inr (.inr (.inr fun q hq => ?_)))
        have := hb q hq
        simp only [cov, pbx] at this
        omega
    · refine windP_out _ _ _ (.inr (.inl fun q hq => ?_))
      have := hb q hq
      have := hu (plp q).2
      simp only [cov, pbx] at *
      omega
  · refine windP_out _ _ _ (.inl fun q hq => ?_)
    have := hb q hq
    simp only [cov, pbx] at this
    omega
theorem windL_kept (x y X Y : Int) (hX : x * 65536 < X ∧ X < x * 65536 + 65536) (hY : y * 65536 ≤ Y ∧ Y < y * 65536 + 65536) : ∀ (ps : List PL), windL (keptL ps x y) X Y = windL ps X Y
  | [] => rfl
  | p :: t => by
    have ih := windL_kept x y X Y hX hY t
    have e : keptL (p :: t) x y = if rowIn y (covP p) = true ∧ colIn x (covP p) = true then covP p :: keptL t x y else keptL t x y := by
      unfold keptL lineL
      rw [List.map_cons, List.filter_cons]
      by_cases h1 : rowIn y (covP p) = true
      · rw [if_pos h1, List.filter_cons]
        by_cases h2 : colIn x (covP p) = true
        · rw [if_pos h2, if_pos ⟨h1, h2⟩]
        · rw [if_neg h2, if_neg (fun h => h2 h.2)]
      · rw [if_neg h1, if_neg (fun h => h1 h.1)]
    rw [e]
    by_cases hc : rowIn y (covP p) = true ∧ colIn x (covP p) = true
    · rw [if_pos hc, windL, windL, ih]
      show windP (p.2.map plp) X Y + _ = _
      rw [windP_map]
    · rw [if_neg hc, windL, ih, drop_out p x y X Y hX hY hc]; omega
def cntK (g : Nat → Bool) : Nat → Int
  | 0 => 0
  | n + 1 => cntK g n + if g n = true then 1 else 0
theorem cntK_b (g : Nat → Bool) : ∀ n, 0 ≤ cntK g n ∧ cntK g n ≤ n
  | 0 => by simp [cntK]
  | n + 1 => by have := cntK_b g n; rw [cntK]; split <;> omega
theorem cntK_congr {g g' : Nat → Bool} : ∀ {n : Nat}, (∀ k, k < n → g k = g' k) → cntK g n = cntK g' n
  | 0, _ => rfl
  | n + 1, h => by rw [cntK, cntK, cntK_congr (fun k hk => h k (by omega)), h n (by omega)]
/-- The k-th place of a pixel. -/
def smp (ps : List PL) (rule x y : Int) (k : Nat) : Bool := withB (IntKind.i64.wrap (windL ps (x * 65536 + 8192 + ((k % 4 : Nat) : Int) * 16384) (y * 65536 + 8192 + ((k / 4 : Nat) : Int) * 16384))) rule
def covN (ps : List PL) (rule x y : Int) : Int := cntK (smp ps rule x y) 16
def covA (ps : List PL) (rule x y : Int) : Int := if (thereB x && thereB y) = true then covN ps rule x y else 0
theorem covN_kept (ps : List PL) (rule x y : Int) : covN (keptL ps x y) rule x y = covN ps rule x y :=
  cntK_congr fun k hk => by unfold smp; rw [windL_kept x y _ _ (by omega) (by omega)]
theorem withB_0 (rule : Int) : withB (IntKind.i64.wrap 0) rule = false := by
  rw [wrap_0]; unfold withB; split
  · rfl
  · split <;> rfl
theorem covN_nil (rule x y : Int) : covN [] rule x y = 0 := by
  have : ∀ n, cntK (smp [] rule x y) n = 0 := fun n => by
    induction n with
    | zero => rfl
    | succ n ih => rw [cntK, ih]; unfold smp; rw [windL, withB_0]; rfl
  exact this 16
end Go.Proofs.Ythoclopeajkcpaa
/- Chapter 15: the walk of placed polys. -/
namespace Go.Proofs.Ythoclopeajkcpaa
open Go Go.RowKit E
attribute [local irreducible] XRun XOps XCode XCal XLoop XQ SemCall
set_option linter.unusedSimpArgs false
set_option linter.unusedVariables false
theorem small_q {o : List Pt} (h : o.length + 1 ≤ 8796093022208) : o.length * 2 = (ptC o).length ∧ (o.length + 1) * 16 - 140737488355328 = 0 ∧ o.length + 1 - 140737488355328 = 0 :=
  ⟨(ptC_len o).symm, Nat.sub_eq_zero_of_le (Nat.le_trans (Nat.mul_le_mul_right 16 h) (by decide)), Nat.sub_eq_zero_of_le (Nat.le_trans h (by decide))⟩
theorem cplaced_ (ps : List PL) (v : Value) (H : AH) (h : Polys H v ps) (hl : ps.length ≤ 100000) (hl2 : ∀ x ∈ ps, x.2.length ≤ 8796093021952) : Cal Try.prog 88 [v] H fun v' H' W => W = [] ∧ (∃ L, H' = H ++ L) ∧ OutP H.length H' v' (ps.map covP) := by
  refine adds_of ?_
  by_cases hn : ps = []
  · obtain ⟨a, e, rfl⟩ := h.form
    subst hn
    refine XCal.of hm Try.func88 rfl (fun xs w => Try.call88 xs w) Try.ntmps88 Try.results88 rfl ?_
    simp only [go_sem, Nat.reduceEqDiff, Nat.reduceAdd, Nat.reduceSub, Nat.reduceMul, Nat.reduceLT, Nat.reduceLeDiff, Int.reducePow, Int.reduceBEq, Int.reduceBNe, Int.reduceDiv, Int.reduceMod, Int.reduceEq, Int.reduceLT, Int.reduceLE, Int.reduceAdd, Int.reduceSub, Int.reduceMul, Int.reduceNeg, Int.reduceToNat, Int.reduceTDiv, Int.reduceTMod, ↓reduceIte]
    refine rounds 1 ?_
    simp only [go_sem, Nat.reduceEqDiff, Nat.reduceAdd, Nat.reduceSub, Nat.reduceMul, Nat.reduceLT, Nat.reduceLeDiff, Int.reducePow, Int.reduceBEq, Int.reduceBNe, Int.reduceDiv, Int.reduceMod, Int.reduceEq, Int.reduceLT, Int.reduceLE, Int.reduceAdd, Int.reduceSub, Int.reduceMul, Int.reduceNeg, Int.reduceToNat, Int.reduceTDiv, Int.reduceTMod, ↓reduceIte, List.length_nil, show ((0 : Nat) : Int) = 0 from rfl]
    exact .inl ⟨rfl, rfl⟩
  · obtain ⟨b, g, rest, rw_, vs, rfl, hb, hvl, hlen, hel⟩ := h.ne hn
    refine XCal.of hm Try.func88 rfl (fun xs w => Try.call88 xs w) Try.ntmps88 Try.results88 rfl ?_
    simp only [go_sem, Nat.reduceEqDiff, Nat.reduceAdd, Nat.reduceSub, Nat.reduceMul, Nat.reduceLT, Nat.reduceLeDiff, Int.reducePow, Int.reduceBEq, Int.reduceBNe, Int.reduceDiv, Int.reduceMod, Int.reduceEq, Int.reduceLT, Int.reduceLE, Int.reduceAdd, Int.reduceSub, Int.reduceMul, Int.reduceNeg, Int.reduceToNat, Int.reduceTDiv, Int.reduceTMod, ↓reduceIte]
    refine keep (fun k T K D => D = [] ∧ ∃ (i : Nat), i + k = ps.length ∧ Old H K ∧ H.length ≤ K.length ∧ T 9 = sl b 0 g ps.length 2 ∧ T 10 = .int .i64 (ps.length : Int) ∧ T 11 = .int .i64 (i : Int) ∧ OutP H.length K (T 3) ((ps.map covP).take i)) ps.length
      ⟨rfl, 0, by omega, Old.refl _, by omega, by simp only [go_sem, Nat.reduceEqDiff, Nat.reduceAdd, Nat.reduceSub, Nat.reduceMul, Nat.reduceLT, Nat.reduceLeDiff, Int.reducePow, Int.reduceBEq, Int.reduceBNe, Int.reduceDiv, Int.reduceMod, Int.reduceEq, Int.reduceLT, Int.reduceLE, Int.reduceAdd, Int.reduceSub, Int.reduceMul, Int.reduceNeg, Int.reduceToNat, Int.reduceTDiv, Int.reduceTMod, ↓reduceIte], by simp only [go_sem, Nat.reduceEqDiff, Nat.reduceAdd, Nat.reduceSub, Nat.reduceMul, Nat.reduceLT, Nat.reduceLeDiff, Int.reducePow, Int.reduceBEq, Int.reduceBNe, Int.reduceDiv, Int.reduceMod, Int.reduceEq, Int.reduceLT, Int.reduceLE, Int.reduceAdd, Int.reduceSub, Int.reduceMul, Int.reduceNeg, Int.reduceToNat, Int.reduceTDiv, Int.reduceTMod, ↓reduceIte], by simp only [go_sem, Nat.reduceEqDiff, Nat.reduceAdd, Nat.reduceSub, Nat.reduceMul, Nat.reduceLT, Nat.reduceLeDiff, Int.reducePow, Int.reduceBEq, Int.reduceBNe, Int.reduceDiv, Int.reduceMod, Int.reduceEq, Int.reduceLT, Int.reduceLE, Int.reduceAdd, Int.reduceSub, Int.reduceMul, Int.reduceNeg, Int.reduceToNat, Int.reduceTDiv, Int.reduceTMod, ↓reduceIte] <;> rfl, .inl ⟨rfl, by simp only [go_sem, Nat.reduceEqDiff, Nat.reduceAdd, Nat.reduceSub, Nat.reduceMul, Nat.reduceLT, Nat.reduceLeDiff, Int.reducePow, Int.reduceBEq, Int.reduceBNe, Int.reduceDiv, Int.reduceMod, Int.reduceEq, Int.reduceLT, Int.reduceLE, Int.reduceAdd, Int.reduceSub, Int.reduceMul, Int.reduceNeg, Int.reduceToNat, Int.reduceTDiv, Int.reduceTMod, ↓reduceIte] <;> rfl⟩⟩ ?_
    rintro k T K D ⟨rfl, i, hik, hold, hKl, h11, h12, h13, hO⟩
    by_cases hk : i < ps.length
    · obtain ⟨x, hxi, hdr⟩ := getD_some hk
      obtain ⟨pv, hvi, hp⟩ := hel i x hxi
      have hld := fun (b : Nat) => ald_pl (b := b) (g := g) (rw_ := rw_) rest hvi
      have q0 : (0 : Int) ≤ (i : Int) := by omega
      have q1 : (i : Int) < (ps.length : Int) := by omega
      have w1 : IntKind.i64.wrap ((i : Int) + 1) = ((i + 1 : Nat) : Int) := by rw [wi (by omega) (by omega)]; rfl
      have kb := hold _ _ hb
      have hpk := hp.old hold
      have htk : (ps.map covP).take (i + 1) = (ps.map covP).take i ++ [(false, x.2.map plp)] := by rw [List.take_add_one, List.getElem?_map, hxi]; rfl
      have hle : ((ps.map covP).take i).length = i := by rw [List.length_take, List.length_map]; omega
      have hs := small_p (n := i) (k := 1) (by omega) (by omega)
      have kd : ∀ n, decide (K.length + n < H.length) = false := fun n => df (by omega)
      have kd0 : decide (K.length < H.length) = false := df (by omega)
      have hxl := hl2 x (List.mem_of_getElem? hxi)
      generalize hT5 : T 3 = t5 at *
      obtain ⟨a1, e1, hpe⟩ := hp.form
      subst hpe
      simp only [go_sem, Nat.reduceEqDiff, Nat.reduceAdd, Nat.reduceSub, Nat.reduceMul, Nat.reduceLT, Nat.reduceLeDiff, Int.reducePow, Int.reduceBEq, Int.reduceBNe, Int.reduceDiv, Int.reduceMod, Int.reduceEq, Int.reduceLT, Int.reduceLE, Int.reduceAdd, Int.reduceSub, Int.reduceMul, Int.reduceNeg, Int.reduceToNat, Int.reduceTDiv, Int.reduceTMod, ↓reduceIte, h11, h12, h13, hT5, dt q1, q0, q1, Int.toNat_natCast, Nat.zero_add, kb, hld, kd, kd0]
      refine keep (fun k' T H' D => D = [] ∧ ∃ (j : Nat) (slv : Value) (G : AH), j + k' = x.2.length ∧ H' = K ++ (⟨[.bool x.1, .slice a1 x.2.length e1], 0, true⟩ :: ⟨[.bool false, slv], 0, true⟩ :: G) ∧ T 3 = t5 ∧ T 6 = ap (K.length + 1) 0 0 ∧ T 9 = sl b 0 g ps.length 2 ∧ T 10 = .int .i64 (ps.length : Int) ∧ T 11 = .int .i64 (i : Int) ∧ T 16 = .slice a1 x.2.length e1 ∧ T 17 = .int .i64 (x.2.length : Int) ∧ T 18 = .int .i64 (j : Int) ∧
          ((j = 0 ∧ slv = .slice none 0 0 ∧ G = []) ∨ ∃ g1 X Y G', 0 < j ∧ slv = sl (K.length + 4) 0 g1 j 2 ∧ G = X :: Y :: ⟨ptC ((x.2.map plp).take j), g1, true⟩ :: G')) x.2.length
        ⟨rfl, 0, _, [], by omega, rfl, by simp only [go_sem, Nat.reduceEqDiff, Nat.reduceAdd, Nat.reduceSub, Nat.reduceMul, Nat.reduceLT, Nat.reduceLeDiff, Int.reducePow, Int.reduceBEq, Int.reduceBNe, Int.reduceDiv, Int.reduceMod, Int.reduceEq, Int.reduceLT, Int.reduceLE, Int.reduceAdd, Int.reduceSub, Int.reduceMul, Int.reduceNeg, Int.reduceToNat, Int.reduceTDiv, Int.reduceTMod, ↓reduceIte, hT5], by simp only [go_sem, Nat.reduceEqDiff, Nat.reduceAdd, Nat.reduceSub, Nat.reduceMul, Nat.reduceLT, Nat.reduceLeDiff, Int.reducePow, Int.reduceBEq, Int.reduceBNe, Int.reduceDiv, Int.reduceMod, Int.reduceEq, Int.reduceLT, Int.reduceLE, Int.reduceAdd, Int.reduceSub, Int.reduceMul, Int.reduceNeg, Int.reduceToNat, Int.reduceTDiv, Int.reduceTMod, ↓reduceIte], by simp only [go_sem, Nat.reduceEqDiff, Nat.reduceAdd, Nat.reduceSub, Nat.reduceMul, Nat.reduceLT, Nat.reduceLeDiff, Int.reducePow, Int.reduceBEq, Int.reduceBNe, Int.reduceDiv, Int.reduceMod, Int.reduceEq, Int.reduceLT, Int.reduceLE, Int.reduceAdd, Int.reduceSub, Int.reduceMul, Int.reduceNeg, Int.reduceToNat, Int.reduceTDiv, Int.reduceTMod, ↓reduceIte, h11], by simp only [go_sem, Nat.reduceEqDiff, Nat.reduceAdd, Nat.reduceSub, Nat.reduceMul, Nat.reduceLT, Nat.reduceLeDiff, Int.reducePow, Int.reduceBEq, Int.reduceBNe, Int.reduceDiv, Int.reduceMod, Int.reduceEq, Int.reduceLT, Int.reduceLE, Int.reduceAdd, Int.reduceSub, Int.reduceMul, Int.reduceNeg, Int.reduceToNat, Int.reduceTDiv, Int.reduceTMod, ↓reduceIte, h12], by simp only [go_sem, Nat.reduceEqDiff, Nat.reduceAdd, Nat.reduceSub, Nat.reduceMul, Nat.reduceLT, Nat.reduceLeDiff, Int.reducePow, Int.reduceBEq, Int.reduceBNe, Int.reduceDiv, Int.reduceMod, Int.reduceEq, Int.reduceLT, Int.reduceLE, Int.reduceAdd, Int.reduceSub, Int.reduceMul, Int.reduceNeg, Int.reduceToNat, Int.reduceTDiv, Int.reduceTMod, ↓reduceIte, h13], by simp only [go_sem, Nat.reduceEqDiff, Nat.reduceAdd, Nat.reduceSub, Nat.reduceMul, Nat.reduceLT, Nat.reduceLeDiff, Int.reducePow, Int.reduceBEq, Int.reduceBNe, Int.reduceDiv, Int.reduceMod, Int.reduceEq, Int.reduceLT, Int.reduceLE, Int.reduceAdd, Int.reduceSub, Int.reduceMul, Int.reduceNeg, Int.reduceToNat, Int.reduceTDiv, Int.reduceTMod, ↓reduceIte], by simp only [go_sem, Nat.reduceEqDiff, Nat.reduceAdd, Nat.reduceSub, Nat.reduceMul, Nat.reduceLT, Nat.reduceLeDiff, Int.reducePow, Int.reduceBEq, Int.reduceBNe, Int.reduceDiv, Int.reduceMod, Int.reduceEq, Int.reduceLT, Int.reduceLE, Int.reduceAdd, Int.reduceSub, Int.reduceMul, Int.reduceNeg, Int.reduceToNat, Int.reduceTDiv, Int.reduceTMod, ↓reduceIte], by simp only [go_sem, Nat.reduceEqDiff, Nat.reduceAdd, Nat.reduceSub, Nat.reduceMul, Nat.reduceLT, Nat.reduceLeDiff, Int.reducePow, Int.reduceBEq, Int.reduceBNe, Int.reduceDiv, Int.reduceMod, Int.reduceEq, Int.reduceLT, Int.reduceLE, Int.reduceAdd, Int.reduceSub, Int.reduceMul, Int.reduceNeg, Int.reduceToNat, Int.reduceTDiv, Int.reduceTMod, ↓reduceIte] <;> rfl, .inl ⟨rfl, rfl, rfl⟩⟩ ?_
      clear h11 h12 h13 hT5
      rintro k' T H' D ⟨rfl, j, slv, G, hjk, rfl, h5, h8, h11, h12, h13, h21, h22, h23, hC⟩
      by_cases hk' : j < x.2.length
      · obtain ⟨b2, g2, rest2, rw2, hpe, hb2, _⟩ := hp.ne (fun e => by rw [e] at hk'; simp at hk')
        have kb2 := hold _ _ hb2
        rw [hpe] at h21
        obtain ⟨p, hpj, hdr2⟩ := getD_some hk'
        have hld2 := fun (b : Nat) => ald_pt (b := b) (g := g2) (rw_ := rw2) rest2 hpj
        have q2 : (0 : Int) ≤ (j : Int) := by omega
        have q3 : (j : Int) < (x.2.length : Int) := by omega
        have w2 : IntKind.i64.wrap ((j : Int) + 1) = ((j + 1 : Nat) : Int) := by rw [wi (by omega) (by omega)]; rfl
        have htk2 : (x.2.map plp).take (j + 1) = (x.2.map plp).take j ++ [plp p] := by rw [List.take_add_one, List.getElem?_map, hpj]; rfl
        have hle2 : ((x.2.map plp).take j).length = j := by rw [List.length_take, List.length_map]; omega
        have hs2 := small_q (o := (x.2.map plp).take j) (by rw [hle2]; omega)
        rw [hle2] at hs2
        rcases hC with ⟨hj0, rfl, rfl⟩ | ⟨g1, X, Y, G', hj0, rfl, rfl⟩
        · simp only [go_sem, Nat.reduceEqDiff, Nat.reduceAdd, Nat.reduceSub, Nat.reduceMul, Nat.reduceLT, Nat.reduceLeDiff, Int.reducePow, Int.reduceBEq, Int.reduceBNe, Int.reduceDiv, Int.reduceMod, Int.reduceEq, Int.reduceLT, Int.reduceLE, Int.reduceAdd, Int.reduceSub, Int.reduceMul, Int.reduceNeg, Int.reduceToNat, Int.reduceTDiv, Int.reduceTMod, ↓reduceIte, h5, h8, h11, h12, h13, h21, h22, h23, dt q3, q2, q3, Int.toNat_natCast, Nat.zero_add, old_get kb2, hld2, ptv, kd, kd0]
          repeat ((first | refine (cplace_ p _).x ?_ | refine drawnF ?_ (by decide +kernel) | refine drawnU [(0, 3), (1, 3)] (by decide +kernel) ?_); simp only [go_sem, Nat.reduceEqDiff, Nat.reduceAdd, Nat.reduceSub, Nat.reduceMul, Nat.reduceLT, Nat.reduceLeDiff, Int.reducePow, Int.reduceBEq, Int.reduceBNe, Int.reduceDiv, Int.reduceMod, Int.reduceEq, Int.reduceLT, Int.reduceLE, Int.reduceAdd, Int.reduceSub, Int.reduceMul, Int.reduceNeg, Int.reduceToNat, Int.reduceTDiv, Int.reduceTMod, ↓reduceIte, h5, h8, h11, h12, h13, h21, h22, h23, ptv, plp, kd, kd0, w2])
          exact ⟨k' - 1, by omega, j + 1, _, _, by omega, rfl, hpe.symm, rfl, .inr ⟨0, _, _, [], by omega, by rw [hj0], by rw [htk2, hj0]; rfl⟩⟩
        · simp only [go_sem, Nat.reduceEqDiff, Nat.reduceAdd, Nat.reduceSub, Nat.reduceMul, Nat.reduceLT, Nat.reduceLeDiff, Int.reducePow, Int.reduceBEq, Int.reduceBNe, Int.reduceDiv, Int.reduceMod, Int.reduceEq, Int.reduceLT, Int.reduceLE, Int.reduceAdd, Int.reduceSub, Int.reduceMul, Int.reduceNeg, Int.reduceToNat, Int.reduceTDiv, Int.reduceTMod, ↓reduceIte, h5, h8, h11, h12, h13, h21, h22, h23, dt q3, q2, q3, Int.toNat_natCast, Nat.zero_add, old_get kb2, hld2, ptv, kd, kd0]
          repeat ((first | refine (cplace_ p _).x ?_ | refine drawnF ?_ (by decide +kernel) | refine drawnU [(0, 3), (1, 3)] (by decide +kernel) ?_); simp only [go_sem, Nat.reduceEqDiff, Nat.reduceAdd, Nat.reduceSub, Nat.reduceMul, Nat.reduceLT, Nat.reduceLeDiff, Int.reducePow, Int.reduceBEq, Int.reduceBNe, Int.reduceDiv, Int.reduceMod, Int.reduceEq, Int.reduceLT, Int.reduceLE, Int.reduceAdd, Int.reduceSub, Int.reduceMul, Int.reduceNeg, Int.reduceToNat, Int.reduceTDiv, Int.reduceTMod, ↓reduceIte, h5, h8, h11, h12, h13, h21, h22, h23, ptv, plp, kd, kd0, w2, hs2.1.symm, hs2.2.1, hs2.2.2])
          exact ⟨k' - 1, by omega, j + 1, _, _, by omega, rfl, hpe.symm, rfl, .inr ⟨g1 + 1, X, Y, _, by omega, rfl, by rw [htk2, ptC_app]; rfl⟩⟩
      · have hj : j = x.2.length := by omega
        subst hj
        have hml : (x.2.map plp).length = x.2.length := List.length_map ..
        have htk3 : (x.2.map plp).take x.2.length = x.2.map plp := List.take_of_length_le (by omega)
        have hv : PtsF K.length (K ++ (⟨[.bool x.1, .slice a1 x.2.length e1], 0, true⟩ :: ⟨[.bool false, slv], 0, true⟩ :: G)).length (K ++ (⟨[.bool x.1, .slice a1 x.2.length e1], 0, true⟩ :: ⟨[.bool false, slv], 0, true⟩ :: G)) slv (x.2.map plp) := by
          rcases hC with ⟨hj0, rfl, rfl⟩ | ⟨g1, X, Y, G', hj0, rfl, rfl⟩
          · exact .inl ⟨by rw [List.eq_nil_of_length_eq_zero hj0]; rfl, rfl⟩
          · exact .inr ⟨K.length + 4, g1, [], true, by omega, by simp, by rw [hml], by rw [hget_app, htk3, List.append_nil]; rfl, by rw [hml]; omega⟩
        clear hC
        obtain ⟨a2, e2, hve⟩ := hv.form
        subst hve
        simp only [go_sem, Nat.reduceEqDiff, Nat.reduceAdd, Nat.reduceSub, Nat.reduceMul, Nat.reduceLT, Nat.reduceLeDiff, Int.reducePow, Int.reduceBEq, Int.reduceBNe, Int.reduceDiv, Int.reduceMod, Int.reduceEq, Int.reduceLT, Int.reduceLE, Int.reduceAdd, Int.reduceSub, Int.reduceMul, Int.reduceNeg, Int.reduceToNat, Int.reduceTDiv, Int.reduceTMod, ↓reduceIte, h5, h8, h11, h12, h13, h21, h22, h23, df (show ¬ ((x.2.length : Nat) : Int) < (x.2.length : Int) by omega)]
        rcases hO with ⟨ho, hv5⟩ | ⟨bo, go, vo, hbo, hv5, hbk, hov⟩
        · simp only [go_sem, Nat.reduceEqDiff, Nat.reduceAdd, Nat.reduceSub, Nat.reduceMul, Nat.reduceLT, Nat.reduceLeDiff, Int.reducePow, Int.reduceBEq, Int.reduceBNe, Int.reduceDiv, Int.reduceMod, Int.reduceEq, Int.reduceLT, Int.reduceLE, Int.reduceAdd, Int.reduceSub, Int.reduceMul, Int.reduceNeg, Int.reduceToNat, Int.reduceTDiv, Int.reduceTMod, ↓reduceIte, h5, h8, h11, h12, h13, hv5, w1, kd, kd0]
          refine ⟨k - 1, by omega, i + 1, by omega, hold.app _, by omega, rfl, ?_⟩
          rw [htk, ho]
          exact OutP.first hv (Old.apx K (_ :: _ :: G) _) hKl (by rw [hget_app]; show (G ++ _)[G.length + 1]? = _; rw [List.getElem?_append_right (by omega), Nat.add_sub_cancel_left]; rfl) (by simp) (by omega)
        · have hlo : vo.length = i := by rw [hov.1, hle]
          have hco : (plC vo).length = i * 2 := by rw [plC_len, hlo]
          simp only [go_sem, Nat.reduceEqDiff, Nat.reduceAdd, Nat.reduceSub, Nat.reduceMul, Nat.reduceLT, Nat.reduceLeDiff, Int.reducePow, Int.reduceBEq, Int.reduceBNe, Int.reduceDiv, Int.reduceMod, Int.reduceEq, Int.reduceLT, Int.reduceLE, Int.reduceAdd, Int.reduceSub, Int.reduceMul, Int.reduceNeg, Int.reduceToNat, Int.reduceTDiv, Int.reduceTMod, ↓reduceIte, h5, h8, h11, h12, h13, hv5, w1, kd, kd0, old_get hbk, old_set hbk, hle, hco, hs.1, hs.2, df (show ¬ bo < H.length by omega)]
          refine ⟨k - 1, by omega, i + 1, by omega, hold.olx (Olx.set1 bo K _ _) (by omega), by omega, rfl, ?_⟩
          rw [htk]
          have hnx := fun J o o1 hb => OutP.next (J := J) (go := go + 1) (c := false) hov hbo o hv o1 (List.getElem?_eq_some_iff.1 hbk).1 hb
          rw [hle] at hnx
          exact hnx _ (Olx.set1 bo K _ _) (Olx.set2 bo K (_ :: _ :: G) _ _ (List.getElem?_eq_some_iff.1 hbk).1) (old_sget hbk _ _)
    · have hi : i = ps.length := by omega
      subst hi
      simp only [go_sem, Nat.reduceEqDiff, Nat.reduceAdd, Nat.reduceSub, Nat.reduceMul, Nat.reduceLT, Nat.reduceLeDiff, Int.reducePow, Int.reduceBEq, Int.reduceBNe, Int.reduceDiv, Int.reduceMod, Int.reduceEq, Int.reduceLT, Int.reduceLE, Int.reduceAdd, Int.reduceSub, Int.reduceMul, Int.reduceNeg, Int.reduceToNat, Int.reduceTDiv, Int.reduceTMod, ↓reduceIte, h11, h12, h13, df (show ¬ ((ps.length : Nat) : Int) < (ps.length : Int) by omega)]
      have : (ps.map covP).take ps.length = ps.map covP := List.take_of_length_le (by rw [List.length_map]; omega)
      rw [this] at hO
      exact hO
end Go.Proofs.Ythoclopeajkcpaa
/- Chapter 15: the walk of a line's polys. -/
namespace Go.Proofs.Ythoclopeajkcpaa
open Go Go.RowKit E
attribute [local irreducible] XRun XOps XCode XCal XLoop XQ SemCall
set_option linter.unusedSimpArgs false
set_option linter.unusedVariables false
def box1 (p : PL) : B4 := boxOf [p]
def bxC (l : List B4) : List Value := l.flatMap b4C
theorem bxC_app (l m : List B4) : bxC (l ++ m) = bxC l ++ bxC m := by simp [bxC]
theorem bxC_len (l : List B4) : (bxC l).length = l.length * 4 := by
  induction l with
  | nil => rfl
  | cons p t ih =>
    have : bxC (p :: t) = b4C p ++ bxC t := rfl
    rw [this, List.length_append, ih]; simp only [List.length_cons, List.length_nil]; omega
theorem OutN.olx2 {n0 : Nat} {K J : AH} {b : Nat} {vs : List (Bool × Value)} {qs : List PL} (h : OutN n0 K b vs qs) (o : Olx b K J) : OutN n0 J b vs qs := h.mono fun _ _ p => p.olx o
/-- Both rows of a line, while they are being made. -/
def LnV (n0 nb bad : Nat) (K0 K : AH) (v1 v2 : Value) (kept : List PL) : Prop :=
  (kept = [] ∧ v1 = .slice none 0 0 ∧ v2 = .slice none 0 0) ∨ ∃ b1 g1 vs b2 g2, nb ≤ b1 ∧ nb ≤ b2 ∧ b1 ≠ b2 ∧ v1 = sl b1 0 g1 kept.length 2 ∧ v2 = sl b2 0 g2 kept.length 4 ∧ K[b1]? = some ⟨plC vs, g1, true⟩ ∧ K[b2]? = some ⟨bxC (kept.map box1), g2, true⟩ ∧ OutN n0 K0 bad vs kept
theorem LnV.app {n0 nb bad : Nat} {K0 K : AH} {v1 v2 : Value} {kept : List PL} (h : LnV n0 nb bad K0 K v1 v2 kept) (L : AH) : LnV n0 nb bad K0 (K ++ L) v1 v2 kept := by
  rcases h with h | ⟨b1, g1, vs, b2, g2, h1, h2, h3, h4, h5, h6, h7, h8⟩
  · exact .inl h
  · exact .inr ⟨b1, g1, vs, b2, g2, h1, h2, h3, h4, h5, old_get h6 L, old_get h7 L, h8⟩
/-- Both rows of a line. -/
def LnR (n1 : Nat) (K : AH) (v1 v2 : Value) (kept : List PL) : Prop :=
  (kept = [] ∧ v1 = .slice none 0 0 ∧ v2 = .slice none 0 0) ∨ ∃ b1 g1 vs b2 g2, v1 = sl b1 0 g1 kept.length 2 ∧ v2 = sl b2 0 g2 kept.length 4 ∧ K[b1]? = some ⟨plC vs, g1, true⟩ ∧ K[b2]? = some ⟨bxC (kept.map box1), g2, true⟩ ∧ OutN n1 K b1 vs kept ∧ n1 ≤ b1 ∧ n1 ≤ b2
theorem LnV.fin {n0 n1 nb bad : Nat} {K0 K : AH} {v1 v2 : Value} {kept : List PL} (h : LnV n0 nb bad K0 K v1 v2 kept) (hn : K0.length ≤ nb) (hn1 : n1 ≤ n0) (hn2 : n1 ≤ nb) (o : ∀ (c : Nat) (k : Blk), n0 ≤ c → K0[c]? = some k → K[c]? = some k) : LnR n1 K v1 v2 kept := by
  rcases h with h | ⟨b1, g1, vs, b2, g2, h1, h2, h3, h4, h5, h6, h7, h8⟩
  · exact .inl h
  · refine .inr ⟨b1, g1, vs, b2, g2, h4, h5, h6, h7, h8.mono fun pv l hP => ?_, by omega, by omega⟩
    rcases hP with h | ⟨b, g, rest, rw_, k0, k0', k1, k2, k3⟩
    · exact .inl h
    · exact .inr ⟨b, g, rest, rw_, by omega, by have := (List.getElem?_eq_some_iff.1 k2).1; omega, k1, o _ _ k0 k2, k3⟩
theorem LnR.olx {n1 mb : Nat} {K J : AH} {v1 v2 : Value} {kept : List PL} (h : LnR n1 K v1 v2 kept) (o : Olx mb K J) (hm : mb < n1) : LnR n1 J v1 v2 kept := by
  rcases h with h | ⟨b1, g1, vs, b2, g2, h1, h2, h3, h4, h5, h6, h7⟩
  · exact .inl h
  · refine .inr ⟨b1, g1, vs, b2, g2, h1, h2, o _ _ (by omega) h3, o _ _ (by omega) h4, h5.mono fun pv l hP => ?_, h6, h7⟩
    rcases hP with h | ⟨b, g, rest, rw_, k0, k0', k1, k2, k3⟩
    · exact .inl h
    · exact .inr ⟨b, g, rest, rw_, k0, k0', k1, o _ _ (by omega) k2, k3⟩
theorem PtsF.move {n0 bad s b' : Nat} {K0 K : AH} {pv : Value} {l : List Pt} (h : PtsF n0 bad K0 pv l) (o : Olx s K0 K) (hs : s < n0) (hb : K0.length ≤ b') : PtsF n0 b' K pv l := by
  rcases h with h | ⟨b, g, rest, rw_, h0, h0', h1, h2, h3⟩
  · exact .inl h
  · exact .inr ⟨b, g, rest, rw_, h0, by have := (List.getElem?_eq_some_iff.1 h2).1; omega, h1, o _ _ (by omega) h2, h3⟩
theorem small_b {n : Nat} (h : n ≤ 1000000) : (n + 1) * 32 - 140737488355328 = 0 ∧ n + 1 - 140737488355328 = 0 := small_p h (by omega)
set_option maxHeartbeats 4000000 in
theorem clineOf_ (ps : List PL) (v : Value) (y : Int) (H : AH) (h : Polys H v ps) (hl : ps.length ≤ 100000) (hl2 : ∀ x ∈ ps, x.2.length ≤ 8796093021952) : Cal Try.prog 67 [v, .int .i64 y] H fun v' H' W => W = [] ∧ (∃ L, H' = H ++ L) ∧ ∃ v1 v2, v' = .agg [v1, v2].toArray ∧ LnR H.length H' v1 v2 (lineL ps y) := by
  refine adds_of ?_
  refine XCal.of hm Try.func67 rfl (fun xs w => Try.call67 xs w) Try.ntmps67 Try.results67 rfl ?_
  simp only [go_sem, Nat.reduceEqDiff, Nat.reduceAdd, Nat.reduceSub, Nat.reduceMul, Nat.reduceLT, Nat.reduceLeDiff, Int.reducePow, Int.reduceBEq, Int.reduceBNe, Int.reduceDiv, Int.reduceMod, Int.reduceEq, Int.reduceLT, Int.reduceLE, Int.reduceAdd, Int.reduceSub, Int.reduceMul, Int.reduceNeg, Int.reduceToNat, Int.reduceTDiv, Int.reduceTMod, ↓reduceIte]
  refine (cplaced_ ps v _ (h.app _) hl hl2).x ?_
  rintro v10 H1 W1 ⟨rfl, ⟨L, rfl⟩, hO⟩
  have hp10 := hO.polys (by rw [List.length_map]; omega)
  obtain ⟨a10, e10, hv10⟩ := hp10.form
  subst hv10
  have hb0 : (H ++ [(⟨[.slice none 0 0, .slice none 0 0], 0, true⟩ : Blk), ⟨[.slice none 0 0, .slice none 0 0], 0, true⟩] ++ L)[H.length]? = some ⟨[.slice none 0 0, .slice none 0 0], 0, true⟩ := by rw [List.append_assoc, hget_app0]; rfl
  have hb1 : (H ++ [(⟨[.slice none 0 0, .slice none 0 0], 0, true⟩ : Blk), ⟨[.slice none 0 0, .slice none 0 0], 0, true⟩] ++ L)[H.length + 1]? = some ⟨[.slice none 0 0, .slice none 0 0], 0, true⟩ := by rw [List.append_assoc, hget_app]; rfl
  have hL0 : H.length + 2 ≤ (H ++ [(⟨[.slice none 0 0, .slice none 0 0], 0, true⟩ : Blk), ⟨[.slice none 0 0, .slice none 0 0], 0, true⟩] ++ L).length := by simp
  rw [show (H ++ [(⟨[.slice none 0 0, .slice none 0 0], 0, true⟩ : Blk), ⟨[.slice none 0 0, .slice none 0 0], 0, true⟩]).length = H.length + 2 by simp] at hO
  generalize H ++ [(⟨[.slice none 0 0, .slice none 0 0], 0, true⟩ : Blk), ⟨[.slice none 0 0, .slice none 0 0], 0, true⟩] ++ L = K0 at *
  simp only [go_sem, Nat.reduceEqDiff, Nat.reduceAdd, Nat.reduceSub, Nat.reduceMul, Nat.reduceLT, Nat.reduceLeDiff, Int.reducePow, Int.reduceBEq, Int.reduceBNe, Int.reduceDiv, Int.reduceMod, Int.reduceEq, Int.reduceLT, Int.reduceLE, Int.reduceAdd, Int.reduceSub, Int.reduceMul, Int.reduceNeg, Int.reduceToNat, Int.reduceTDiv, Int.reduceTMod, ↓reduceIte, List.length_map]
  have hOv : ∃ bad, ∀ (i : Nat) p, (ps.map covP)[i]? = some p → ∃ b g vs pv, H.length + 2 ≤ b ∧ Value.slice a10 (ps.map covP).length e10 = sl b 0 g (ps.map covP).length 2 ∧ K0[b]? = some ⟨plC vs, g, true⟩ ∧ vs[i]? = some (p.1, pv) ∧ PtsF (H.length + 2) bad K0 pv p.2 := by
    rcases hO with ⟨hO1, _⟩ | ⟨b, g, vs, hbn, hv10, hb, hov⟩
    · exact ⟨0, fun i p hpi => by rw [hO1] at hpi; simp at hpi⟩
    · exact ⟨b, fun i p hpi => by obtain ⟨pv, e1, e2⟩ := hov.2 i p hpi; exact ⟨b, g, vs, pv, hbn, hv10, hb, e1, e2⟩⟩
  obtain ⟨bad, hOv⟩ := hOv
  refine keep (fun k T K D => D = [] ∧ ∃ (i : Nat) (w1 w2 : Value), i + k = ps.length ∧ Olx (H.length + 1) K0 K ∧ K0.length ≤ K.length ∧ K[H.length + 1]? = some ⟨[w1, w2], 0, true⟩ ∧ LnV (H.length + 2) K0.length bad K0 K w1 w2 (((ps.map covP).take i).filter (rowIn y)) ∧ T 1 = .int .i64 y ∧ T 4 = ap H.length 0 0 ∧ T 5 = ap (H.length + 1) 0 0 ∧ T 10 = .slice a10 (ps.map covP).length e10 ∧ T 11 = .int .i64 (ps.length : Int) ∧ T 12 = .int .i64 (i : Int)) ps.length
    ⟨rfl, 0, _, _, by omega, Olx.refl _ _, by omega, hb1, .inl ⟨rfl, rfl, rfl⟩, by simp only [go_sem, Nat.reduceEqDiff, Nat.reduceAdd, Nat.reduceSub, Nat.reduceMul, Nat.reduceLT, Nat.reduceLeDiff, Int.reducePow, Int.reduceBEq, Int.reduceBNe, Int.reduceDiv, Int.reduceMod, Int.reduceEq, Int.reduceLT, Int.reduceLE, Int.reduceAdd, Int.reduceSub, Int.reduceMul, Int.reduceNeg, Int.reduceToNat, Int.reduceTDiv, Int.reduceTMod, ↓reduceIte], by simp only [go_sem, Nat.reduceEqDiff, Nat.reduceAdd, Nat.reduceSub, Nat.reduceMul, Nat.reduceLT, Nat.reduceLeDiff, Int.reducePow, Int.reduceBEq, Int.reduceBNe, Int.reduceDiv, Int.reduceMod, Int.reduceEq, Int.reduceLT, Int.reduceLE, Int.reduceAdd, Int.reduceSub, Int.reduceMul, Int.reduceNeg, Int.reduceToNat, Int.reduceTDiv, Int.reduceTMod, ↓reduceIte], by simp only [go_sem, Nat.reduceEqDiff, Nat.reduceAdd, Nat.reduceSub, Nat.reduceMul, Nat.reduceLT, Nat.reduceLeDiff, Int.reducePow, Int.reduceBEq, Int.reduceBNe, Int.reduceDiv, Int.reduceMod, Int.reduceEq, Int.reduceLT, Int.reduceLE, Int.reduceAdd, Int.reduceSub, Int.reduceMul, Int.reduceNeg, Int.reduceToNat, Int.reduceTDiv, Int.reduceTMod, ↓reduceIte], by simp only [go_sem, Nat.reduceEqDiff, Nat.reduceAdd, Nat.reduceSub, Nat.reduceMul, Nat.reduceLT, Nat.reduceLeDiff, Int.reducePow, Int.reduceBEq, Int.reduceBNe, Int.reduceDiv, Int.reduceMod, Int.reduceEq, Int.reduceLT, Int.reduceLE, Int.reduceAdd, Int.reduceSub, Int.reduceMul, Int.reduceNeg, Int.reduceToNat, Int.reduceTDiv, Int.reduceTMod, ↓reduceIte, List.length_map], by simp only [go_sem, Nat.reduceEqDiff, Nat.reduceAdd, Nat.reduceSub, Nat.reduceMul, Nat.reduceLT, Nat.reduceLeDiff, Int.reducePow, Int.reduceBEq, Int.reduceBNe, Int.reduceDiv, Int.reduceMod, Int.reduceEq, Int.reduceLT, Int.reduceLE, Int.reduceAdd, Int.reduceSub, Int.reduceMul, Int.reduceNeg, Int.reduceToNat, Int.reduceTDiv, Int.reduceTMod, ↓reduceIte], by simp only [go_sem, Nat.reduceEqDiff, Nat.reduceAdd, Nat.reduceSub, Nat.reduceMul, Nat.reduceLT, Nat.reduceLeDiff, Int.reducePow, Int.reduceBEq, Int.reduceBNe, Int.reduceDiv, Int.reduceMod, Int.reduceEq, Int.reduceLT, Int.reduceLE, Int.reduceAdd, Int.reduceSub, Int.reduceMul, Int.reduceNeg, Int.reduceToNat, Int.reduceTDiv, Int.reduceTMod, ↓reduceIte] <;> rfl⟩ ?_
  rintro k T K D ⟨rfl, i, u1, u2, hik, hold, hKl, hs, hV, h1, h4, h5, h10, h11, h12⟩
  have kd : ∀ n, decide (K.length + n < H.length) = false := fun n => df (by omega)
  have kd0 : decide (K.length < H.length) = false := df (by omega)
  by_cases hk : i < ps.length
  · have hn : (ps.map covP).length = ps.length := List.length_map ..
    obtain ⟨p, hpi, hdr⟩ := getD_some (show i < (ps.map covP).length by omega)
    obtain ⟨b, g, vs, pv, hbn, hv10, hb, hvi, hP⟩ := hOv i p hpi
    have hp1 : p.1 = false := by
      rw [List.getElem?_map] at hpi
      obtain ⟨q, _, rfl⟩ := Option.map_eq_some_iff.1 hpi; rfl
    have hip : ∀ q ∈ p.2, Ip q := by
      rw [List.getElem?_map] at hpi
      obtain ⟨q, _, rfl⟩ := Option.map_eq_some_iff.1 hpi
      intro z hz
      obtain ⟨z', _, rfl⟩ := List.mem_map.1 hz
      have := plp_b z'
      exact ⟨⟨by omega, by omega⟩, by omega, by omega⟩
    rw [hp1] at hvi
    have kb : K[b]? = some ⟨plC vs, g, true⟩ := hold _ _ (by omega) hb
    have hld : ∀ b : Nat, ald (some true) (some 2) (some ⟨plC vs, g, true⟩) b (i * 2) g = some (.agg [.bool false, pv].toArray, b) := fun b => by have := ald_pl (b := b) (g := g) (rw_ := true) [] hvi; rwa [List.append_nil] at this
    have q0 : (0 : Int) ≤ (i : Int) := by omega
    have q1 : (i : Int) < (ps.length : Int) := by omega
    have w1 : IntKind.i64.wrap ((i : Int) + 1) = ((i + 1 : Nat) : Int) := by rw [wi (by omega) (by omega)]; rfl
    have htk : ((ps.map covP).take (i + 1)).filter (rowIn y) = ((ps.map covP).take i).filter (rowIn y) ++ if rowIn y p = true then [p] else [] := by
      rw [List.take_add_one, hpi, List.filter_append]
      by_cases h : rowIn y p = true
      · rw [if_pos h]; simp [h]
      · rw [if_neg h]; simp [h]
    have hle : (((ps.map covP).take i).filter (rowIn y)).length ≤ 100000 := by
      have := List.length_filter_le (rowIn y) ((ps.map covP).take i)
      rw [List.length_take] at this; omega
    rw [hn] at h10 hv10
    rw [hv10] at h10
    simp only [go_sem, Nat.reduceEqDiff, Nat.reduceAdd, Nat.reduceSub, Nat.reduceMul, Nat.reduceLT, Nat.reduceLeDiff, Int.reducePow, Int.reduceBEq, Int.reduceBNe, Int.reduceDiv, Int.reduceMod, Int.reduceEq, Int.reduceLT, Int.reduceLE, Int.reduceAdd, Int.reduceSub, Int.reduceMul, Int.reduceNeg, Int.reduceToNat, Int.reduceTDiv, Int.reduceTMod, ↓reduceIte, h1, h4, h5, h10, h11, h12, dt q1, q0, q1, Int.toNat_natCast, Nat.zero_add, kb, hld, kd, kd0]
    have hP7 : Polys (K ++ [(⟨[.bool false, pv], 0, true⟩ : Blk), ⟨[.bool false, pv], 0, true⟩]) (sl (K.length + 1) 0 0 1 2) [(false, p.2)] := Polys.one (by rw [hget_app]; rfl) ((hP.move hold (by omega) (Nat.le_refl _)).pts.app _)
    refine (boxof_ [(false, p.2)] _ (fun x hx => by simp at hx; subst hx; exact hip) _ hP7).x ?_
    have hpe : (false, p.2) = p := by cases p; cases hp1; rfl
    rw [hpe]
    rw [show boxOf [p] = box1 p from rfl]
    have hr : rowIn y p = (decide ((box1 p).y0 ≤ y) && decide (y < (box1 p).y1)) := rfl
    generalize hB : box1 p = B at *
    simp only [go_sem, Nat.reduceEqDiff, Nat.reduceAdd, Nat.reduceSub, Nat.reduceMul, Nat.reduceLT, Nat.reduceLeDiff, Int.reducePow, Int.reduceBEq, Int.reduceBNe, Int.reduceDiv, Int.reduceMod, Int.reduceEq, Int.reduceLT, Int.reduceLE, Int.reduceAdd, Int.reduceSub, Int.reduceMul, Int.reduceNeg, Int.reduceToNat, Int.reduceTDiv, Int.reduceTMod, ↓reduceIte, h1, h4, h5, h10, h11, h12, kd, kd0, B4.val, b4C]
    by_cases hy0 : B.y0 ≤ y
    · by_cases hy1 : y < B.y1
      · rw [hr, dt hy0, dt hy1, Bool.and_self, if_pos rfl] at htk
        generalize ((ps.map covP).take i).filter (rowIn y) = qs at *
        rcases hV with ⟨hq, hu1, hu2⟩ | ⟨b1, g1, vo, b2, g2, hb1, hb2, hb12, hu1, hu2, hk1, hk2, hov⟩
        · subst hq
          rw [hu1, hu2] at hs
          have s1 : ∀ X L, (K.set (H.length + 1) X ++ L)[H.length + 1]? = some X := fun X L => old_sget hs X L
          have s2 : ∀ (X : Blk) L n, (K.set (H.length + 1) X ++ L)[K.length + n]? = L[n]? := fun X L n => by rw [show K.length = (K.set (H.length + 1) X).length by simp, hget_app]
          have s3 : ∀ X Y L, (K.set (H.length + 1) X ++ L).set (H.length + 1) Y = K.set (H.length + 1) Y ++ L := fun X Y L => old_sset hs X Y L
          simp only [go_sem, Nat.reduceEqDiff, Nat.reduceAdd, Nat.reduceSub, Nat.reduceMul, Nat.reduceLT, Nat.reduceLeDiff, Int.reducePow, Int.reduceBEq, Int.reduceBNe, Int.reduceDiv, Int.reduceMod, Int.reduceEq, Int.reduceLT, Int.reduceLE, Int.reduceAdd, Int.reduceSub, Int.reduceMul, Int.reduceNeg, Int.reduceToNat, Int.reduceTDiv, Int.reduceTMod, ↓reduceIte, h1, h4, h5, h10, h11, h12, dt hy0, dt hy1, kd, kd0, old_get hs, old_set hs, s1, s2, s3, List.length_set, w1]
          refine ⟨k - 1, by omega, i + 1, _, _, by omega, hold.trans (Olx.set1 _ K _ _), by omega, rfl, ?_, by rw [hn]; exact hv10.symm, rfl⟩
          rw [htk, List.nil_append]
          refine .inr ⟨K.length + 4, 0, [(false, pv)], K.length + 6, 0, by omega, by omega, by omega, rfl, rfl, by rw [s2]; rfl, ?_, ?_⟩
          · rw [s2, List.map_cons, List.map_nil, hB]; rfl
          · rw [← hpe]; exact OutN.one hP
        · rw [hu1, hu2] at hs
          have n1 : (H.length + 1 = b1) = False := eq_false (by omega)
          have n2 : (H.length + 1 = b2) = False := eq_false (by omega)
          have hlb1 := (List.getElem?_eq_some_iff.1 hk1).1
          have hlb2 := (List.getElem?_eq_some_iff.1 hk2).1
          have hls := (List.getElem?_eq_some_iff.1 hs).1
          have hco1 : (plC vo).length = qs.length * 2 := by rw [plC_len, hov.1]
          have hco2 : (bxC (qs.map box1)).length = qs.length * 4 := by rw [bxC_len, List.length_map]
          have hsm := small_b (n := qs.length) (by omega)
          have t1 : ∀ P L, (K.set b1 P ++ L)[H.length + 1]? = some ⟨[sl b1 0 g1 qs.length 2, sl b2 0 g2 qs.length 4], 0, true⟩ := fun P L => by
            refine old_get ?_ L
            rw [List.getElem?_set_ne (by omega)]; exact hs
          have t2 : ∀ P Y L, (K.set b1 P ++ L).set (H.length + 1) Y = (K.set b1 P).set (H.length + 1) Y ++ L := fun P Y L => List.set_append_left _ _ (by simpa using hls)
          have t3 : ∀ P Y L, ((K.set b1 P).set (H.length + 1) Y ++ L)[H.length + 1]? = some Y := fun P Y L => by
            refine old_get ?_ L
            rw [List.getElem?_set_self (by simpa using hls)]
          have t4 : ∀ P Y L n, ((K.set b1 P).set (H.length + 1) Y ++ L)[K.length + n]? = L[n]? := fun P Y L n => by rw [show K.length = ((K.set b1 P).set (H.length + 1) Y).length by simp, hget_app]
          have t5 : ∀ P Y L, ((K.set b1 P).set (H.length + 1) Y ++ L)[b2]? = some ⟨bxC (qs.map box1), g2, true⟩ := fun P Y L => by
            refine old_get ?_ L
            rw [List.getElem?_set_ne (by omega), List.getElem?_set_ne hb12]; exact hk2
          have t6 : ∀ P Y Q L, ((K.set b1 P).set (H.length + 1) Y ++ L).set b2 Q = ((K.set b1 P).set (H.length + 1) Y).set b2 Q ++ L := fun P Y Q L => List.set_append_left _ _ (by simpa using hlb2)
          have t7 : ∀ P Y Q L, (((K.set b1 P).set (H.length + 1) Y).set b2 Q ++ L)[H.length + 1]? = some Y := fun P Y Q L => by
            refine old_get ?_ L
            rw [List.getElem?_set_ne (by omega), List.getElem?_set_self (by simpa using hls)]
          have t8 : ∀ P Y Q Z L, (((K.set b1 P).set (H.length + 1) Y).set b2 Q ++ L).set (H.length + 1) Z = (((K.set b1 P).set (H.length + 1) Y).set b2 Q).set (H.length + 1) Z ++ L := fun P Y Q Z L => List.set_append_left _ _ (by simpa using hls)
          have t9 : ∀ P Y Q Z L, ((((K.set b1 P).set (H.length + 1) Y).set b2 Q).set (H.length + 1) Z ++ L)[H.length + 1]? = some Z := fun P Y Q Z L => by
            refine old_get ?_ L
            rw [List.getElem?_set_self (by simpa using hls)]
          have d1 : decide (b1 < H.length) = false := df (by omega)
          have d2 : decide (b2 < H.length) = false := df (by omega)
          simp only [go_sem, Nat.reduceEqDiff, Nat.reduceAdd, Nat.reduceSub, Nat.reduceMul, Nat.reduceLT, Nat.reduceLeDiff, Int.reducePow, Int.reduceBEq, Int.reduceBNe, Int.reduceDiv, Int.reduceMod, Int.reduceEq, Int.reduceLT, Int.reduceLE, Int.reduceAdd, Int.reduceSub, Int.reduceMul, Int.reduceNeg, Int.reduceToNat, Int.reduceTDiv, Int.reduceTMod, ↓reduceIte, h1, h4, h5, h10, h11, h12, dt hy0, dt hy1, kd, kd0, old_get hs, old_set hs, old_get hk1, old_set hk1, hco1, hco2, hsm.1, hsm.2, t1, t2, t3, t4, t5, t6, t7, t8, t9, d1, d2, List.length_set, w1]
          refine ⟨k - 1, by omega, i + 1, _, _, by omega, fun c x hc e => old_get ?_ _, by omega, rfl, ?_, by rw [hn]; exact hv10.symm, rfl⟩
          · have := (List.getElem?_eq_some_iff.1 e).1
            rw [List.getElem?_set_ne (fun h => hc h.symm), List.getElem?_set_ne (by omega), List.getElem?_set_ne (fun h => hc h.symm), List.getElem?_set_ne (by omega)]
            exact hold _ _ hc e
          · rw [htk]
            have hql : (qs ++ [p]).length = qs.length + 1 := by simp
            refine .inr ⟨b1, g1 + 1, vo ++ [(false, pv)], b2, g2 + 1, hb1, hb2, hb12, by rw [hql], by rw [hql], old_get ?_ _, old_get ?_ _, hov.push ?_⟩
            · rw [List.getElem?_set_ne (by omega), List.getElem?_set_ne (fun h => hb12 h.symm), List.getElem?_set_ne (by omega), List.getElem?_set_self hlb1, plC_app]; rfl
            · rw [List.getElem?_set_ne (by omega), List.getElem?_set_self (by simpa using hlb2), List.map_append, bxC_app, List.map_cons, List.map_nil, hB]; rfl
            · rw [← hpe]; exact OutN.one hP
      · rw [hr, df hy1, Bool.and_false, if_neg (by decide), List.append_nil] at htk
        simp only [go_sem, Nat.reduceEqDiff, Nat.reduceAdd, Nat.reduceSub, Nat.reduceMul, Nat.reduceLT, Nat.reduceLeDiff, Int.reducePow, Int.reduceBEq, Int.reduceBNe, Int.reduceDiv, Int.reduceMod, Int.reduceEq, Int.reduceLT, Int.reduceLE, Int.reduceAdd, Int.reduceSub, Int.reduceMul, Int.reduceNeg, Int.reduceToNat, Int.reduceTDiv, Int.reduceTMod, ↓reduceIte, h1, h4, h5, h10, h11, h12, dt hy0, df hy1, kd, kd0, w1]
        refine ⟨k - 1, by omega, i + 1, u1, u2, by omega, hold.app _, by omega, old_get hs _, ?_, by rw [hn]; exact hv10.symm, rfl⟩
        rw [htk]; exact hV.app _
    · rw [hr, df hy0, Bool.false_and, if_neg (by decide), List.append_nil] at htk
      simp only [go_sem, Nat.reduceEqDiff, Nat.reduceAdd, Nat.reduceSub, Nat.reduceMul, Nat.reduceLT, Nat.reduceLeDiff, Int.reducePow, Int.reduceBEq, Int.reduceBNe, Int.reduceDiv, Int.reduceMod, Int.reduceEq, Int.reduceLT, Int.reduceLE, Int.reduceAdd, Int.reduceSub, Int.reduceMul, Int.reduceNeg, Int.reduceToNat, Int.reduceTDiv, Int.reduceTMod, ↓reduceIte, h1, h4, h5, h10, h11, h12, df hy0, kd, kd0, w1]
      refine ⟨k - 1, by omega, i + 1, u1, u2, by omega, hold.app _, by omega, old_get hs _, ?_, by rw [hn]; exact hv10.symm, rfl⟩
      rw [htk]; exact hV.app _
  · have hi : i = ps.length := by omega
    subst hi
    have hs0 : K[H.length]? = some ⟨[.slice none 0 0, .slice none 0 0], 0, true⟩ := hold _ _ (by omega) hb0
    have hs2 : ∀ X, (K.set H.length X)[H.length]? = some X := fun X => List.getElem?_set_self (List.getElem?_eq_some_iff.1 hs0).1
    simp only [go_sem, Nat.reduceEqDiff, Nat.reduceAdd, Nat.reduceSub, Nat.reduceMul, Nat.reduceLT, Nat.reduceLeDiff, Int.reducePow, Int.reduceBEq, Int.reduceBNe, Int.reduceDiv, Int.reduceMod, Int.reduceEq, Int.reduceLT, Int.reduceLE, Int.reduceAdd, Int.reduceSub, Int.reduceMul, Int.reduceNeg, Int.reduceToNat, Int.reduceTDiv, Int.reduceTMod, ↓reduceIte, h1, h4, h5, h10, h11, h12, df (show ¬ ((ps.length : Nat) : Int) < (ps.length : Int) by omega), hs, hs0, hs2]
    have hti : (ps.map covP).take ps.length = ps.map covP := List.take_of_length_le (by rw [List.length_map]; omega)
    rw [hti] at hV
    refine ⟨_, _, rfl, LnV.fin (K := K.set H.length _) (K0 := K0) (n0 := H.length + 2) (bad := bad) (nb := K0.length) ?_ (Nat.le_refl _) (by omega) (by omega) (fun c x hc e => ?_)⟩
    · rcases hV with h | ⟨b1, g1, vo, b2, g2, e1, e2, e3, e4, e5, e6, e7, e8⟩
      · exact .inl h
      · exact .inr ⟨b1, g1, vo, b2, g2, e1, e2, e3, e4, e5, by rw [List.getElem?_set_ne (by omega)]; exact e6, by rw [List.getElem?_set_ne (by omega)]; exact e7, e8⟩
    · rw [List.getElem?_set_ne (by omega)]
      exact hold _ _ (by omega) e
end Go.Proofs.Ythoclopeajkcpaa
/- Chapter 15: the walk of one pixel of a line. -/
namespace Go.Proofs.Ythoclopeajkcpaa
open Go Go.RowKit E
attribute [local irreducible] XRun XOps XCode XCal XLoop XQ SemCall
set_option linter.unusedSimpArgs false
set_option linter.unusedVariables false
theorem bxC_get : ∀ (l : List B4) (i : Nat) (B : B4), l[i]? = some B → ((bxC l).drop (i * 4)).take 4 = b4C B
  | [], i, B, h => by simp at h
  | p :: t, 0, B, h => by simp at h; subst h; rfl
  | p :: t, i + 1, B, h => by
    have e : bxC (p :: t) = b4C p ++ bxC t := rfl
    have := bxC_get t i B (by simpa using h)
    rw [e, List.drop_append, show (i + 1) * 4 - (b4C p).length = i * 4 by simp; omega, List.drop_eq_nil_of_le (by simp; omega), List.nil_append]
    exact this
theorem smp_k (ps : List PL) (rule x y : Int) (i j : Nat) (hi : i < 4) : smp ps rule x y (4 * j + i) = withB (IntKind.i64.wrap (windL ps (x * 65536 + 8192 + (i : Int) * 16384) (y * 65536 + 8192 + (j : Int) * 16384))) rule := by
  unfold smp
  rw [show (4 * j + i) % 4 = i by omega, show (4 * j + i) / 4 = j by omega]
theorem thereB_b {x : Int} (h : thereB x = true) : -256 ≤ x ∧ x ≤ 256 := by simpa [thereB] using h
theorem OutN.polys {n0 bad : Nat} {H K : AH} {vo : List (Bool × Value)} {qs : List PL} (h : OutN n0 H bad vo qs) (o : Old H K) {b g : Nat} (hb : K[b]? = some ⟨plC vo, g, true⟩) (hl : qs.length ≤ 9223372036854775807) : Polys K (sl b 0 g qs.length 2) qs :=
  .inr ⟨b, g, [], true, vo, rfl, by rw [List.append_nil]; exact hb, h.1, hl, fun i x hx => by obtain ⟨pv, e1, e2⟩ := h.2 i x hx; exact ⟨pv, e1, e2.pts.old o⟩⟩
set_option maxHeartbeats 4000000 in
theorem cat_ {nn : Nat} (v1 v2 : Value) (L : List PL) (rule x y : Int) (H : AH) (h : LnR nn H v1 v2 L) (hL : L.length ≤ 100000) (hx : thereB x = true) (hy : thereB y = true) : SemCall Try.prog 68 [.agg [v1, v2].toArray, .int .i64 rule, .int .i64 x, .int .i64 y] H (.int .i64 (covN (L.filter (colIn x)) rule x y)) H [] := by
  have hx := thereB_b hx
  have hy := thereB_b hy
  refine pure_of ?_ rfl
  rcases h with ⟨rfl, rfl, rfl⟩ | ⟨b1, g1, vs, b2, g2, rfl, rfl, hk1, hk2, hov, _, _⟩
  · rw [show ([] : List PL).filter (colIn x) = [] from rfl, covN_nil]
    refine XCal.of hm Try.func68 rfl (fun xs w => Try.call68 xs w) Try.ntmps68 Try.results68 rfl ?_
    simp only [go_sem, Nat.reduceEqDiff, Nat.reduceAdd, Nat.reduceSub, Nat.reduceMul, Nat.reduceLT, Nat.reduceLeDiff, Int.reducePow, Int.reduceBEq, Int.reduceBNe, Int.reduceDiv, Int.reduceMod, Int.reduceEq, Int.reduceLT, Int.reduceLE, Int.reduceAdd, Int.reduceSub, Int.reduceMul, Int.reduceNeg, Int.reduceToNat, Int.reduceTDiv, Int.reduceTMod, ↓reduceIte]
    refine rounds 1 ?_
    simp only [go_sem, Nat.reduceEqDiff, Nat.reduceAdd, Nat.reduceSub, Nat.reduceMul, Nat.reduceLT, Nat.reduceLeDiff, Int.reducePow, Int.reduceBEq, Int.reduceBNe, Int.reduceDiv, Int.reduceMod, Int.reduceEq, Int.reduceLT, Int.reduceLE, Int.reduceAdd, Int.reduceSub, Int.reduceMul, Int.reduceNeg, Int.reduceToNat, Int.reduceTDiv, Int.reduceTMod, ↓reduceIte]
  · refine XCal.of hm Try.func68 rfl (fun xs w => Try.call68 xs w) Try.ntmps68 Try.results68 rfl ?_
    simp only [go_sem, Nat.reduceEqDiff, Nat.reduceAdd, Nat.reduceSub, Nat.reduceMul, Nat.reduceLT, Nat.reduceLeDiff, Int.reducePow, Int.reduceBEq, Int.reduceBNe, Int.reduceDiv, Int.reduceMod, Int.reduceEq, Int.reduceLT, Int.reduceLE, Int.reduceAdd, Int.reduceSub, Int.reduceMul, Int.reduceNeg, Int.reduceToNat, Int.reduceTDiv, Int.reduceTMod, ↓reduceIte]
    have hlb := (List.getElem?_eq_some_iff.1 hk1).1
    refine keep (fun k T K D => D = [] ∧ ∃ (i : Nat), i + k = L.length ∧ Old H K ∧ H.length + 1 ≤ K.length ∧ K[H.length]? = some ⟨[sl b1 0 g1 L.length 2, sl b2 0 g2 L.length 4], 0, true⟩ ∧ T 1 = .int .i64 rule ∧ T 2 = .int .i64 x ∧ T 3 = .int .i64 y ∧ T 4 = ap H.length 0 0 ∧ T 16 = sl b2 0 g2 L.length 4 ∧ T 17 = .int .i64 (L.length : Int) ∧ T 18 = .int .i64 (i : Int) ∧
        (((L.take i).filter (colIn x) = [] ∧ T 9 = .slice none 0 0) ∨ ∃ b g vo, H.length + 1 ≤ b ∧ T 9 = sl b 0 g ((L.take i).filter (colIn x)).length 2 ∧ K[b]? = some ⟨plC vo, g, true⟩ ∧ OutN nn H b1 vo ((L.take i).filter (colIn x)))) L.length
      ⟨rfl, 0, by omega, Old.app' _ _, by simp, by rw [hget_app0]; rfl, by simp only [go_sem, Nat.reduceEqDiff, Nat.reduceAdd, Nat.reduceSub, Nat.reduceMul, Nat.reduceLT, Nat.reduceLeDiff, Int.reducePow, Int.reduceBEq, Int.reduceBNe, Int.reduceDiv, Int.reduceMod, Int.reduceEq, Int.reduceLT, Int.reduceLE, Int.reduceAdd, Int.reduceSub, Int.reduceMul, Int.reduceNeg, Int.reduceToNat, Int.reduceTDiv, Int.reduceTMod, ↓reduceIte], by simp only [go_sem, Nat.reduceEqDiff, Nat.reduceAdd, Nat.reduceSub, Nat.reduceMul, Nat.reduceLT, Nat.reduceLeDiff, Int.reducePow, Int.reduceBEq, Int.reduceBNe, Int.reduceDiv, Int.reduceMod, Int.reduceEq, Int.reduceLT, Int.reduceLE, Int.reduceAdd, Int.reduceSub, Int.reduceMul, Int.reduceNeg, Int.reduceToNat, Int.reduceTDiv, Int.reduceTMod, ↓reduceIte], by simp only [go_sem, Nat.reduceEqDiff, Nat.reduceAdd, Nat.reduceSub, Nat.reduceMul, Nat.reduceLT, Nat.reduceLeDiff, Int.reducePow, Int.reduceBEq, Int.reduceBNe, Int.reduceDiv, Int.reduceMod, Int.reduceEq, Int.reduceLT, Int.reduceLE, Int.reduceAdd, Int.reduceSub, Int.reduceMul, Int.reduceNeg, Int.reduceToNat, Int.reduceTDiv, Int.reduceTMod, ↓reduceIte], by simp only [go_sem, Nat.reduceEqDiff, Nat.reduceAdd, Nat.reduceSub, Nat.reduceMul, Nat.reduceLT, Nat.reduceLeDiff, Int.reducePow, Int.reduceBEq, Int.reduceBNe, Int.reduceDiv, Int.reduceMod, Int.reduceEq, Int.reduceLT, Int.reduceLE, Int.reduceAdd, Int.reduceSub, Int.reduceMul, Int.reduceNeg, Int.reduceToNat, Int.reduceTDiv, Int.reduceTMod, ↓reduceIte], by simp only [go_sem, Nat.reduceEqDiff, Nat.reduceAdd, Nat.reduceSub, Nat.reduceMul, Nat.reduceLT, Nat.reduceLeDiff, Int.reducePow, Int.reduceBEq, Int.reduceBNe, Int.reduceDiv, Int.reduceMod, Int.reduceEq, Int.reduceLT, Int.reduceLE, Int.reduceAdd, Int.reduceSub, Int.reduceMul, Int.reduceNeg, Int.reduceToNat, Int.reduceTDiv, Int.reduceTMod, ↓reduceIte], by simp only [go_sem, Nat.reduceEqDiff, Nat.reduceAdd, Nat.reduceSub, Nat.reduceMul, Nat.reduceLT, Nat.reduceLeDiff, Int.reducePow, Int.reduceBEq, Int.reduceBNe, Int.reduceDiv, Int.reduceMod, Int.reduceEq, Int.reduceLT, Int.reduceLE, Int.reduceAdd, Int.reduceSub, Int.reduceMul, Int.reduceNeg, Int.reduceToNat, Int.reduceTDiv, Int.reduceTMod, ↓reduceIte], by simp only [go_sem, Nat.reduceEqDiff, Nat.reduceAdd, Nat.reduceSub, Nat.reduceMul, Nat.reduceLT, Nat.reduceLeDiff, Int.reducePow, Int.reduceBEq, Int.reduceBNe, Int.reduceDiv, Int.reduceMod, Int.reduceEq, Int.reduceLT, Int.reduceLE, Int.reduceAdd, Int.reduceSub, Int.reduceMul, Int.reduceNeg, Int.reduceToNat, Int.reduceTDiv, Int.reduceTMod, ↓reduceIte] <;> rfl, .inl ⟨rfl, by simp only [go_sem, Nat.reduceEqDiff, Nat.reduceAdd, Nat.reduceSub, Nat.reduceMul, Nat.reduceLT, Nat.reduceLeDiff, Int.reducePow, Int.reduceBEq, Int.reduceBNe, Int.reduceDiv, Int.reduceMod, Int.reduceEq, Int.reduceLT, Int.reduceLE, Int.reduceAdd, Int.reduceSub, Int.reduceMul, Int.reduceNeg, Int.reduceToNat, Int.reduceTDiv, Int.reduceTMod, ↓reduceIte] <;> rfl⟩⟩ ?_
    rintro k T K D ⟨rfl, i, hik, hold, hKl, hs, h1, h2, h3, h4, h16, h17, h18, hV⟩
    have kd : ∀ n, decide (K.length + n < H.length) = false := fun n => df (by omega)
    have kd0 : decide (K.length < H.length) = false := df (by omega)
    by_cases hk : i < L.length
    · obtain ⟨p, hpi, hdr⟩ := getD_some hk
      obtain ⟨pv, hvi, hP⟩ := hov.2 i p hpi
      have kb1 := hold _ _ hk1
      have kb2 := hold _ _ hk2
      have hld : ∀ b : Nat, ald (some true) (some 2) (some ⟨plC vs, g1, true⟩) b (i * 2) g1 = some (.agg [.bool p.1, pv].toArray, b) := fun b => by have := ald_pl (b := b) (g := g1) (rw_ := true) [] hvi; rwa [List.append_nil] at this
      have hgb := bxC_get (L.map box1) i (box1 p) (by rw [List.getElem?_map, hpi]; rfl)
      have hlb : ∀ b : Nat, ald (some true) (some 4) (some ⟨bxC (L.map box1), g2, true⟩) b (i * 4) g2 = some (.agg (b4C (box1 p)).toArray, b) := fun b => by
        have : i * 4 + 4 ≤ (bxC (L.map box1)).length := by rw [bxC_len, List.length_map]; omega
        simp only [ald, true_and, this, if_true]
        rw [hgb]
      have q0 : (0 : Int) ≤ (i : Int) := by omega
      have q1 : (i : Int) < (L.length : Int) := by omega
      have w1 : IntKind.i64.wrap ((i : Int) + 1) = ((i + 1 : Nat) : Int) := by rw [wi (by omega) (by omega)]; rfl
      have htk : (L.take (i + 1)).filter (colIn x) = (L.take i).filter (colIn x) ++ if colIn x p = true then [p] else [] := by
        rw [List.take_add_one, hpi, List.filter_append]
        by_cases h : colIn x p = true
        · rw [if_pos h]; simp [h]
        · rw [if_neg h]; simp [h]
      have hle : ((L.take i).filter (colIn x)).length ≤ 100000 := by
        have := List.length_filter_le (colIn x) (L.take i)
        rw [List.length_take] at this; omega
      have hr : colIn x p = (decide ((box1 p).x0 ≤ x) && decide (x < (box1 p).x1)) := rfl
      generalize hB : box1 p = B at *
      generalize hT9 : T 9 = t9 at *
      simp only [go_sem, Nat.reduceEqDiff, Nat.reduceAdd, Nat.reduceSub, Nat.reduceMul, Nat.reduceLT, Nat.reduceLeDiff, Int.reducePow, Int.reduceBEq, Int.reduceBNe, Int.reduceDiv, Int.reduceMod, Int.reduceEq, Int.reduceLT, Int.reduceLE, Int.reduceAdd, Int.reduceSub, Int.reduceMul, Int.reduceNeg, Int.reduceToNat, Int.reduceTDiv, Int.reduceTMod, ↓reduceIte, h1, h2, h3, h4, h16, h17, h18, hT9, dt q1, q0, q1, Int.toNat_natCast, Nat.zero_add, kb2, hlb, kd, kd0, b4C]
      by_cases hy0 : B.x0 ≤ x
      · by_cases hy1 : x < B.x1
        · rw [hr, dt hy0, dt hy1, Bool.and_self, if_pos rfl] at htk
          generalize (L.take i).filter (colIn x) = qs at *
          rcases hV with ⟨hq, hu1⟩ | ⟨b, g, vo, hb, hu1, hkb, hvo⟩
          · subst hq
            simp only [go_sem, Nat.reduceEqDiff, Nat.reduceAdd, Nat.reduceSub, Nat.reduceMul, Nat.reduceLT, Nat.reduceLeDiff, Int.reducePow, Int.reduceBEq, Int.reduceBNe, Int.reduceDiv, Int.reduceMod, Int.reduceEq, Int.reduceLT, Int.reduceLE, Int.reduceAdd, Int.reduceSub, Int.reduceMul, Int.reduceNeg, Int.reduceToNat, Int.reduceTDiv, Int.reduceTMod, ↓reduceIte, h1, h2, h3, h4, h16, h17, h18, hT9, hu1, dt hy0, dt hy1, kd, kd0, old_get hs, old_get kb1, hld, q0, q1, Int.toNat_natCast, Nat.zero_add, w1]
            refine ⟨k - 1, by omega, i + 1, by omega, hold.app _, by omega, rfl, .inr ⟨K.length + 2, 0, [(p.1, pv)], by omega, ?_, ?_, ?_⟩⟩
            · rw [htk]; rfl
            · rw [hget_app]; rfl
            · rw [htk, List.nil_append]; exact OutN.one hP
          · have hlb1 := (List.getElem?_eq_some_iff.1 hkb).1
            have hco1 : (plC vo).length = qs.length * 2 := by rw [plC_len, hvo.1]
            have hsm := small_b (n := qs.length) (by omega)
            have d1 : decide (b < H.length) = false := df (by omega)
            simp only [go_sem, Nat.reduceEqDiff, Nat.reduceAdd, Nat.reduceSub, Nat.reduceMul, Nat.reduceLT, Nat.reduceLeDiff, Int.reducePow, Int.reduceBEq, Int.reduceBNe, Int.reduceDiv, Int.reduceMod, Int.reduceEq, Int.reduceLT, Int.reduceLE, Int.reduceAdd, Int.reduceSub, Int.reduceMul, Int.reduceNeg, Int.reduceToNat, Int.reduceTDiv, Int.reduceTMod, ↓reduceIte, h1, h2, h3, h4, h16, h17, h18, hT9, hu1, dt hy0, dt hy1, kd, kd0, old_get hs, old_get kb1, hld, q0, q1, Int.toNat_natCast, w1, old_get hkb, old_set hkb, hco1, hsm.1, hsm.2, d1, Nat.zero_add]
            refine ⟨k - 1, by omega, i + 1, by omega, hold.set (by omega) _ _, by omega, old_get (by rw [List.getElem?_set_ne (by omega)]; exact hs) _, rfl, .inr ⟨b, g + 1, vo ++ [(p.1, pv)], by omega, ?_, ?_, ?_⟩⟩
            · rw [htk, List.length_append]; rfl
            · refine old_get ?_ _
              rw [List.getElem?_set_self hlb1, plC_app]; rfl
            · rw [htk]; exact hvo.push (OutN.one hP)
        · rw [hr, df hy1, Bool.and_false, if_neg (by decide), List.append_nil] at htk
          simp only [go_sem, Nat.reduceEqDiff, Nat.reduceAdd, Nat.reduceSub, Nat.reduceMul, Nat.reduceLT, Nat.reduceLeDiff, Int.reducePow, Int.reduceBEq, Int.reduceBNe, Int.reduceDiv, Int.reduceMod, Int.reduceEq, Int.reduceLT, Int.reduceLE, Int.reduceAdd, Int.reduceSub, Int.reduceMul, Int.reduceNeg, Int.reduceToNat, Int.reduceTDiv, Int.reduceTMod, ↓reduceIte, h1, h2, h3, h4, h16, h17, h18, hT9, dt hy0, df hy1, kd, kd0, w1]
          refine ⟨k - 1, by omega, i + 1, by omega, hold.app _, by omega, old_get hs _, rfl, ?_⟩
          rw [htk]
          exact hV.imp (fun h => h) (fun ⟨b, g, vo, e1, e2, e3, e4⟩ => ⟨b, g, vo, e1, e2, old_get e3 _, e4⟩)
      · rw [hr, df hy0, Bool.false_and, if_neg (by decide), List.append_nil] at htk
        simp only [go_sem, Nat.reduceEqDiff, Nat.reduceAdd, Nat.reduceSub, Nat.reduceMul, Nat.reduceLT, Nat.reduceLeDiff, Int.reducePow, Int.reduceBEq, Int.reduceBNe, Int.reduceDiv, Int.reduceMod, Int.reduceEq, Int.reduceLT, Int.reduceLE, Int.reduceAdd, Int.reduceSub, Int.reduceMul, Int.reduceNeg, Int.reduceToNat, Int.reduceTDiv, Int.reduceTMod, ↓reduceIte, h1, h2, h3, h4, h16, h17, h18, hT9, df hy0, kd, kd0, w1]
        refine ⟨k - 1, by omega, i + 1, by omega, hold.app _, by omega, old_get hs _, rfl, ?_⟩
        rw [htk]
        exact hV.imp (fun h => h) (fun ⟨b, g, vo, e1, e2, e3, e4⟩ => ⟨b, g, vo, e1, e2, old_get e3 _, e4⟩)
    · have hi : i = L.length := by omega
      subst hi
      have htk : L.take L.length = L := List.take_of_length_le (by omega)
      rw [htk] at hV
      have hle : (L.filter (colIn x)).length ≤ 100000 := by
        have := List.length_filter_le (colIn x) L; omega
      generalize L.filter (colIn x) = qs at *
      rcases hV with ⟨rfl, h9⟩ | ⟨b, g, vo, hb, h9, hkb, hvo⟩
      · rw [covN_nil]
        simp only [go_sem, Nat.reduceEqDiff, Nat.reduceAdd, Nat.reduceSub, Nat.reduceMul, Nat.reduceLT, Nat.reduceLeDiff, Int.reducePow, Int.reduceBEq, Int.reduceBNe, Int.reduceDiv, Int.reduceMod, Int.reduceEq, Int.reduceLT, Int.reduceLE, Int.reduceAdd, Int.reduceSub, Int.reduceMul, Int.reduceNeg, Int.reduceToNat, Int.reduceTDiv, Int.reduceTMod, ↓reduceIte, h1, h2, h3, h4, h9, h16, h17, h18, df (show ¬ ((L.length : Nat) : Int) < (L.length : Int) by omega)]
      · have hPo := hvo.polys hold hkb (by omega)
        by_cases hq : qs = []
        · subst hq
          rw [covN_nil]
          simp only [go_sem, Nat.reduceEqDiff, Nat.reduceAdd, Nat.reduceSub, Nat.reduceMul, Nat.reduceLT, Nat.reduceLeDiff, Int.reducePow, Int.reduceBEq, Int.reduceBNe, Int.reduceDiv, Int.reduceMod, Int.reduceEq, Int.reduceLT, Int.reduceLE, Int.reduceAdd, Int.reduceSub, Int.reduceMul, Int.reduceNeg, Int.reduceToNat, Int.reduceTDiv, Int.reduceTMod, ↓reduceIte, h1, h2, h3, h4, h9, h16, h17, h18, df (show ¬ ((L.length : Nat) : Int) < (L.length : Int) by omega), List.length_nil, show ((0 : Nat) : Int) = 0 from rfl]
        · have hq1 : ¬ (qs.length : Int) = 0 := by have := List.length_pos_iff.2 hq; omega
          simp only [go_sem, Nat.reduceEqDiff, Nat.reduceAdd, Nat.reduceSub, Nat.reduceMul, Nat.reduceLT, Nat.reduceLeDiff, Int.reducePow, Int.reduceBEq, Int.reduceBNe, Int.reduceDiv, Int.reduceMod, Int.reduceEq, Int.reduceLT, Int.reduceLE, Int.reduceAdd, Int.reduceSub, Int.reduceMul, Int.reduceNeg, Int.reduceToNat, Int.reduceTDiv, Int.reduceTMod, ↓reduceIte, h1, h2, h3, h4, h9, h16, h17, h18, df (show ¬ ((L.length : Nat) : Int) < (L.length : Int) by omega), bf hq1]
          clear h4 h16 h17 h18 hkb hs
          refine keep (fun k T J D => D = [] ∧ K = J ∧ ∃ (j : Nat), j + k = 4 ∧ T 1 = .int .i64 rule ∧ T 2 = .int .i64 x ∧ T 3 = .int .i64 y ∧ T 9 = sl b 0 g qs.length 2 ∧ T 45 = .int .i64 (j : Int) ∧ T 12 = .int .i64 (cntK (smp qs rule x y) (4 * j))) 4
            ⟨rfl, rfl, 0, by omega, by simp only [go_sem, Nat.reduceEqDiff, Nat.reduceAdd, Nat.reduceSub, Nat.reduceMul, Nat.reduceLT, Nat.reduceLeDiff, Int.reducePow, Int.reduceBEq, Int.reduceBNe, Int.reduceDiv, Int.reduceMod, Int.reduceEq, Int.reduceLT, Int.reduceLE, Int.reduceAdd, Int.reduceSub, Int.reduceMul, Int.reduceNeg, Int.reduceToNat, Int.reduceTDiv, Int.reduceTMod, ↓reduceIte, h1], by simp only [go_sem, Nat.reduceEqDiff, Nat.reduceAdd, Nat.reduceSub, Nat.reduceMul, Nat.reduceLT, Nat.reduceLeDiff, Int.reducePow, Int.reduceBEq, Int.reduceBNe, Int.reduceDiv, Int.reduceMod, Int.reduceEq, Int.reduceLT, Int.reduceLE, Int.reduceAdd, Int.reduceSub, Int.reduceMul, Int.reduceNeg, Int.reduceToNat, Int.reduceTDiv, Int.reduceTMod, ↓reduceIte, h2], by simp only [go_sem, Nat.reduceEqDiff, Nat.reduceAdd, Nat.reduceSub, Nat.reduceMul, Nat.reduceLT, Nat.reduceLeDiff, Int.reducePow, Int.reduceBEq, Int.reduceBNe, Int.reduceDiv, Int.reduceMod, Int.reduceEq, Int.reduceLT, Int.reduceLE, Int.reduceAdd, Int.reduceSub, Int.reduceMul, Int.reduceNeg, Int.reduceToNat, Int.reduceTDiv, Int.reduceTMod, ↓reduceIte, h3], by simp only [go_sem, Nat.reduceEqDiff, Nat.reduceAdd, Nat.reduceSub, Nat.reduceMul, Nat.reduceLT, Nat.reduceLeDiff, Int.reducePow, Int.reduceBEq, Int.reduceBNe, Int.reduceDiv, Int.reduceMod, Int.reduceEq, Int.reduceLT, Int.reduceLE, Int.reduceAdd, Int.reduceSub, Int.reduceMul, Int.reduceNeg, Int.reduceToNat, Int.reduceTDiv, Int.reduceTMod, ↓reduceIte, h9], by simp only [go_sem, Nat.reduceEqDiff, Nat.reduceAdd, Nat.reduceSub, Nat.reduceMul, Nat.reduceLT, Nat.reduceLeDiff, Int.reducePow, Int.reduceBEq, Int.reduceBNe, Int.reduceDiv, Int.reduceMod, Int.reduceEq, Int.reduceLT, Int.reduceLE, Int.reduceAdd, Int.reduceSub, Int.reduceMul, Int.reduceNeg, Int.reduceToNat, Int.reduceTDiv, Int.reduceTMod, ↓reduceIte] <;> rfl, by simp only [go_sem, Nat.reduceEqDiff, Nat.reduceAdd, Nat.reduceSub, Nat.reduceMul, Nat.reduceLT, Nat.reduceLeDiff, Int.reducePow, Int.reduceBEq, Int.reduceBNe, Int.reduceDiv, Int.reduceMod, Int.reduceEq, Int.reduceLT, Int.reduceLE, Int.reduceAdd, Int.reduceSub, Int.reduceMul, Int.reduceNeg, Int.reduceToNat, Int.reduceTDiv, Int.reduceTMod, ↓reduceIte] <;> rfl⟩ ?_
          clear h1 h2 h3 h9
          rintro k T J D ⟨rfl, rfl, j, hjk, h1, h2, h3, h9, h45, h12⟩
          by_cases hj : j < 4
          · simp only [go_sem, Nat.reduceEqDiff, Nat.reduceAdd, Nat.reduceSub, Nat.reduceMul, Nat.reduceLT, Nat.reduceLeDiff, Int.reducePow, Int.reduceBEq, Int.reduceBNe, Int.reduceDiv, Int.reduceMod, Int.reduceEq, Int.reduceLT, Int.reduceLE, Int.reduceAdd, Int.reduceSub, Int.reduceMul, Int.reduceNeg, Int.reduceToNat, Int.reduceTDiv, Int.reduceTMod, ↓reduceIte, h1, h2, h3, h9, h45, h12, dt (show (j : Int) < 4 by omega)]
            refine keep (fun k T J D => D = [] ∧ K = J ∧ ∃ (i : Nat), i + k = 4 ∧ T 1 = .int .i64 rule ∧ T 2 = .int .i64 x ∧ T 3 = .int .i64 y ∧ T 9 = sl b 0 g qs.length 2 ∧ T 13 = .int .i64 (j : Int) ∧ T 45 = .int .i64 (j : Int) ∧ T 48 = .int .i64 (i : Int) ∧ T 12 = .int .i64 (cntK (smp qs rule x y) (4 * j + i))) 4
              ⟨rfl, rfl, 0, by omega, by simp only [go_sem, Nat.reduceEqDiff, Nat.reduceAdd, Nat.reduceSub, Nat.reduceMul, Nat.reduceLT, Nat.reduceLeDiff, Int.reducePow, Int.reduceBEq, Int.reduceBNe, Int.reduceDiv, Int.reduceMod, Int.reduceEq, Int.reduceLT, Int.reduceLE, Int.reduceAdd, Int.reduceSub, Int.reduceMul, Int.reduceNeg, Int.reduceToNat, Int.reduceTDiv, Int.reduceTMod, ↓reduceIte, h1], by simp only [go_sem, Nat.reduceEqDiff, Nat.reduceAdd, Nat.reduceSub, Nat.reduceMul, Nat.reduceLT, Nat.reduceLeDiff, Int.reducePow, Int.reduceBEq, Int.reduceBNe, Int.reduceDiv, Int.reduceMod, Int.reduceEq, Int.reduceLT, Int.reduceLE, Int.reduceAdd, Int.reduceSub, Int.reduceMul, Int.reduceNeg, Int.reduceToNat, Int.reduceTDiv, Int.reduceTMod, ↓reduceIte, h2], by simp only [go_sem, Nat.reduceEqDiff, Nat.reduceAdd, Nat.reduceSub, Nat.reduceMul, Nat.reduceLT, Nat.reduceLeDiff, Int.reducePow, Int.reduceBEq, Int.reduceBNe, Int.reduceDiv, Int.reduceMod, Int.reduceEq, Int.reduceLT, Int.reduceLE, Int.reduceAdd, Int.reduceSub, Int.reduceMul, Int.reduceNeg, Int.reduceToNat, Int.reduceTDiv, Int.reduceTMod, ↓reduceIte, h3], by simp only [go_sem, Nat.reduceEqDiff, Nat.reduceAdd, Nat.reduceSub, Nat.reduceMul, Nat.reduceLT, Nat.reduceLeDiff, Int.reducePow, Int.reduceBEq, Int.reduceBNe, Int.reduceDiv, Int.reduceMod, Int.reduceEq, Int.reduceLT, Int.reduceLE, Int.reduceAdd, Int.reduceSub, Int.reduceMul, Int.reduceNeg, Int.reduceToNat, Int.reduceTDiv, Int.reduceTMod, ↓reduceIte, h9], by simp only [go_sem, Nat.reduceEqDiff, Nat.reduceAdd, Nat.reduceSub, Nat.reduceMul, Nat.reduceLT, Nat.reduceLeDiff, Int.reducePow, Int.reduceBEq, Int.reduceBNe, Int.reduceDiv, Int.reduceMod, Int.reduceEq, Int.reduceLT, Int.reduceLE, Int.reduceAdd, Int.reduceSub, Int.reduceMul, Int.reduceNeg, Int.reduceToNat, Int.reduceTDiv, Int.reduceTMod, ↓reduceIte, h45], by simp only [go_sem, Nat.reduceEqDiff, Nat.reduceAdd, Nat.reduceSub, Nat.reduceMul, Nat.reduceLT, Nat.reduceLeDiff, Int.reducePow, Int.reduceBEq, Int.reduceBNe, Int.reduceDiv, Int.reduceMod, Int.reduceEq, Int.reduceLT, Int.reduceLE, Int.reduceAdd, Int.reduceSub, Int.reduceMul, Int.reduceNeg, Int.reduceToNat, Int.reduceTDiv, Int.reduceTMod, ↓reduceIte, h45], by simp only [go_sem, Nat.reduceEqDiff, Nat.reduceAdd, Nat.reduceSub, Nat.reduceMul, Nat.reduceLT, Nat.reduceLeDiff, Int.reducePow, Int.reduceBEq, Int.reduceBNe, Int.reduceDiv, Int.reduceMod, Int.reduceEq, Int.reduceLT, Int.reduceLE, Int.reduceAdd, Int.reduceSub, Int.reduceMul, Int.reduceNeg, Int.reduceToNat, Int.reduceTDiv, Int.reduceTMod, ↓reduceIte] <;> rfl, by simp only [go_sem, Nat.reduceEqDiff, Nat.reduceAdd, Nat.reduceSub, Nat.reduceMul, Nat.reduceLT, Nat.reduceLeDiff, Int.reducePow, Int.reduceBEq, Int.reduceBNe, Int.reduceDiv, Int.reduceMod, Int.reduceEq, Int.reduceLT, Int.reduceLE, Int.reduceAdd, Int.reduceSub, Int.reduceMul, Int.reduceNeg, Int.reduceToNat, Int.reduceTDiv, Int.reduceTMod, ↓reduceIte, h12] <;> rfl⟩ ?_
            clear h1 h2 h3 h9 h45 h12
            rintro k' T J D ⟨rfl, rfl, i, hik', h1, h2, h3, h9, h13, h45, h48, h12⟩
            have w1 : IntKind.i64.wrap ((j : Int) + 1) = ((j + 1 : Nat) : Int) := by rw [wi (by omega) (by omega)]; rfl
            by_cases hi : i < 4
            · have w2 : IntKind.i64.wrap ((i : Int) + 1) = ((i + 1 : Nat) : Int) := by rw [wi (by omega) (by omega)]; rfl
              have v1 : IntKind.i64.wrap (x * 65536) = x * 65536 := wi (by omega) (by omega)
              have v2 : IntKind.i64.wrap (y * 65536) = y * 65536 := wi (by omega) (by omega)
              have v3 : IntKind.i64.wrap (x * 65536 + 8192) = x * 65536 + 8192 := wi (by omega) (by omega)
              have v4 : IntKind.i64.wrap (y * 65536 + 8192) = y * 65536 + 8192 := wi (by omega) (by omega)
              have v5 : IntKind.i64.wrap ((i : Int) * 16384) = (i : Int) * 16384 := wi (by omega) (by omega)
              have v6 : IntKind.i64.wrap ((j : Int) * 16384) = (j : Int) * 16384 := wi (by omega) (by omega)
              have v7 : IntKind.i64.wrap (x * 65536 + 8192 + (i : Int) * 16384) = x * 65536 + 8192 + (i : Int) * 16384 := wi (by omega) (by omega)
              have v8 : IntKind.i64.wrap (y * 65536 + 8192 + (j : Int) * 16384) = y * 65536 + 8192 + (j : Int) * 16384 := wi (by omega) (by omega)
              have hk := smp_k qs rule x y i j hi
              have hcn : cntK (smp qs rule x y) (4 * j + (i + 1)) = cntK (smp qs rule x y) (4 * j + i) + if smp qs rule x y (4 * j + i) = true then 1 else 0 := rfl
              have hcb := cntK_b (smp qs rule x y) (4 * j + i)
              have v9 : IntKind.i64.wrap (cntK (smp qs rule x y) (4 * j + i) + 1) = cntK (smp qs rule x y) (4 * j + i) + 1 := wi (by omega) (by omega)
              simp only [go_sem, Nat.reduceEqDiff, Nat.reduceAdd, Nat.reduceSub, Nat.reduceMul, Nat.reduceLT, Nat.reduceLeDiff, Int.reducePow, Int.reduceBEq, Int.reduceBNe, Int.reduceDiv, Int.reduceMod, Int.reduceEq, Int.reduceLT, Int.reduceLE, Int.reduceAdd, Int.reduceSub, Int.reduceMul, Int.reduceNeg, Int.reduceToNat, Int.reduceTDiv, Int.reduceTMod, ↓reduceIte, h1, h2, h3, h9, h13, h45, h48, h12, dt (show (i : Int) < 4 by omega), v1, v2, v3, v4, v5, v6, v7, v8]
              have hw := wind_ qs (sl b 0 g qs.length 2) (x * 65536 + 8192 + (i : Int) * 16384) (y * 65536 + 8192 + (j : Int) * 16384) K hPo
              rw [place_in (by omega) (by omega), place_in (by omega) (by omega)] at hw
              refine hw.x ?_
              simp only [go_sem, Nat.reduceEqDiff, Nat.reduceAdd, Nat.reduceSub, Nat.reduceMul, Nat.reduceLT, Nat.reduceLeDiff, Int.reducePow, Int.reduceBEq, Int.reduceBNe, Int.reduceDiv, Int.reduceMod, Int.reduceEq, Int.reduceLT, Int.reduceLE, Int.reduceAdd, Int.reduceSub, Int.reduceMul, Int.reduceNeg, Int.reduceToNat, Int.reduceTDiv, Int.reduceTMod, ↓reduceIte, h1, h2, h3, h9, h13, h45, h48, h12]
              refine (cwithin_ _ rule K).x ?_
              rw [← hk]
              cases hsm : smp qs rule x y (4 * j + i) with
              | true =>
                rw [hsm, if_pos rfl] at hcn
                simp only [go_sem, Nat.reduceEqDiff, Nat.reduceAdd, Nat.reduceSub, Nat.reduceMul, Nat.reduceLT, Nat.reduceLeDiff, Int.reducePow, Int.reduceBEq, Int.reduceBNe, Int.reduceDiv, Int.reduceMod, Int.reduceEq, Int.reduceLT, Int.reduceLE, Int.reduceAdd, Int.reduceSub, Int.reduceMul, Int.reduceNeg, Int.reduceToNat, Int.reduceTDiv, Int.reduceTMod, ↓reduceIte, h1, h2, h3, h9, h13, h45, h48, h12, w2, v9]
                exact ⟨k' - 1, by omega, i + 1, by omega, rfl, by rw [hcn]⟩
              | false =>
                rw [hsm, if_neg (by decide)] at hcn
                simp only [go_sem, Nat.reduceEqDiff, Nat.reduceAdd, Nat.reduceSub, Nat.reduceMul, Nat.reduceLT, Nat.reduceLeDiff, Int.reducePow, Int.reduceBEq, Int.reduceBNe, Int.reduceDiv, Int.reduceMod, Int.reduceEq, Int.reduceLT, Int.reduceLE, Int.reduceAdd, Int.reduceSub, Int.reduceMul, Int.reduceNeg, Int.reduceToNat, Int.reduceTDiv, Int.reduceTMod, ↓reduceIte, h1, h2, h3, h9, h13, h45, h48, h12, w2]
                exact ⟨k' - 1, by omega, i + 1, by omega, rfl, by rw [hcn, Int.add_zero]⟩
            · have hi : i = 4 := by omega
              subst hi
              simp only [go_sem, Nat.reduceEqDiff, Nat.reduceAdd, Nat.reduceSub, Nat.reduceMul, Nat.reduceLT, Nat.reduceLeDiff, Int.reducePow, Int.reduceBEq, Int.reduceBNe, Int.reduceDiv, Int.reduceMod, Int.reduceEq, Int.reduceLT, Int.reduceLE, Int.reduceAdd, Int.reduceSub, Int.reduceMul, Int.reduceNeg, Int.reduceToNat, Int.reduceTDiv, Int.reduceTMod, ↓reduceIte, h1, h2, h3, h9, h13, h45, h48, h12, w1, df (show ¬ ((4 : Nat) : Int) < 4 by omega)]
              exact ⟨k - 1, by omega, j + 1, by omega, rfl, rfl⟩
          · have hj : j = 4 := by omega
            subst hj
            simp only [go_sem, Nat.reduceEqDiff, Nat.reduceAdd, Nat.reduceSub, Nat.reduceMul, Nat.reduceLT, Nat.reduceLeDiff, Int.reducePow, Int.reduceBEq, Int.reduceBNe, Int.reduceDiv, Int.reduceMod, Int.reduceEq, Int.reduceLT, Int.reduceLE, Int.reduceAdd, Int.reduceSub, Int.reduceMul, Int.reduceNeg, Int.reduceToNat, Int.reduceTDiv, Int.reduceTMod, ↓reduceIte, h1, h2, h3, h9, h45, h12, df (show ¬ ((4 : Nat) : Int) < 4 by omega)]
            rfl
end Go.Proofs.Ythoclopeajkcpaa
/- Chapter 15: the walks of one pixel and of a row of pixels. -/
namespace Go.Proofs.Ythoclopeajkcpaa
open Go Go.RowKit E
attribute [local irreducible] XRun XOps XCode XCal XLoop XQ SemCall
set_option linter.unusedSimpArgs false
set_option linter.unusedVariables false
abbrev PolyS (ps : List PL) : Prop := ps.length ≤ 100000 ∧ ∀ x ∈ ps, x.2.length ≤ 8796093021952
theorem lineL_len (ps : List PL) (y : Int) : (lineL ps y).length ≤ ps.length := by
  have := List.length_filter_le (rowIn y) (ps.map covP)
  rw [List.length_map] at this; exact this
theorem covN_line (ps : List PL) (rule x y : Int) : covN ((lineL ps y).filter (colIn x)) rule x y = covN ps rule x y := covN_kept ps rule x y
theorem catA_ (ps : List PL) (v : Value) (rule x y : Int) (H : AH) (h : Polys H v ps) (hl : PolyS ps) : SemCall Try.prog 38 [v, .int .i64 rule, .int .i64 x, .int .i64 y] H (.int .i64 (covA ps rule x y)) H [] := by
  refine pure_of ?_ rfl
  unfold covA
  refine XCal.of hm Try.func38 rfl (fun xs w => Try.call38 xs w) Try.ntmps38 Try.results38 rfl ?_
  simp only [go_sem, Nat.reduceEqDiff, Nat.reduceAdd, Nat.reduceSub, Nat.reduceMul, Nat.reduceLT, Nat.reduceLeDiff, Int.reducePow, Int.reduceBEq, Int.reduceBNe, Int.reduceDiv, Int.reduceMod, Int.reduceEq, Int.reduceLT, Int.reduceLE, Int.reduceAdd, Int.reduceSub, Int.reduceMul, Int.reduceNeg, Int.reduceToNat, Int.reduceTDiv, Int.reduceTMod, ↓reduceIte]
  cases hx : thereB x with
  | false =>
    rw [Bool.false_and, if_neg (by decide)]
    repeat ((first | refine (there_ _ _).x ?_ | refine drawnF ?_ (by decide +kernel)); simp only [go_sem, Nat.reduceEqDiff, Nat.reduceAdd, Nat.reduceSub, Nat.reduceMul, Nat.reduceLT, Nat.reduceLeDiff, Int.reducePow, Int.reduceBEq, Int.reduceBNe, Int.reduceDiv, Int.reduceMod, Int.reduceEq, Int.reduceLT, Int.reduceLE, Int.reduceAdd, Int.reduceSub, Int.reduceMul, Int.reduceNeg, Int.reduceToNat, Int.reduceTDiv, Int.reduceTMod, ↓reduceIte, hx])
  | true =>
    cases hy : thereB y with
    | false =>
      rw [Bool.and_false, if_neg (by decide)]
      repeat ((first | refine (there_ _ _).x ?_ | refine drawnF ?_ (by decide +kernel)); simp only [go_sem, Nat.reduceEqDiff, Nat.reduceAdd, Nat.reduceSub, Nat.reduceMul, Nat.reduceLT, Nat.reduceLeDiff, Int.reducePow, Int.reduceBEq, Int.reduceBNe, Int.reduceDiv, Int.reduceMod, Int.reduceEq, Int.reduceLT, Int.reduceLE, Int.reduceAdd, Int.reduceSub, Int.reduceMul, Int.reduceNeg, Int.reduceToNat, Int.reduceTDiv, Int.reduceTMod, ↓reduceIte, hx, hy])
    | true =>
      rw [Bool.and_self, if_pos rfl]
      repeat ((first | refine (there_ _ _).x ?_ | refine drawnF ?_ (by decide +kernel)); simp only [go_sem, Nat.reduceEqDiff, Nat.reduceAdd, Nat.reduceSub, Nat.reduceMul, Nat.reduceLT, Nat.reduceLeDiff, Int.reducePow, Int.reduceBEq, Int.reduceBNe, Int.reduceDiv, Int.reduceMod, Int.reduceEq, Int.reduceLT, Int.reduceLE, Int.reduceAdd, Int.reduceSub, Int.reduceMul, Int.reduceNeg, Int.reduceToNat, Int.reduceTDiv, Int.reduceTMod, ↓reduceIte, hx, hy])
      refine (clineOf_ ps v y H h hl.1 hl.2).x ?_
      rintro v' H1 W1 ⟨rfl, ⟨L, rfl⟩, v1, v2, rfl, hR⟩
      simp only [go_sem, Nat.reduceEqDiff, Nat.reduceAdd, Nat.reduceSub, Nat.reduceMul, Nat.reduceLT, Nat.reduceLeDiff, Int.reducePow, Int.reduceBEq, Int.reduceBNe, Int.reduceDiv, Int.reduceMod, Int.reduceEq, Int.reduceLT, Int.reduceLE, Int.reduceAdd, Int.reduceSub, Int.reduceMul, Int.reduceNeg, Int.reduceToNat, Int.reduceTDiv, Int.reduceTMod, ↓reduceIte]
      refine (cat_ v1 v2 _ rule x y _ hR (by have := lineL_len ps y; have := hl.1; omega) hx hy).x ?_
      rw [covN_line]
      simp only [go_sem, Nat.reduceEqDiff, Nat.reduceAdd, Nat.reduceSub, Nat.reduceMul, Nat.reduceLT, Nat.reduceLeDiff, Int.reducePow, Int.reduceBEq, Int.reduceBNe, Int.reduceDiv, Int.reduceMod, Int.reduceEq, Int.reduceLT, Int.reduceLE, Int.reduceAdd, Int.reduceSub, Int.reduceMul, Int.reduceNeg, Int.reduceToNat, Int.reduceTDiv, Int.reduceTMod, ↓reduceIte]
theorem rcover_ (ps : List PL) (v : Value) (rule x y : Int) (H : AH) (h : Polys H v ps) : SemCall Try.prog 71 [v, .int .i64 rule, .int .i64 x, .int .i64 y] H (.int .i64 (covA ps rule x y)) H [] := by
  refine pure_of ?_ rfl
  unfold covA
  refine XCal.of hm Try.func71 rfl (fun xs w => Try.call71 xs w) Try.ntmps71 Try.results71 rfl ?_
  simp only [go_sem, Nat.reduceEqDiff, Nat.reduceAdd, Nat.reduceSub, Nat.reduceMul, Nat.reduceLT, Nat.reduceLeDiff, Int.reducePow, Int.reduceBEq, Int.reduceBNe, Int.reduceDiv, Int.reduceMod, Int.reduceEq, Int.reduceLT, Int.reduceLE, Int.reduceAdd, Int.reduceSub, Int.reduceMul, Int.reduceNeg, Int.reduceToNat, Int.reduceTDiv, Int.reduceTMod, ↓reduceIte]
  cases hx : thereB x with
  | false =>
    rw [Bool.false_and, if_neg (by decide)]
    repeat ((first | refine (rnear15_ _ _).x ?_ | refine drawnF ?_ (by decide +kernel)); simp only [go_sem, Nat.reduceEqDiff, Nat.reduceAdd, Nat.reduceSub, Nat.reduceMul, Nat.reduceLT, Nat.reduceLeDiff, Int.reducePow, Int.reduceBEq, Int.reduceBNe, Int.reduceDiv, Int.reduceMod, Int.reduceEq, Int.reduceLT, Int.reduceLE, Int.reduceAdd, Int.reduceSub, Int.reduceMul, Int.reduceNeg, Int.reduceToNat, Int.reduceTDiv, Int.reduceTMod, ↓reduceIte, hx])
  | true =>
    cases hy : thereB y with
    | false =>
      rw [Bool.and_false, if_neg (by decide)]
      repeat ((first | refine (rnear15_ _ _).x ?_ | refine drawnF ?_ (by decide +kernel)); simp only [go_sem, Nat.reduceEqDiff, Nat.reduceAdd, Nat.reduceSub, Nat.reduceMul, Nat.reduceLT, Nat.reduceLeDiff, Int.reducePow, Int.reduceBEq, Int.reduceBNe, Int.reduceDiv, Int.reduceMod, Int.reduceEq, Int.reduceLT, Int.reduceLE, Int.reduceAdd, Int.reduceSub, Int.reduceMul, Int.reduceNeg, Int.reduceToNat, Int.reduceTDiv, Int.reduceTMod, ↓reduceIte, hx, hy])
    | true =>
      rw [Bool.and_self, if_pos rfl]
      repeat ((first | refine (rnear15_ _ _).x ?_ | refine drawnF ?_ (by decide +kernel)); simp only [go_sem, Nat.reduceEqDiff, Nat.reduceAdd, Nat.reduceSub, Nat.reduceMul, Nat.reduceLT, Nat.reduceLeDiff, Int.reducePow, Int.reduceBEq, Int.reduceBNe, Int.reduceDiv, Int.reduceMod, Int.reduceEq, Int.reduceLT, Int.reduceLE, Int.reduceAdd, Int.reduceSub, Int.reduceMul, Int.reduceNeg, Int.reduceToNat, Int.reduceTDiv, Int.reduceTMod, ↓reduceIte, hx, hy])
      have hx := thereB_b hx
      have hy := thereB_b hy
      refine keep (fun k T J D => D = [] ∧ H = J ∧ ∃ (j : Nat), j + k = 16 ∧ T 0 = v ∧ T 1 = .int .i64 rule ∧ T 2 = .int .i64 x ∧ T 3 = .int .i64 y ∧ T 10 = .int .i64 (j : Int) ∧ T 9 = .int .i64 (cntK (smp ps rule x y) j)) 16
        ⟨rfl, rfl, 0, by omega, by simp only [go_sem, Nat.reduceEqDiff, Nat.reduceAdd, Nat.reduceSub, Nat.reduceMul, Nat.reduceLT, Nat.reduceLeDiff, Int.reducePow, Int.reduceBEq, Int.reduceBNe, Int.reduceDiv, Int.reduceMod, Int.reduceEq, Int.reduceLT, Int.reduceLE, Int.reduceAdd, Int.reduceSub, Int.reduceMul, Int.reduceNeg, Int.reduceToNat, Int.reduceTDiv, Int.reduceTMod, ↓reduceIte], by simp only [go_sem, Nat.reduceEqDiff, Nat.reduceAdd, Nat.reduceSub, Nat.reduceMul, Nat.reduceLT, Nat.reduceLeDiff, Int.reducePow, Int.reduceBEq, Int.reduceBNe, Int.reduceDiv, Int.reduceMod, Int.reduceEq, Int.reduceLT, Int.reduceLE, Int.reduceAdd, Int.reduceSub, Int.reduceMul, Int.reduceNeg, Int.reduceToNat, Int.reduceTDiv, Int.reduceTMod, ↓reduceIte], by simp only [go_sem, Nat.reduceEqDiff, Nat.reduceAdd, Nat.reduceSub, Nat.reduceMul, Nat.reduceLT, Nat.reduceLeDiff, Int.reducePow, Int.reduceBEq, Int.reduceBNe, Int.reduceDiv, Int.reduceMod, Int.reduceEq, Int.reduceLT, Int.reduceLE, Int.reduceAdd, Int.reduceSub, Int.reduceMul, Int.reduceNeg, Int.reduceToNat, Int.reduceTDiv, Int.reduceTMod, ↓reduceIte], by simp only [go_sem, Nat.reduceEqDiff, Nat.reduceAdd, Nat.reduceSub, Nat.reduceMul, Nat.reduceLT, Nat.reduceLeDiff, Int.reducePow, Int.reduceBEq, Int.reduceBNe, Int.reduceDiv, Int.reduceMod, Int.reduceEq, Int.reduceLT, Int.reduceLE, Int.reduceAdd, Int.reduceSub, Int.reduceMul, Int.reduceNeg, Int.reduceToNat, Int.reduceTDiv, Int.reduceTMod, ↓reduceIte], by simp only [go_sem, Nat.reduceEqDiff, Nat.reduceAdd, Nat.reduceSub, Nat.reduceMul, Nat.reduceLT, Nat.reduceLeDiff, Int.reducePow, Int.reduceBEq, Int.reduceBNe, Int.reduceDiv, Int.reduceMod, Int.reduceEq, Int.reduceLT, Int.reduceLE, Int.reduceAdd, Int.reduceSub, Int.reduceMul, Int.reduceNeg, Int.reduceToNat, Int.reduceTDiv, Int.reduceTMod, ↓reduceIte] <;> rfl, by simp only [go_sem, Nat.reduceEqDiff, Nat.reduceAdd, Nat.reduceSub, Nat.reduceMul, Nat.reduceLT, Nat.reduceLeDiff, Int.reducePow, Int.reduceBEq, Int.reduceBNe, Int.reduceDiv, Int.reduceMod, Int.reduceEq, Int.reduceLT, Int.reduceLE, Int.reduceAdd, Int.reduceSub, Int.reduceMul, Int.reduceNeg, Int.reduceToNat, Int.reduceTDiv, Int.reduceTMod, ↓reduceIte] <;> rfl⟩ ?_
      rintro k T J D ⟨rfl, rfl, j, hjk, h0, h1, h2, h3, h10, h9⟩
      by_cases hj : j < 16
      · have hk : smp ps rule x y j = withB (IntKind.i64.wrap (windL ps (x * 65536 + 8192 + ((j % 4 : Nat) : Int) * 16384) (y * 65536 + 8192 + ((j / 4 : Nat) : Int) * 16384))) rule := rfl
        have m1 : ((j : Int)).tmod 4 = ((j % 4 : Nat) : Int) := by rw [Int.tmod_eq_emod_of_nonneg (by omega)]; rfl
        have m2 : ((j : Int)).tdiv 4 = ((j / 4 : Nat) : Int) := by rw [Int.tdiv_eq_ediv_of_nonneg (by omega)]; rfl
        generalize hr : j % 4 = r at *
        generalize hq : j / 4 = q at *
        have w1 : IntKind.i64.wrap ((j : Int) + 1) = ((j + 1 : Nat) : Int) := by rw [wi (by omega) (by omega)]; rfl
        have v0 : IntKind.i64.wrap (q : Int) = (q : Int) := wi (by omega) (by omega)
        have v1 : IntKind.i64.wrap (x * 65536) = x * 65536 := wi (by omega) (by omega)
        have v2 : IntKind.i64.wrap (y * 65536) = y * 65536 := wi (by omega) (by omega)
        have v3 : IntKind.i64.wrap (2 * (r : Int)) = 2 * (r : Int) := wi (by omega) (by omega)
        have v4 : IntKind.i64.wrap (2 * (q : Int)) = 2 * (q : Int) := wi (by omega) (by omega)
        have v5 : IntKind.i64.wrap (2 * (r : Int) + 1) = 2 * (r : Int) + 1 := wi (by omega) (by omega)
        have v6 : IntKind.i64.wrap (2 * (q : Int) + 1) = 2 * (q : Int) + 1 := wi (by omega) (by omega)
        have v7 : IntKind.i64.wrap ((2 * (r : Int) + 1) * 65536) = (2 * (r : Int) + 1) * 65536 := wi (by omega) (by omega)
        have v8 : IntKind.i64.wrap ((2 * (q : Int) + 1) * 65536) = (2 * (q : Int) + 1) * 65536 := wi (by omega) (by omega)
        have v9 : ((2 * (r : Int) + 1) * 65536).tdiv 8 = 8192 + (r : Int) * 16384 := by rw [Int.tdiv_eq_ediv_of_nonneg (by omega)]; omega
        have v10 : ((2 * (q : Int) + 1) * 65536).tdiv 8 = 8192 + (q : Int) * 16384 := by rw [Int.tdiv_eq_ediv_of_nonneg (by omega)]; omega
        have v11 : IntKind.i64.wrap (8192 + (r : Int) * 16384) = 8192 + (r : Int) * 16384 := wi (by omega) (by omega)
        have v12 : IntKind.i64.wrap (8192 + (q : Int) * 16384) = 8192 + (q : Int) * 16384 := wi (by omega) (by omega)
        have v13 : IntKind.i64.wrap (x * 65536 + (8192 + (r : Int) * 16384)) = x * 65536 + 8192 + (r : Int) * 16384 := by rw [wi (by omega) (by omega)]; omega
        have v14 : IntKind.i64.wrap (y * 65536 + (8192 + (q : Int) * 16384)) = y * 65536 + 8192 + (q : Int) * 16384 := by rw [wi (by omega) (by omega)]; omega
        have hcn : cntK (smp ps rule x y) (j + 1) = cntK (smp ps rule x y) j + if smp ps rule x y j = true then 1 else 0 := rfl
        have hcb := cntK_b (smp ps rule x y) j
        have u1 : IntKind.i64.wrap (cntK (smp ps rule x y) j + 1) = cntK (smp ps rule x y) j + 1 := wi (by omega) (by omega)
        simp only [go_sem, Nat.reduceEqDiff, Nat.reduceAdd, Nat.reduceSub, Nat.reduceMul, Nat.reduceLT, Nat.reduceLeDiff, Int.reducePow, Int.reduceBEq, Int.reduceBNe, Int.reduceDiv, Int.reduceMod, Int.reduceEq, Int.reduceLT, Int.reduceLE, Int.reduceAdd, Int.reduceSub, Int.reduceMul, Int.reduceNeg, Int.reduceToNat, Int.reduceTDiv, Int.reduceTMod, ↓reduceIte, h0, h1, h2, h3, h10, h9, dt (show (j : Int) < 16 by omega), m1, m2, v0, v1, v2, v3, v4, v5, v6, v7, v8, v9, v10, v11, v12, v13, v14]
        have hw := rwind_ ps v (x * 65536 + 8192 + (r : Int) * 16384) (y * 65536 + 8192 + (q : Int) * 16384) H h
        rw [place_in (by omega) (by omega), place_in (by omega) (by omega)] at hw
        refine hw.x ?_
        generalize IntKind.i64.wrap (windL ps (x * 65536 + 8192 + (r : Int) * 16384) (y * 65536 + 8192 + (q : Int) * 16384)) = w at *
        unfold withB at hk
        have fin : smp ps rule x y j = true → cntK (smp ps rule x y) (j + 1) = cntK (smp ps rule x y) j + 1 := fun h => by rw [hcn, if_pos h]
        have fin0 : smp ps rule x y j = false → cntK (smp ps rule x y) (j + 1) = cntK (smp ps rule x y) j := fun h => by rw [hcn, h, if_neg (by decide), Int.add_zero]
        by_cases r0 : rule = 0
        · rw [if_pos r0] at hk
          cases hn : (w != 0) with
          | true =>
            rw [hn] at hk
            simp only [go_sem, Nat.reduceEqDiff, Nat.reduceAdd, Nat.reduceSub, Nat.reduceMul, Nat.reduceLT, Nat.reduceLeDiff, Int.reducePow, Int.reduceBEq, Int.reduceBNe, Int.reduceDiv, Int.reduceMod, Int.reduceEq, Int.reduceLT, Int.reduceLE, Int.reduceAdd, Int.reduceSub, Int.reduceMul, Int.reduceNeg, Int.reduceToNat, Int.reduceTDiv, Int.reduceTMod, ↓reduceIte, h0, h1, h2, h3, h10, h9, bt r0, hn, w1, u1]
            exact ⟨k - 1, by omega, j + 1, by omega, rfl, by rw [fin hk]⟩
          | false =>
            rw [hn] at hk
            simp only [go_sem, Nat.reduceEqDiff, Nat.reduceAdd, Nat.reduceSub, Nat.reduceMul, Nat.reduceLT, Nat.reduceLeDiff, Int.reducePow, Int.reduceBEq, Int.reduceBNe, Int.reduceDiv, Int.reduceMod, Int.reduceEq, Int.reduceLT, Int.reduceLE, Int.reduceAdd, Int.reduceSub, Int.reduceMul, Int.reduceNeg, Int.reduceToNat, Int.reduceTDiv, Int.reduceTMod, ↓reduceIte, h0, h1, h2, h3, h10, h9, bt r0, bf (show ¬ rule = 1 by omega), hn, w1, u1]
            exact ⟨k - 1, by omega, j + 1, by omega, rfl, by rw [fin0 hk]⟩
        · rw [if_neg r0] at hk
          by_cases r1 : rule = 1
          · rw [if_pos r1] at hk
            cases hn : (w.tmod 2 != 0) with
            | true =>
              rw [hn] at hk
              simp only [go_sem, Nat.reduceEqDiff, Nat.reduceAdd, Nat.reduceSub, Nat.reduceMul, Nat.reduceLT, Nat.reduceLeDiff, Int.reducePow, Int.reduceBEq, Int.reduceBNe, Int.reduceDiv, Int.reduceMod, Int.reduceEq, Int.reduceLT, Int.reduceLE, Int.reduceAdd, Int.reduceSub, Int.reduceMul, Int.reduceNeg, Int.reduceToNat, Int.reduceTDiv, Int.reduceTMod, ↓reduceIte, h0, h1, h2, h3, h10, h9, bf r0, bt r1, hn, w1, u1]
              exact ⟨k - 1, by omega, j + 1, by omega, rfl, by rw [fin hk]⟩
            | false =>
              rw [hn] at hk
              simp only [go_sem, Nat.reduceEqDiff, Nat.reduceAdd, Nat.reduceSub, Nat.reduceMul, Nat.reduceLT, Nat.reduceLeDiff, Int.reducePow, Int.reduceBEq, Int.reduceBNe, Int.reduceDiv, Int.reduceMod, Int.reduceEq, Int.reduceLT, Int.reduceLE, Int.reduceAdd, Int.reduceSub, Int.reduceMul, Int.reduceNeg, Int.reduceToNat, Int.reduceTDiv, Int.reduceTMod, ↓reduceIte, h0, h1, h2, h3, h10, h9, bf r0, bt r1, hn, w1, u1]
              exact ⟨k - 1, by omega, j + 1, by omega, rfl, by rw [fin0 hk]⟩
          · rw [if_neg r1] at hk
            simp only [go_sem, Nat.reduceEqDiff, Nat.reduceAdd, Nat.reduceSub, Nat.reduceMul, Nat.reduceLT, Nat.reduceLeDiff, Int.reducePow, Int.reduceBEq, Int.reduceBNe, Int.reduceDiv, Int.reduceMod, Int.reduceEq, Int.reduceLT, Int.reduceLE, Int.reduceAdd, Int.reduceSub, Int.reduceMul, Int.reduceNeg, Int.reduceToNat, Int.reduceTDiv, Int.reduceTMod, ↓reduceIte, h0, h1, h2, h3, h10, h9, bf r0, bf r1, w1, u1]
            exact ⟨k - 1, by omega, j + 1, by omega, rfl, by rw [fin0 hk]⟩
      · have hj : j = 16 := by omega
        subst hj
        simp only [go_sem, Nat.reduceEqDiff, Nat.reduceAdd, Nat.reduceSub, Nat.reduceMul, Nat.reduceLT, Nat.reduceLeDiff, Int.reducePow, Int.reduceBEq, Int.reduceBNe, Int.reduceDiv, Int.reduceMod, Int.reduceEq, Int.reduceLT, Int.reduceLE, Int.reduceAdd, Int.reduceSub, Int.reduceMul, Int.reduceNeg, Int.reduceToNat, Int.reduceTDiv, Int.reduceTMod, ↓reduceIte, h0, h1, h2, h3, h10, h9, df (show ¬ ((16 : Nat) : Int) < 16 by omega)]
        rfl
end Go.Proofs.Ythoclopeajkcpaa
/- Chapter 15: the walks of a row of pixels, and of what compares both forms. -/
namespace Go.Proofs.Ythoclopeajkcpaa
open Go Go.RowKit E
attribute [local irreducible] XRun XOps XCode XCal XLoop XQ SemCall
set_option linter.unusedSimpArgs false
set_option linter.unusedVariables false
theorem zrep_int : ∀ n : Nat, zrep [.int .i64 0] n = intC (List.replicate n 0)
  | 0 => rfl
  | n + 1 => by
    rw [List.replicate_succ]
    show _ ++ zrep [.int .i64 0] n = [.int .i64 0] ++ intC (List.replicate n 0)
    rw [zrep_int n]
theorem amkI (n : Nat) (h : n ≤ 1000) : amake Try.prog 29 (.int .i64 (n : Int)) (.int .i64 (n : Int)) = some (intC (List.replicate n 0), 1, n) := by
  have hb : tby Try.prog 3 = some 8 := by kernel_rfl
  unfold amake
  simp only [go_sem, Nat.reduceEqDiff, Nat.reduceAdd, Nat.reduceSub, Nat.reduceMul, Nat.reduceLT, Nat.reduceLeDiff, Int.reducePow, Int.reduceBEq, Int.reduceBNe, Int.reduceDiv, Int.reduceMod, Int.reduceEq, Int.reduceLT, Int.reduceLE, Int.reduceAdd, Int.reduceSub, Int.reduceMul, Int.reduceNeg, Int.reduceToNat, Int.reduceTDiv, Int.reduceTMod, ↓reduceIte, hb]
  rw [if_pos (by simp; omega), Int.toNat_natCast, zrep_int]
theorem intC_set (l : List Int) (i : Nat) (v : Int) : (intC l).set i (.int .i64 v) = intC (l.set i v) := by
  simp only [intC, List.map_set]
theorem int_ast (H : AH) (l : List Int) {d : Nat} (hd : d < l.length) (v : Int) (b g : Nat) : ast H (some ⟨intC l, g, true⟩) (some [.int .i64 v]) (some 1) b d g = some (H.set b ⟨intC (l.set d v), g, true⟩, b) := by
  have := inC_len l
  have e : (intC l).set d (.int .i64 v) = (intC l).take d ++ .int .i64 v :: (intC l).drop (d + 1) := by rw [List.set_eq_take_append_cons_drop, if_pos (by omega)]
  rw [ast_some (s := 1) rfl (by omega), ← intC_set, e, splice_def]
  simp
def rowOk (x0 x1 : Int) : Bool := !decide (x1 ≤ x0) && thereB x0 && thereB x1
def rowN (x0 x1 : Int) : Nat := if rowOk x0 x1 = true then (x1 - x0).toNat else 0
def rowI (ps : List PL) (rule y x0 : Int) (n : Nat) : List Int := (List.range n).map fun (j : Nat) => covA ps rule (x0 + (j : Int)) y
theorem rowI_get (ps : List PL) (rule y x0 : Int) {n j : Nat} (h : j < n) : (rowI ps rule y x0 n)[j]? = some (covA ps rule (x0 + (j : Int)) y) := by
  unfold rowI; rw [List.getElem?_map, List.getElem?_range h]; rfl
theorem rowI_ext {ps : List PL} {rule y x0 : Int} {n : Nat} {l : List Int} (hl : l.length = n) (h : ∀ j, j < n → l[j]? = some (covA ps rule (x0 + (j : Int)) y)) : l = rowI ps rule y x0 n := by
  refine List.ext_getElem? fun j => ?_
  by_cases hj : j < n
  · rw [h j hj, rowI_get ps rule y x0 hj]
  · rw [List.getElem?_eq_none (by omega), List.getElem?_eq_none (by unfold rowI; rw [List.length_map, List.length_range]; omega)]
def RowI (K : AH) (v : Value) (l : List Int) : Prop := (l = [] ∧ v = .slice none 0 0) ∨ ∃ b g, v = sl b 0 g l.length 1 ∧ K[b]? = some ⟨intC l, g, true⟩
theorem Olx.cons (H : AH) (x y : Blk) (A B : AH) (o : Olx H.length (H ++ (x :: A)) B) : Olx H.length H B := fun c k hc e => o c k hc (old_get e _)
set_option maxHeartbeats 4000000 in
theorem crow_ (ps : List PL) (v : Value) (rule y x0 x1 : Int) (H : AH) (h : Polys H v ps) (hl : PolyS ps) : Cal Try.prog 70 [v, .int .i64 rule, .int .i64 y, .int .i64 x0, .int .i64 x1] H fun v' H' W => W = [] ∧ (∃ L, H' = H ++ L) ∧ RowI H' v' (rowI ps rule y x0 (rowN x0 x1)) := by
  refine adds_of ?_
  by_cases hok : rowOk x0 x1 = true
  · have hn : rowN x0 x1 = (x1 - x0).toNat := by unfold rowN; rw [if_pos hok]
    simp only [rowOk, Bool.and_eq_true, Bool.not_eq_true', decide_eq_false_iff_not] at hok
    obtain ⟨⟨hlt, ht0⟩, ht1⟩ := hok
    have b0 := thereB_b ht0
    have b1 := thereB_b ht1
    have hnn : x1 - x0 = (rowN x0 x1 : Int) := by rw [hn]; omega
    generalize rowN x0 x1 = n at *
    have w0 : IntKind.i64.wrap (x1 - x0) = (n : Int) := by rw [wi (by omega) (by omega)]; exact hnn
    have hn1 : n ≤ 1000 := by omega
    refine XCal.of hm Try.func70 rfl (fun xs w => Try.call70 xs w) Try.ntmps70 Try.results70 rfl ?_
    simp only [go_sem, Nat.reduceEqDiff, Nat.reduceAdd, Nat.reduceSub, Nat.reduceMul, Nat.reduceLT, Nat.reduceLeDiff, Int.reducePow, Int.reduceBEq, Int.reduceBNe, Int.reduceDiv, Int.reduceMod, Int.reduceEq, Int.reduceLT, Int.reduceLE, Int.reduceAdd, Int.reduceSub, Int.reduceMul, Int.reduceNeg, Int.reduceToNat, Int.reduceTDiv, Int.reduceTMod, ↓reduceIte, df hlt]
    cases hy : thereB y with
    | false =>
      repeat ((first | refine (there_ _ _).x ?_ | refine drawnF ?_ (by decide +kernel)); simp only [go_sem, Nat.reduceEqDiff, Nat.reduceAdd, Nat.reduceSub, Nat.reduceMul, Nat.reduceLT, Nat.reduceLeDiff, Int.reducePow, Int.reduceBEq, Int.reduceBNe, Int.reduceDiv, Int.reduceMod, Int.reduceEq, Int.reduceLT, Int.reduceLE, Int.reduceAdd, Int.reduceSub, Int.reduceMul, Int.reduceNeg, Int.reduceToNat, Int.reduceTDiv, Int.reduceTMod, ↓reduceIte, df hlt, ht0, ht1, hy, w0, amkI n hn1])
      refine .inr ⟨H.length, 0, by rw [show (rowI ps rule y x0 n).length = n by simp [rowI]], ?_⟩
      rw [hget_app0]
      have : List.replicate n (0 : Int) = rowI ps rule y x0 n := rowI_ext (by simp) fun j hj => by
        rw [List.getElem?_replicate_of_lt hj]
        unfold covA; rw [hy, Bool.and_false, if_neg (by decide)]
      rw [this]; rfl
    | true =>
      repeat ((first | refine (there_ _ _).x ?_ | refine drawnF ?_ (by decide +kernel)); simp only [go_sem, Nat.reduceEqDiff, Nat.reduceAdd, Nat.reduceSub, Nat.reduceMul, Nat.reduceLT, Nat.reduceLeDiff, Int.reducePow, Int.reduceBEq, Int.reduceBNe, Int.reduceDiv, Int.reduceMod, Int.reduceEq, Int.reduceLT, Int.reduceLE, Int.reduceAdd, Int.reduceSub, Int.reduceMul, Int.reduceNeg, Int.reduceToNat, Int.reduceTDiv, Int.reduceTMod, ↓reduceIte, df hlt, ht0, ht1, hy, w0, amkI n hn1])
      refine (clineOf_ ps v y _ (h.app _) hl.1 hl.2).x ?_
      rintro v' H1 W1 ⟨rfl, ⟨L, rfl⟩, v1, v2, rfl, hR⟩
      have hL1 : H.length + 1 ≤ (H ++ [(⟨intC (List.replicate n 0), 0, true⟩ : Blk)] ++ L).length := by simp
      have hmk : (H ++ [(⟨intC (List.replicate n 0), 0, true⟩ : Blk)] ++ L)[H.length]? = some ⟨intC (List.replicate n 0), 0, true⟩ := by rw [List.append_assoc, hget_app0]; rfl
      rw [show (H ++ [(⟨intC (List.replicate n 0), 0, true⟩ : Blk)]).length = H.length + 1 by simp] at hR
      generalize H ++ [(⟨intC (List.replicate n 0), 0, true⟩ : Blk)] ++ L = K0 at *
      have dk0 : decide (K0.length < H.length) = false := df (by omega)
      have dkh : decide (H.length < H.length) = false := df (by omega)
      simp only [go_sem, Nat.reduceEqDiff, Nat.reduceAdd, Nat.reduceSub, Nat.reduceMul, Nat.reduceLT, Nat.reduceLeDiff, Int.reducePow, Int.reduceBEq, Int.reduceBNe, Int.reduceDiv, Int.reduceMod, Int.reduceEq, Int.reduceLT, Int.reduceLE, Int.reduceAdd, Int.reduceSub, Int.reduceMul, Int.reduceNeg, Int.reduceToNat, Int.reduceTDiv, Int.reduceTMod, ↓reduceIte, dk0]
      refine keep (fun k T K D => D = [] ∧ ∃ (i : Nat) (cur : List Int), i + k = n ∧ cur.length = n ∧ (∀ j, j < i → cur[j]? = some (covA ps rule (x0 + (j : Int)) y)) ∧ K[H.length]? = some ⟨intC cur, 0, true⟩ ∧ K[K0.length]? = some ⟨[v1, v2], 0, true⟩ ∧ LnR (H.length + 1) K v1 v2 (lineL ps y) ∧ T 1 = .int .i64 rule ∧ T 2 = .int .i64 y ∧ T 3 = .int .i64 x0 ∧ T 11 = sl H.length 0 0 n 1 ∧ T 12 = ap K0.length 0 0 ∧ T 39 = .int .i64 (n : Int) ∧ T 40 = .int .i64 (i : Int)) n
        ⟨rfl, 0, List.replicate n 0, by omega, by simp, fun j hj => absurd hj (by omega), old_get hmk _, by rw [hget_app0]; rfl, hR.olx (Olx.old (Old.app' _ _)) (Nat.lt_succ_self _), by simp only [go_sem, Nat.reduceEqDiff, Nat.reduceAdd, Nat.reduceSub, Nat.reduceMul, Nat.reduceLT, Nat.reduceLeDiff, Int.reducePow, Int.reduceBEq, Int.reduceBNe, Int.reduceDiv, Int.reduceMod, Int.reduceEq, Int.reduceLT, Int.reduceLE, Int.reduceAdd, Int.reduceSub, Int.reduceMul, Int.reduceNeg, Int.reduceToNat, Int.reduceTDiv, Int.reduceTMod, ↓reduceIte], by simp only [go_sem, Nat.reduceEqDiff, Nat.reduceAdd, Nat.reduceSub, Nat.reduceMul, Nat.reduceLT, Nat.reduceLeDiff, Int.reducePow, Int.reduceBEq, Int.reduceBNe, Int.reduceDiv, Int.reduceMod, Int.reduceEq, Int.reduceLT, Int.reduceLE, Int.reduceAdd, Int.reduceSub, Int.reduceMul, Int.reduceNeg, Int.reduceToNat, Int.reduceTDiv, Int.reduceTMod, ↓reduceIte], by simp only [go_sem, Nat.reduceEqDiff, Nat.reduceAdd, Nat.reduceSub, Nat.reduceMul, Nat.reduceLT, Nat.reduceLeDiff, Int.reducePow, Int.reduceBEq, Int.reduceBNe, Int.reduceDiv, Int.reduceMod, Int.reduceEq, Int.reduceLT, Int.reduceLE, Int.reduceAdd, Int.reduceSub, Int.reduceMul, Int.reduceNeg, Int.reduceToNat, Int.reduceTDiv, Int.reduceTMod, ↓reduceIte], by simp only [go_sem, Nat.reduceEqDiff, Nat.reduceAdd, Nat.reduceSub, Nat.reduceMul, Nat.reduceLT, Nat.reduceLeDiff, Int.reducePow, Int.reduceBEq, Int.reduceBNe, Int.reduceDiv, Int.reduceMod, Int.reduceEq, Int.reduceLT, Int.reduceLE, Int.reduceAdd, Int.reduceSub, Int.reduceMul, Int.reduceNeg, Int.reduceToNat, Int.reduceTDiv, Int.reduceTMod, ↓reduceIte], by simp only [go_sem, Nat.reduceEqDiff, Nat.reduceAdd, Nat.reduceSub, Nat.reduceMul, Nat.reduceLT, Nat.reduceLeDiff, Int.reducePow, Int.reduceBEq, Int.reduceBNe, Int.reduceDiv, Int.reduceMod, Int.reduceEq, Int.reduceLT, Int.reduceLE, Int.reduceAdd, Int.reduceSub, Int.reduceMul, Int.reduceNeg, Int.reduceToNat, Int.reduceTDiv, Int.reduceTMod, ↓reduceIte], by simp only [go_sem, Nat.reduceEqDiff, Nat.reduceAdd, Nat.reduceSub, Nat.reduceMul, Nat.reduceLT, Nat.reduceLeDiff, Int.reducePow, Int.reduceBEq, Int.reduceBNe, Int.reduceDiv, Int.reduceMod, Int.reduceEq, Int.reduceLT, Int.reduceLE, Int.reduceAdd, Int.reduceSub, Int.reduceMul, Int.reduceNeg, Int.reduceToNat, Int.reduceTDiv, Int.reduceTMod, ↓reduceIte], by simp only [go_sem, Nat.reduceEqDiff, Nat.reduceAdd, Nat.reduceSub, Nat.reduceMul, Nat.reduceLT, Nat.reduceLeDiff, Int.reducePow, Int.reduceBEq, Int.reduceBNe, Int.reduceDiv, Int.reduceMod, Int.reduceEq, Int.reduceLT, Int.reduceLE, Int.reduceAdd, Int.reduceSub, Int.reduceMul, Int.reduceNeg, Int.reduceToNat, Int.reduceTDiv, Int.reduceTMod, ↓reduceIte] <;> rfl⟩ ?_
      clear hmk hR h
      rintro k T K D ⟨rfl, i, cur, hik, hcl, hcur, hmk, hst, hR, h1, h2, h3, h11, h12, h39, h40⟩
      by_cases hi : i < n
      · have q0 : (0 : Int) ≤ (i : Int) := by omega
        have q1 : (i : Int) < (n : Int) := by omega
        have w1 : IntKind.i64.wrap ((i : Int) + 1) = ((i + 1 : Nat) : Int) := by rw [wi (by omega) (by omega)]; rfl
        have w2 : IntKind.i64.wrap (x0 + (i : Int)) = x0 + (i : Int) := wi (by omega) (by omega)
        have htx : thereB (x0 + (i : Int)) = true := by unfold thereB; rw [dt (by omega), dt (by omega)]; rfl
        have hca : covA ps rule (x0 + (i : Int)) y = covN ps rule (x0 + (i : Int)) y := by unfold covA; rw [htx, hy, Bool.and_self, if_pos rfl]
        simp only [go_sem, Nat.reduceEqDiff, Nat.reduceAdd, Nat.reduceSub, Nat.reduceMul, Nat.reduceLT, Nat.reduceLeDiff, Int.reducePow, Int.reduceBEq, Int.reduceBNe, Int.reduceDiv, Int.reduceMod, Int.reduceEq, Int.reduceLT, Int.reduceLE, Int.reduceAdd, Int.reduceSub, Int.reduceMul, Int.reduceNeg, Int.reduceToNat, Int.reduceTDiv, Int.reduceTMod, ↓reduceIte, h1, h2, h3, h11, h12, h39, h40, dt q1, w2, hst]
        refine (cat_ v1 v2 _ rule _ y _ hR (by have := lineL_len ps y; have := hl.1; omega) htx hy).x ?_
        rw [covN_line, ← hca]
        have hia := int_ast K cur (d := i) (by omega) (covA ps rule (x0 + (i : Int)) y) H.length 0
        simp only [go_sem, Nat.reduceEqDiff, Nat.reduceAdd, Nat.reduceSub, Nat.reduceMul, Nat.reduceLT, Nat.reduceLeDiff, Int.reducePow, Int.reduceBEq, Int.reduceBNe, Int.reduceDiv, Int.reduceMod, Int.reduceEq, Int.reduceLT, Int.reduceLE, Int.reduceAdd, Int.reduceSub, Int.reduceMul, Int.reduceNeg, Int.reduceToNat, Int.reduceTDiv, Int.reduceTMod, ↓reduceIte, h1, h2, h3, h11, h12, h39, h40, q0, q1, Int.toNat_natCast, Nat.zero_add, Nat.mul_one, hmk, hia, dkh, w1]
        have hlk := (List.getElem?_eq_some_iff.1 hmk).1
        refine ⟨k - 1, by omega, i + 1, cur.set i (covA ps rule (x0 + (i : Int)) y), by omega, by simpa using hcl, fun j hj => ?_, List.getElem?_set_self hlk, by rw [List.getElem?_set_ne (by omega)]; exact hst, hR.olx (Olx.set0 _ _ _) (Nat.lt_succ_self _), rfl⟩
        by_cases hji : j = i
        · subst hji; exact List.getElem?_set_self (by omega)
        · rw [List.getElem?_set_ne (fun e => hji e.symm)]; exact hcur j (by omega)
      · have hi : i = n := by omega
        subst hi
        simp only [go_sem, Nat.reduceEqDiff, Nat.reduceAdd, Nat.reduceSub, Nat.reduceMul, Nat.reduceLT, Nat.reduceLeDiff, Int.reducePow, Int.reduceBEq, Int.reduceBNe, Int.reduceDiv, Int.reduceMod, Int.reduceEq, Int.reduceLT, Int.reduceLE, Int.reduceAdd, Int.reduceSub, Int.reduceMul, Int.reduceNeg, Int.reduceToNat, Int.reduceTDiv, Int.reduceTMod, ↓reduceIte, h1, h2, h3, h11, h12, h39, h40, df (show ¬ (i : Int) < (i : Int) by omega)]
        rw [← rowI_ext hcl hcur]
        exact .inr ⟨H.length, 0, by rw [hcl], hmk⟩
  · have hn : rowN x0 x1 = 0 := by unfold rowN; rw [if_neg hok]
    rw [hn]
    have hr : rowI ps rule y x0 0 = [] := rfl
    refine XCal.of hm Try.func70 rfl (fun xs w => Try.call70 xs w) Try.ntmps70 Try.results70 rfl ?_
    cases h1 : decide (x1 ≤ x0) with
    | true =>
      simp only [go_sem, Nat.reduceEqDiff, Nat.reduceAdd, Nat.reduceSub, Nat.reduceMul, Nat.reduceLT, Nat.reduceLeDiff, Int.reducePow, Int.reduceBEq, Int.reduceBNe, Int.reduceDiv, Int.reduceMod, Int.reduceEq, Int.reduceLT, Int.reduceLE, Int.reduceAdd, Int.reduceSub, Int.reduceMul, Int.reduceNeg, Int.reduceToNat, Int.reduceTDiv, Int.reduceTMod, ↓reduceIte, h1]
      exact .inl ⟨hr, rfl⟩
    | false =>
      simp only [go_sem, Nat.reduceEqDiff, Nat.reduceAdd, Nat.reduceSub, Nat.reduceMul, Nat.reduceLT, Nat.reduceLeDiff, Int.reducePow, Int.reduceBEq, Int.reduceBNe, Int.reduceDiv, Int.reduceMod, Int.reduceEq, Int.reduceLT, Int.reduceLE, Int.reduceAdd, Int.reduceSub, Int.reduceMul, Int.reduceNeg, Int.reduceToNat, Int.reduceTDiv, Int.reduceTMod, ↓reduceIte, h1]
      cases h2 : thereB x0 with
      | false =>
        repeat ((first | refine (there_ _ _).x ?_ | refine drawnF ?_ (by decide +kernel)); simp only [go_sem, Nat.reduceEqDiff, Nat.reduceAdd, Nat.reduceSub, Nat.reduceMul, Nat.reduceLT, Nat.reduceLeDiff, Int.reducePow, Int.reduceBEq, Int.reduceBNe, Int.reduceDiv, Int.reduceMod, Int.reduceEq, Int.reduceLT, Int.reduceLE, Int.reduceAdd, Int.reduceSub, Int.reduceMul, Int.reduceNeg, Int.reduceToNat, Int.reduceTDiv, Int.reduceTMod, ↓reduceIte, h1, h2])
        exact .inl ⟨hr, rfl⟩
      | true =>
        cases h3 : thereB x1 with
        | false =>
          repeat ((first | refine (there_ _ _).x ?_ | refine drawnF ?_ (by decide +kernel)); simp only [go_sem, Nat.reduceEqDiff, Nat.reduceAdd, Nat.reduceSub, Nat.reduceMul, Nat.reduceLT, Nat.reduceLeDiff, Int.reducePow, Int.reduceBEq, Int.reduceBNe, Int.reduceDiv, Int.reduceMod, Int.reduceEq, Int.reduceLT, Int.reduceLE, Int.reduceAdd, Int.reduceSub, Int.reduceMul, Int.reduceNeg, Int.reduceToNat, Int.reduceTDiv, Int.reduceTMod, ↓reduceIte, h1, h2, h3])
          exact .inl ⟨hr, rfl⟩
        | true => exact absurd (by unfold rowOk; rw [h1, h2, h3]; rfl) hok
end Go.Proofs.Ythoclopeajkcpaa
/- Chapter 15: the walks of what compares both forms of a row, and of some runs. -/
namespace Go.Proofs.Ythoclopeajkcpaa
open Go Go.RowKit E
attribute [local irreducible] XRun XOps XCode XCal XLoop XQ SemCall
set_option linter.unusedSimpArgs false
set_option linter.unusedVariables false
theorem RowI.form {K : AH} {v : Value} {l : List Int} (h : RowI K v l) : ∃ a e, v = .slice a l.length e := by
  rcases h with ⟨rfl, rfl⟩ | ⟨b, g, rfl, _⟩
  · exact ⟨_, _, rfl⟩
  · exact ⟨_, _, rfl⟩
theorem rowI_len (ps : List PL) (rule y x0 : Int) (n : Nat) : (rowI ps rule y x0 n).length = n := by simp [rowI]
set_option maxHeartbeats 4000000 in
theorem csame_ (ps : List PL) (v : Value) (rule y x0 x1 : Int) (H : AH) (h : Polys H v ps) (hl : PolyS ps) : SemCall Try.prog 43 [v, .int .i64 rule, .int .i64 y, .int .i64 x0, .int .i64 x1] H (.bool true) H [] := by
  refine pure_of ?_ rfl
  refine XCal.of hm Try.func43 rfl (fun xs w => Try.call43 xs w) Try.ntmps43 Try.results43 rfl ?_
  simp only [go_sem, Nat.reduceEqDiff, Nat.reduceAdd, Nat.reduceSub, Nat.reduceMul, Nat.reduceLT, Nat.reduceLeDiff, Int.reducePow, Int.reduceBEq, Int.reduceBNe, Int.reduceDiv, Int.reduceMod, Int.reduceEq, Int.reduceLT, Int.reduceLE, Int.reduceAdd, Int.reduceSub, Int.reduceMul, Int.reduceNeg, Int.reduceToNat, Int.reduceTDiv, Int.reduceTMod, ↓reduceIte]
  refine (crow_ ps v rule y x0 x1 H h hl).x ?_
  rintro v' H1 W1 ⟨rfl, ⟨L, rfl⟩, hR⟩
  have h' := h.app L
  obtain ⟨a, e, hv⟩ := hR.form
  rw [rowI_len] at hv
  subst hv
  generalize H ++ L = K at *
  by_cases hlt : x1 ≤ x0
  · have : rowN x0 x1 = 0 := by unfold rowN rowOk; rw [dt hlt]; rfl
    simp only [go_sem, Nat.reduceEqDiff, Nat.reduceAdd, Nat.reduceSub, Nat.reduceMul, Nat.reduceLT, Nat.reduceLeDiff, Int.reducePow, Int.reduceBEq, Int.reduceBNe, Int.reduceDiv, Int.reduceMod, Int.reduceEq, Int.reduceLT, Int.reduceLE, Int.reduceAdd, Int.reduceSub, Int.reduceMul, Int.reduceNeg, Int.reduceToNat, Int.reduceTDiv, Int.reduceTMod, ↓reduceIte, dt hlt, this]
  · by_cases ha : x0 < -256
    · have : rowN x0 x1 = 0 := by unfold rowN rowOk thereB; rw [df (show ¬ -256 ≤ x0 by omega), Bool.false_and, Bool.and_false, Bool.false_and]; rfl
      simp only [go_sem, Nat.reduceEqDiff, Nat.reduceAdd, Nat.reduceSub, Nat.reduceMul, Nat.reduceLT, Nat.reduceLeDiff, Int.reducePow, Int.reduceBEq, Int.reduceBNe, Int.reduceDiv, Int.reduceMod, Int.reduceEq, Int.reduceLT, Int.reduceLE, Int.reduceAdd, Int.reduceSub, Int.reduceMul, Int.reduceNeg, Int.reduceToNat, Int.reduceTDiv, Int.reduceTMod, ↓reduceIte, df hlt, dt ha, this]
    · by_cases hb : 256 < x1
      · have : rowN x0 x1 = 0 := by unfold rowN rowOk thereB; rw [df (show ¬ x1 ≤ 256 by omega), Bool.and_false, Bool.and_false]; rfl
        simp only [go_sem, Nat.reduceEqDiff, Nat.reduceAdd, Nat.reduceSub, Nat.reduceMul, Nat.reduceLT, Nat.reduceLeDiff, Int.reducePow, Int.reduceBEq, Int.reduceBNe, Int.reduceDiv, Int.reduceMod, Int.reduceEq, Int.reduceLT, Int.reduceLE, Int.reduceAdd, Int.reduceSub, Int.reduceMul, Int.reduceNeg, Int.reduceToNat, Int.reduceTDiv, Int.reduceTMod, ↓reduceIte, df hlt, df ha, dt hb, this]
      · have hn : (rowN x0 x1 : Int) = x1 - x0 := by
          unfold rowN rowOk thereB
          rw [df hlt, dt (show -256 ≤ x0 by omega), dt (show x0 ≤ 256 by omega), dt (show -256 ≤ x1 by omega), dt (show x1 ≤ 256 by omega)]
          show (((x1 - x0).toNat : Nat) : Int) = _
          omega
        generalize rowN x0 x1 = n at *
        have w0 : IntKind.i64.wrap (x1 - x0) = (n : Int) := by rw [wi (by omega) (by omega)]; omega
        rcases hR with ⟨hR1, _⟩ | ⟨b, g, hsl, hk⟩
        · have := congrArg List.length hR1
          rw [rowI_len] at this
          simp at this; omega
        rw [rowI_len] at hsl
        rw [hsl]
        simp only [go_sem, Nat.reduceEqDiff, Nat.reduceAdd, Nat.reduceSub, Nat.reduceMul, Nat.reduceLT, Nat.reduceLeDiff, Int.reducePow, Int.reduceBEq, Int.reduceBNe, Int.reduceDiv, Int.reduceMod, Int.reduceEq, Int.reduceLT, Int.reduceLE, Int.reduceAdd, Int.reduceSub, Int.reduceMul, Int.reduceNeg, Int.reduceToNat, Int.reduceTDiv, Int.reduceTMod, ↓reduceIte, df hlt, df ha, df hb, w0, bne_self_eq_false]
        refine keep (fun k T J D => D = [] ∧ K = J ∧ ∃ (i : Nat), i + k = n ∧ T 0 = v ∧ T 1 = .int .i64 rule ∧ T 2 = .int .i64 y ∧ T 3 = .int .i64 x0 ∧ T 11 = sl b 0 g n 1 ∧ T 41 = .int .i64 (n : Int) ∧ T 42 = .int .i64 (i : Int)) n
          ⟨rfl, rfl, 0, by omega, by simp only [go_sem, Nat.reduceEqDiff, Nat.reduceAdd, Nat.reduceSub, Nat.reduceMul, Nat.reduceLT, Nat.reduceLeDiff, Int.reducePow, Int.reduceBEq, Int.reduceBNe, Int.reduceDiv, Int.reduceMod, Int.reduceEq, Int.reduceLT, Int.reduceLE, Int.reduceAdd, Int.reduceSub, Int.reduceMul, Int.reduceNeg, Int.reduceToNat, Int.reduceTDiv, Int.reduceTMod, ↓reduceIte], by simp only [go_sem, Nat.reduceEqDiff, Nat.reduceAdd, Nat.reduceSub, Nat.reduceMul, Nat.reduceLT, Nat.reduceLeDiff, Int.reducePow, Int.reduceBEq, Int.reduceBNe, Int.reduceDiv, Int.reduceMod, Int.reduceEq, Int.reduceLT, Int.reduceLE, Int.reduceAdd, Int.reduceSub, Int.reduceMul, Int.reduceNeg, Int.reduceToNat, Int.reduceTDiv, Int.reduceTMod, ↓reduceIte], by simp only [go_sem, Nat.reduceEqDiff, Nat.reduceAdd, Nat.reduceSub, Nat.reduceMul, Nat.reduceLT, Nat.reduceLeDiff, Int.reducePow, Int.reduceBEq, Int.reduceBNe, Int.reduceDiv, Int.reduceMod, Int.reduceEq, Int.reduceLT, Int.reduceLE, Int.reduceAdd, Int.reduceSub, Int.reduceMul, Int.reduceNeg, Int.reduceToNat, Int.reduceTDiv, Int.reduceTMod, ↓reduceIte], by simp only [go_sem, Nat.reduceEqDiff, Nat.reduceAdd, Nat.reduceSub, Nat.reduceMul, Nat.reduceLT, Nat.reduceLeDiff, Int.reducePow, Int.reduceBEq, Int.reduceBNe, Int.reduceDiv, Int.reduceMod, Int.reduceEq, Int.reduceLT, Int.reduceLE, Int.reduceAdd, Int.reduceSub, Int.reduceMul, Int.reduceNeg, Int.reduceToNat, Int.reduceTDiv, Int.reduceTMod, ↓reduceIte], by simp only [go_sem, Nat.reduceEqDiff, Nat.reduceAdd, Nat.reduceSub, Nat.reduceMul, Nat.reduceLT, Nat.reduceLeDiff, Int.reducePow, Int.reduceBEq, Int.reduceBNe, Int.reduceDiv, Int.reduceMod, Int.reduceEq, Int.reduceLT, Int.reduceLE, Int.reduceAdd, Int.reduceSub, Int.reduceMul, Int.reduceNeg, Int.reduceToNat, Int.reduceTDiv, Int.reduceTMod, ↓reduceIte], by simp only [go_sem, Nat.reduceEqDiff, Nat.reduceAdd, Nat.reduceSub, Nat.reduceMul, Nat.reduceLT, Nat.reduceLeDiff, Int.reducePow, Int.reduceBEq, Int.reduceBNe, Int.reduceDiv, Int.reduceMod, Int.reduceEq, Int.reduceLT, Int.reduceLE, Int.reduceAdd, Int.reduceSub, Int.reduceMul, Int.reduceNeg, Int.reduceToNat, Int.reduceTDiv, Int.reduceTMod, ↓reduceIte], by simp only [go_sem, Nat.reduceEqDiff, Nat.reduceAdd, Nat.reduceSub, Nat.reduceMul, Nat.reduceLT, Nat.reduceLeDiff, Int.reducePow, Int.reduceBEq, Int.reduceBNe, Int.reduceDiv, Int.reduceMod, Int.reduceEq, Int.reduceLT, Int.reduceLE, Int.reduceAdd, Int.reduceSub, Int.reduceMul, Int.reduceNeg, Int.reduceToNat, Int.reduceTDiv, Int.reduceTMod, ↓reduceIte] <;> rfl⟩ ?_
        rintro k T J D ⟨rfl, rfl, i, hik, h0, h1, h2, h3, h11, h41, h42⟩
        by_cases hi : i < n
        · have q0 : (0 : Int) ≤ (i : Int) := by omega
          have q1 : (i : Int) < (n : Int) := by omega
          have w1 : IntKind.i64.wrap ((i : Int) + 1) = ((i + 1 : Nat) : Int) := by rw [wi (by omega) (by omega)]; rfl
          have w2 : IntKind.i64.wrap (x0 + (i : Int)) = x0 + (i : Int) := wi (by omega) (by omega)
          have hg : (intC (rowI ps rule y x0 n))[i]? = some (.int .i64 (covA ps rule (x0 + (i : Int)) y)) := by
            unfold intC; rw [List.getElem?_map, rowI_get ps rule y x0 hi]; rfl
          have c1 := rcover_ ps v rule (x0 + (i : Int)) y K h'
          have c2 := catA_ ps v rule (x0 + (i : Int)) y K h' hl
          simp only [go_sem, Nat.reduceEqDiff, Nat.reduceAdd, Nat.reduceSub, Nat.reduceMul, Nat.reduceLT, Nat.reduceLeDiff, Int.reducePow, Int.reduceBEq, Int.reduceBNe, Int.reduceDiv, Int.reduceMod, Int.reduceEq, Int.reduceLT, Int.reduceLE, Int.reduceAdd, Int.reduceSub, Int.reduceMul, Int.reduceNeg, Int.reduceToNat, Int.reduceTDiv, Int.reduceTMod, ↓reduceIte, h0, h1, h2, h3, h11, h41, h42, dt q1, w2]
          repeat ((first | refine (c1).x ?_ | refine (c2).x ?_ | refine drawnF ?_ (by decide +kernel)); simp only [go_sem, Nat.reduceEqDiff, Nat.reduceAdd, Nat.reduceSub, Nat.reduceMul, Nat.reduceLT, Nat.reduceLeDiff, Int.reducePow, Int.reduceBEq, Int.reduceBNe, Int.reduceDiv, Int.reduceMod, Int.reduceEq, Int.reduceLT, Int.reduceLE, Int.reduceAdd, Int.reduceSub, Int.reduceMul, Int.reduceNeg, Int.reduceToNat, Int.reduceTDiv, Int.reduceTMod, ↓reduceIte, h0, h1, h2, h3, h11, h41, h42, q0, q1, w1, w2, Int.toNat_natCast, Nat.zero_add, Nat.mul_one, hk, hg, bne_self_eq_false])
          exact ⟨k - 1, by omega, i + 1, by omega, rfl⟩
        · have hi : i = n := by omega
          subst hi
          simp only [go_sem, Nat.reduceEqDiff, Nat.reduceAdd, Nat.reduceSub, Nat.reduceMul, Nat.reduceLT, Nat.reduceLeDiff, Int.reducePow, Int.reduceBEq, Int.reduceBNe, Int.reduceDiv, Int.reduceMod, Int.reduceEq, Int.reduceLT, Int.reduceLE, Int.reduceAdd, Int.reduceSub, Int.reduceMul, Int.reduceNeg, Int.reduceToNat, Int.reduceTDiv, Int.reduceTMod, ↓reduceIte, h0, h1, h2, h3, h11, h41, h42, df (show ¬ (i : Int) < (i : Int) by omega)]
theorem ck1 : covA [(false, [(0, 0), (65536, 0), (65536, 65536), (0, 65536)])] 0 0 0 = 16 := by decide +kernel
theorem ck2 : covA [(false, [(0, 0), (32768, 0), (32768, 65536), (0, 65536)])] 1 0 0 = 8 := by decide +kernel
theorem ck3 : covA [(false, [(0, 0), (65536, 0), (65536, 65536), (0, 65536)])] 0 1 0 = 0 := by decide +kernel
theorem ck4 : covA [(false, [(0, 0), (65536, 0), (65536, 65536), (0, 65536)])] 7 0 0 = 0 := by decide +kernel
theorem ck5 : IntKind.i64.wrap (windL [(false, [(0, 0), (65536, 0), (65536, 65536), (0, 65536)])] (place 5) (place 5)) = 1 := by decide +kernel
def sq1 : List Pt := [(0, 0), (65536, 0), (65536, 65536), (0, 65536)]
def sq2 : List Pt := [(0, 0), (32768, 0), (32768, 65536), (0, 65536)]
theorem cknown_ (H : AH) : SemCall Try.prog 39 [] H (.bool true) H [] := by
  refine pure_of ?_ rfl
  refine XCal.of hm Try.func39 rfl (fun xs w => Try.call39 xs w) Try.ntmps39 Try.results39 rfl ?_
  simp only [go_sem, Nat.reduceEqDiff, Nat.reduceAdd, Nat.reduceSub, Nat.reduceMul, Nat.reduceLT, Nat.reduceLeDiff, Int.reducePow, Int.reduceBEq, Int.reduceBNe, Int.reduceDiv, Int.reduceMod, Int.reduceEq, Int.reduceLT, Int.reduceLE, Int.reduceAdd, Int.reduceSub, Int.reduceMul, Int.reduceNeg, Int.reduceToNat, Int.reduceTDiv, Int.reduceTMod, ↓reduceIte]
  have hK : ∃ L, L = [(⟨ptC sq1, 0, true⟩ : Blk), ⟨[.bool false, sl H.length 0 0 4 2], 0, true⟩, ⟨ptC sq2, 0, true⟩, ⟨[.bool false, sl (H.length + 2) 0 0 4 2], 0, true⟩] := ⟨_, rfl⟩
  obtain ⟨L, hL⟩ := hK
  have P1 : Polys (H ++ L) (sl (H.length + 1) 0 0 1 2) [(false, sq1)] := Polys.one (by rw [hL, hget_app]; rfl) (.inr ⟨H.length, 0, [], true, rfl, by rw [hL, hget_app0, List.append_nil]; rfl, by decide⟩)
  have P2 : Polys (H ++ L) (sl (H.length + 3) 0 0 1 2) [(false, sq2)] := Polys.one (by rw [hL, hget_app]; rfl) (.inr ⟨H.length + 2, 0, [], true, rfl, by rw [hL, hget_app, List.append_nil]; rfl, by decide⟩)
  have l1 : PolyS [(false, sq1)] := ⟨by decide, fun x hx => by simp at hx; subst hx; decide⟩
  have l2 : PolyS [(false, sq2)] := ⟨by decide, fun x hx => by simp at hx; subst hx; decide⟩
  have c1 := catA_ [(false, sq1)] _ 0 0 0 _ P1 l1
  have c2 := catA_ [(false, sq2)] _ 1 0 0 _ P2 l2
  have c3 := catA_ [(false, sq1)] _ 0 1 0 _ P1 l1
  have c4 := catA_ [(false, sq1)] _ 7 0 0 _ P1 l1
  have c5 := wind_ [(false, sq1)] _ 5 5 _ P1
  unfold sq1 at c1 c3 c4 c5
  unfold sq2 at c2
  rw [ck1] at c1
  rw [ck2] at c2
  rw [ck3] at c3
  rw [ck4] at c4
  rw [ck5] at c5
  rw [hL] at c1 c2 c3 c4 c5
  repeat ((first | refine (c1).x ?_ | refine (c2).x ?_ | refine (c3).x ?_ | refine (c4).x ?_ | refine (c5).x ?_ | refine drawnF ?_ (by decide +kernel)); simp only [go_sem, Nat.reduceEqDiff, Nat.reduceAdd, Nat.reduceSub, Nat.reduceMul, Nat.reduceLT, Nat.reduceLeDiff, Int.reducePow, Int.reduceBEq, Int.reduceBNe, Int.reduceDiv, Int.reduceMod, Int.reduceEq, Int.reduceLT, Int.reduceLE, Int.reduceAdd, Int.reduceSub, Int.reduceMul, Int.reduceNeg, Int.reduceToNat, Int.reduceTDiv, Int.reduceTMod, ↓reduceIte])
end Go.Proofs.Ythoclopeajkcpaa
/- Chapter 15: the walk of the law on any polys. -/
namespace Go.Proofs.Ythoclopeajkcpaa
open Go Go.RowKit E
attribute [local irreducible] XRun XOps XCode XCal XLoop XQ SemCall
set_option linter.unusedSimpArgs false
set_option linter.unusedVariables false
theorem polysOf15 (H : AH) {tb g : Nat} {lv : Value} {ls : List Int} (h : TapeAt H tb g lv ls) : Cal Try.prog 41 [ap tb 0 g] H fun v H' W => W = [tb] ∧ Olx tb H H' ∧ H.length ≤ H'.length ∧ ∃ ps, Polys H' v ps ∧ ps.length ≤ 20000 ∧ ∀ x ∈ ps, PolyB x := by
  obtain ⟨v, H', W, h1, h2, h3⟩ := polysOf15_ H h
  exact ⟨v, H', [tb], h1.setW h2, rfl, h3⟩
/-- No more than some. -/
theorem Polys.tk {H : AH} {b g : Nat} {ps : List PL} (h : Polys H (sl b 0 g ps.length 2) ps) (m : Nat) (h0 : 0 < m) (hl : m < ps.length) : Polys H (sl b 0 g m 2) (ps.take m) := by
  obtain ⟨b', g', rest, rw_, vs, hv, hb, hvl, hlen, hel⟩ := h.ne (fun e => by rw [e] at hl; simp at hl)
  cases hv
  have hl6 : (ps.take m).length = m := by rw [List.length_take]; omega
  refine .inr ⟨b, g, plC (vs.drop m) ++ rest, rw_, vs.take m, by rw [hl6], ?_, by rw [List.length_take, List.length_take, hvl], by omega, fun i x hx => ?_⟩
  · rw [← List.append_assoc, ← plC_app, List.take_append_drop]; exact hb
  · have hi : i < m := by have := (List.getElem?_eq_some_iff.1 hx).1; omega
    rw [List.getElem?_take_of_lt hi] at hx ⊢
    exact hel i x hx
set_option maxHeartbeats 4000000 in
theorem ctells (lv : Value) (ls : List Int) (t : Nat) (H : AH) (h : Ints H t lv ls) (rule y x px py : Int) (v : Value) (ps : List PL) (hP : Polys H v ps) (hB : ∀ x ∈ ps, x.2.length ≤ 8796093021952) : SemCall Try.prog 14 [lv, .int .i64 rule, .int .i64 y, .int .i64 x, .int .i64 px, .int .i64 py, v] H (.bool true) H [] := by
  refine pure_of ?_ rfl
  have hcl := h.cellsL
  have w1 := fun H => within_ x (-4) 12 (by omega) (by omega) (by omega) H
  have w2 := fun H => within_ y (-4) 16 (by omega) (by omega) (by omega) H
  refine XCal.of hm Try.func14 rfl (fun xs w => Try.call14 xs w) Try.ntmps14 Try.results14 rfl ?_
  simp only [go_sem, Nat.reduceEqDiff, Nat.reduceAdd, Nat.reduceSub, Nat.reduceMul, Nat.reduceLT, Nat.reduceLeDiff, Int.reducePow, Int.reduceBEq, Int.reduceBNe, Int.reduceDiv, Int.reduceMod, Int.reduceEq, Int.reduceLT, Int.reduceLE, Int.reduceAdd, Int.reduceSub, Int.reduceMul, Int.reduceNeg, Int.reduceToNat, Int.reduceTDiv, Int.reduceTMod, ↓reduceIte, hcl]
  refine (polysOf15 _ (newTp h [] [] H.length rfl)).x ?_
  rintro v1 H1 W1 ⟨rfl, hOx, hKl, qs, hQ, hql, hqb⟩
  have hKl' : H.length ≤ H1.length := by simp at hKl; omega
  have hold : Old H H1 := fun c k e => hOx c k (by have := (List.getElem?_eq_some_iff.1 e).1; omega) (old_get e _)
  have hP1 := hP.old hold
  have hS : PolyS qs := ⟨by omega, fun x hx => by have := (hqb x hx).1; omega⟩
  have s1 := fun r a b c => csame_ qs v1 r a b c H1 hQ hS
  have s2 := fun a b => wind_ qs v1 a b H1 hQ
  have s3 := fun a b => rwind_ qs v1 a b H1 hQ
  by_cases hl : 4 < ps.length
  · obtain ⟨bp, gp, rest, rw_, vs, hve, hbp, hvl, hlen, hel⟩ := hP1.ne (fun e => by rw [e] at hl; simp at hl)
    subst hve
    have hP4 := hP1.tk 4 (by omega) hl
    have hS4 : PolyS (ps.take 4) := ⟨by rw [List.length_take]; omega, fun x hx => hB x (List.mem_of_mem_take hx)⟩
    have p1 := fun r a b c => csame_ _ _ r a b c H1 hP4 hS4
    have p2 := fun a b => wind_ _ _ a b H1 hP4
    have p3 := fun a b => rwind_ _ _ a b H1 hP4
    have hsl : aslice Try.prog 55 (sl bp 0 gp ps.length 2) none (some (.int .i64 4)) none = some (sl bp 0 gp 4 2) := by
      have h6 : (4 : Int).toNat = 4 := rfl
      simp only [go_sem, Nat.reduceEqDiff, Nat.reduceAdd, Nat.reduceSub, Nat.reduceMul, Nat.reduceLT, Nat.reduceLeDiff, Int.reducePow, Int.reduceBEq, Int.reduceBNe, Int.reduceDiv, Int.reduceMod, Int.reduceEq, Int.reduceLT, Int.reduceLE, Int.reduceAdd, Int.reduceSub, Int.reduceMul, Int.reduceNeg, Int.reduceToNat, Int.reduceTDiv, Int.reduceTMod, ↓reduceIte, aslice, abound, h6, show (0 : Int) ≤ 4 by omega, show 4 ≤ ps.length by omega, true_and, and_self, and_true, Nat.zero_le, Nat.zero_mul, Nat.sub_zero, Nat.add_zero]
    simp only [go_sem, Nat.reduceEqDiff, Nat.reduceAdd, Nat.reduceSub, Nat.reduceMul, Nat.reduceLT, Nat.reduceLeDiff, Int.reducePow, Int.reduceBEq, Int.reduceBNe, Int.reduceDiv, Int.reduceMod, Int.reduceEq, Int.reduceLT, Int.reduceLE, Int.reduceAdd, Int.reduceSub, Int.reduceMul, Int.reduceNeg, Int.reduceToNat, Int.reduceTDiv, Int.reduceTMod, ↓reduceIte, dt (show (4 : Int) < (ps.length : Int) by omega), Option.map, hsl]
    repeat ((first | refine (w1 _).x ?_ | refine (w2 _).x ?_ | refine (s1 _ _ _ _).x ?_ | refine (p1 _ _ _ _).x ?_ | refine (s2 _ _).x ?_ | refine (s3 _ _).x ?_ | refine (p2 _ _).x ?_ | refine (p3 _ _).x ?_ | refine (cknown_ _).x ?_ | refine drawnF ?_ (by decide +kernel)); simp only [go_sem, Nat.reduceEqDiff, Nat.reduceAdd, Nat.reduceSub, Nat.reduceMul, Nat.reduceLT, Nat.reduceLeDiff, Int.reducePow, Int.reduceBEq, Int.reduceBNe, Int.reduceDiv, Int.reduceMod, Int.reduceEq, Int.reduceLT, Int.reduceLE, Int.reduceAdd, Int.reduceSub, Int.reduceMul, Int.reduceNeg, Int.reduceToNat, Int.reduceTDiv, Int.reduceTMod, ↓reduceIte, beq_self_eq_true, bne_self_eq_false])
  · obtain ⟨va, ve, hve⟩ := hP1.form
    subst hve
    have hS4 : PolyS ps := ⟨by omega, hB⟩
    have p1 := fun r a b c => csame_ _ _ r a b c H1 hP1 hS4
    have p2 := fun a b => wind_ _ _ a b H1 hP1
    have p3 := fun a b => rwind_ _ _ a b H1 hP1
    simp only [go_sem, Nat.reduceEqDiff, Nat.reduceAdd, Nat.reduceSub, Nat.reduceMul, Nat.reduceLT, Nat.reduceLeDiff, Int.reducePow, Int.reduceBEq, Int.reduceBNe, Int.reduceDiv, Int.reduceMod, Int.reduceEq, Int.reduceLT, Int.reduceLE, Int.reduceAdd, Int.reduceSub, Int.reduceMul, Int.reduceNeg, Int.reduceToNat, Int.reduceTDiv, Int.reduceTMod, ↓reduceIte, df (show ¬ (4 : Int) < (ps.length : Int) by omega)]
    repeat ((first | refine (w1 _).x ?_ | refine (w2 _).x ?_ | refine (s1 _ _ _ _).x ?_ | refine (p1 _ _ _ _).x ?_ | refine (s2 _ _).x ?_ | refine (s3 _ _).x ?_ | refine (p2 _ _).x ?_ | refine (p3 _ _).x ?_ | refine (cknown_ _).x ?_ | refine drawnF ?_ (by decide +kernel)); simp only [go_sem, Nat.reduceEqDiff, Nat.reduceAdd, Nat.reduceSub, Nat.reduceMul, Nat.reduceLT, Nat.reduceLeDiff, Int.reducePow, Int.reduceBEq, Int.reduceBNe, Int.reduceDiv, Int.reduceMod, Int.reduceEq, Int.reduceLT, Int.reduceLE, Int.reduceAdd, Int.reduceSub, Int.reduceMul, Int.reduceNeg, Int.reduceToNat, Int.reduceTDiv, Int.reduceTMod, ↓reduceIte, beq_self_eq_true, bne_self_eq_false])
end Go.Proofs.Ythoclopeajkcpaa
