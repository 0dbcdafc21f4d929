/- Merged texts: CoverH CoverI. -/
import Derived.Test.YthoclopeajkcpaaZD
/- Chapter 15: the plain law on polys that are moved by whole pixels. -/
namespace Go.Proofs.Ythoclopeajkcpaa
open Go Go.RowKit E
set_option linter.unusedSimpArgs false
set_option linter.unusedVariables false
def shp (a b : Int) (p : Pt) : Pt := (p.1 + a * 65536, p.2 + b * 65536)
theorem sideW_shift (p q : Pt) (x y a b : Int) : sideW (shp a b p) (shp a b q) (x + a * 65536) (y + b * 65536) = sideW p q x y := by
  have e : crs (shp a b p) (shp a b q) (x + a * 65536) (y + b * 65536) = crs p q x y := by
    unfold crs shp
    simp only
    rw [show q.1 + a * 65536 - (p.1 + a * 65536) = q.1 - p.1 by omega, show y + b * 65536 - (p.2 + b * 65536) = y - p.2 by omega, show x + a * 65536 - (p.1 + a * 65536) = x - p.1 by omega, show q.2 + b * 65536 - (p.2 + b * 65536) = q.2 - p.2 by omega]
  have h1 : ((shp a b p).2 ≤ y + b * 65536) = (p.2 ≤ y) := propext (by show p.2 + b * 65536 ≤ y + b * 65536 ↔ _; omega)
  have h2 : ((shp a b q).2 ≤ y + b * 65536) = (q.2 ≤ y) := propext (by show q.2 + b * 65536 ≤ y + b * 65536 ↔ _; omega)
  unfold sideW
  rw [e]
  simp only [h1, h2]
theorem plp_in {p : Pt} (h : Bd 4194304 p) : plp p = p := by
  unfold plp
  rw [place_in (by omega) (by omega), place_in (by omega) (by omega)]
theorem shp_bd {a b : Int} {p : Pt} (ha : -30 ≤ a ∧ a ≤ 30) (hb : -30 ≤ b ∧ b ≤ 30) (h : Bd 2097152 p) : Bd 4194304 (shp a b p) := by
  unfold shp
  exact ⟨⟨by simp only; omega, by simp only; omega⟩, by simp only; omega, by simp only; omega⟩
theorem plp_shp {a b : Int} {p : Pt} (ha : -30 ≤ a ∧ a ≤ 30) (hb : -30 ≤ b ∧ b ≤ 30) (h : Bd 2097152 p) : plp (shp a b p) = shp a b (plp p) := by
  rw [plp_in (shp_bd ha hb h), plp_in (h.mono (by omega))]
theorem windGo_shift {a b : Int} (ha : -30 ≤ a ∧ a ≤ 30) (hb : -30 ≤ b ∧ b ≤ 30) (x y : Int) : ∀ (l : List Pt) (z : Pt), (∀ p ∈ l, Bd 2097152 p) → windGo (x + a * 65536) (y + b * 65536) (shp a b z) (l.map (shp a b)) = windGo x y z l
  | [], z, _ => rfl
  | p :: t, z, h => by
    simp only [List.map_cons, windGo]
    rw [plp_shp ha hb (h p (by simp)), sideW_shift, windGo_shift ha hb x y t _ (fun q hq => h q (by simp [hq]))]
theorem windP_shift {a b : Int} (ha : -30 ≤ a ∧ a ≤ 30) (hb : -30 ≤ b ∧ b ≤ 30) (x y : Int) (l : List Pt) (h : ∀ p ∈ l, Bd 2097152 p) : windP (l.map (shp a b)) (x + a * 65536) (y + b * 65536) = windP l x y := by
  unfold windP
  rw [List.length_map]
  by_cases hl : l.length < 2
  · rw [if_pos hl, if_pos hl]
  · rw [if_neg hl, if_neg hl, List.getElem?_map, List.getElem?_eq_getElem (by omega)]
    simp only [Option.map_some, Option.getD_some]
    rw [plp_shp ha hb (h _ (List.getElem_mem _)), windGo_shift ha hb x y l _ h]
def movP (a b : Int) (p : PL) : PL := (false, p.2.map (shp a b))
theorem windL_shift {a b : Int} (ha : -30 ≤ a ∧ a ≤ 30) (hb : -30 ≤ b ∧ b ≤ 30) (x y : Int) : ∀ (ps : List PL), (∀ x ∈ ps, ∀ p ∈ x.2, Bd 2097152 p) → windL (ps.map (movP a b)) (x + a * 65536) (y + b * 65536) = windL ps x y
  | [], _ => rfl
  | p :: t, h => by
    simp only [List.map_cons, windL]
    rw [windL_shift ha hb x y t (fun q hq => h q (by simp [hq]))]
    show windP (p.2.map (shp a b)) _ _ + _ = _
    rw [windP_shift ha hb x y p.2 (h p (by simp))]
theorem covA_shift {a b : Int} (ha : -30 ≤ a ∧ a ≤ 30) (hb : -30 ≤ b ∧ b ≤ 30) (ps : List PL) (h : ∀ x ∈ ps, ∀ p ∈ x.2, Bd 2097152 p) (rule x y : Int) (hx : -4 ≤ x ∧ x ≤ 16) (hy : -4 ≤ y ∧ y ≤ 16) : covA (ps.map (movP a b)) rule (x + a) (y + b) = covA ps rule x y := by
  have t1 : (thereB (x + a) && thereB (y + b)) = true := by unfold thereB; rw [dt (by omega), dt (by omega), dt (by omega), dt (by omega)]; rfl
  have t2 : (thereB x && thereB y) = true := by unfold thereB; rw [dt (by omega), dt (by omega), dt (by omega), dt (by omega)]; rfl
  unfold covA
  rw [t1, t2, if_pos rfl, if_pos rfl]
  refine cntK_congr fun k hk => ?_
  unfold smp
  rw [show (x + a) * 65536 + 8192 + ((k % 4 : Nat) : Int) * 16384 = x * 65536 + 8192 + ((k % 4 : Nat) : Int) * 16384 + a * 65536 by omega, show (y + b) * 65536 + 8192 + ((k / 4 : Nat) : Int) * 16384 = y * 65536 + 8192 + ((k / 4 : Nat) : Int) * 16384 + b * 65536 by omega, windL_shift ha hb _ _ ps h]
end Go.Proofs.Ythoclopeajkcpaa
/- Chapter 15: the walk of the law on polys that are moved by whole pixels. -/
namespace Go.Proofs.Ythoclopeajkcpaa
open Go Go.RowKit E
attribute [local irreducible] XRun XOps XCode XCal XLoop XQ SemCall
set_option linter.unusedSimpArgs false
set_option linter.unusedVariables false
set_option maxHeartbeats 4000000 in
theorem cshifts (lv : Value) (ls : List Int) (t : Nat) (H : AH) (h : Ints H t lv ls) (dx dy xx yy rule : Int) : SemCall Try.prog 12 [lv, .int .i64 dx, .int .i64 dy, .int .i64 xx, .int .i64 yy, .int .i64 rule] H (.bool true) H [] := by
  refine pure_of ?_ rfl
  have hcl := h.cellsL
  have c1 := fun H => within_ dx (-30) 30 (by omega) (by omega) (by omega) H
  have c2 := fun H => within_ dy (-30) 30 (by omega) (by omega) (by omega) H
  have c3 := fun H => within_ xx (-4) 16 (by omega) (by omega) (by omega) H
  have c4 := fun H => within_ yy (-4) 16 (by omega) (by omega) (by omega) H
  have b1 := wth_b dx (lo := -30) (hi := 30) (by omega)
  have b2 := wth_b dy (lo := -30) (hi := 30) (by omega)
  have b3 := wth_b xx (lo := -4) (hi := 16) (by omega)
  have b4 := wth_b yy (lo := -4) (hi := 16) (by omega)
  generalize wth dx (-30) 30 = A at *
  generalize wth dy (-30) 30 = B at *
  generalize wth xx (-4) 16 = PX at *
  generalize wth yy (-4) 16 = PY at *
  refine XCal.of hm Try.func12 rfl (fun xs w => Try.call12 xs w) Try.ntmps12 Try.results12 rfl ?_
  simp only [go_sem, Nat.reduceEqDiff, Nat.reduceAdd, Nat.reduceSub, Nat.reduceMul, Nat.reduceLT, Nat.reduceLeDiff, Int.reducePow, Int.reduceBEq, Int.reduceBNe, Int.reduceDiv, Int.reduceMod, Int.reduceEq, Int.reduceLT, Int.reduceLE, Int.reduceAdd, Int.reduceSub, Int.reduceMul, Int.reduceNeg, Int.reduceToNat, Int.reduceTDiv, Int.reduceTMod, ↓reduceIte, hcl]
  refine (polysOf15 _ (newTp h [] [] H.length rfl)).x ?_
  rintro v H1 W1 ⟨rfl, hOx, hKl, ps, hQ, hql, hqb⟩
  have hKl' : H.length ≤ H1.length := by simp at hKl; omega
  clear hKl hOx
  have hBd : ∀ x ∈ ps, ∀ p ∈ x.2, Bd 2097152 p := fun x hx => (hqb x hx).2
  have hS : PolyS ps := ⟨by omega, fun x hx => by have := (hqb x hx).1; omega⟩
  have hml : (ps.map (movP A B)).length = ps.length := List.length_map ..
  have hS2 : PolyS (ps.map (movP A B)) := ⟨by omega, fun x hx => by
    obtain ⟨z, hz, rfl⟩ := List.mem_map.1 hx
    have := (hqb z hz).1
    show (z.2.map (shp A B)).length ≤ _
    rw [List.length_map]; omega⟩
  have hlaw := fun r => covA_shift b1 b2 ps hBd r PX PY b3 b4
  have w1 : IntKind.i64.wrap (PX + A) = PX + A := wi (by omega) (by omega)
  have w2 : IntKind.i64.wrap (PY + B) = PY + B := wi (by omega) (by omega)
  have w3 : IntKind.i64.wrap (A * 65536) = A * 65536 := wi (by omega) (by omega)
  have w4 : IntKind.i64.wrap (B * 65536) = B * 65536 := wi (by omega) (by omega)
  obtain ⟨va, ve, hve⟩ := hQ.form
  subst hve
  simp only [go_sem, Nat.reduceEqDiff, Nat.reduceAdd, Nat.reduceSub, Nat.reduceMul, Nat.reduceLT, Nat.reduceLeDiff, Int.reducePow, Int.reduceBEq, Int.reduceBNe, Int.reduceDiv, Int.reduceMod, Int.reduceEq, Int.reduceLT, Int.reduceLE, Int.reduceAdd, Int.reduceSub, Int.reduceMul, Int.reduceNeg, Int.reduceToNat, Int.reduceTDiv, Int.reduceTMod, ↓reduceIte]
  repeat ((first | refine (c1 _).x ?_ | refine (c2 _).x ?_ | refine drawnF ?_ (by decide +kernel)); simp only [go_sem, Nat.reduceEqDiff, Nat.reduceAdd, Nat.reduceSub, Nat.reduceMul, Nat.reduceLT, Nat.reduceLeDiff, Int.reducePow, Int.reduceBEq, Int.reduceBNe, Int.reduceDiv, Int.reduceMod, Int.reduceEq, Int.reduceLT, Int.reduceLE, Int.reduceAdd, Int.reduceSub, Int.reduceMul, Int.reduceNeg, Int.reduceToNat, Int.reduceTDiv, Int.reduceTMod, ↓reduceIte])
  refine keep (fun k T K D => D = [] ∧ ∃ (i : Nat), i + k = ps.length ∧ Old H1 K ∧ H1.length ≤ K.length ∧ T 3 = .int .i64 xx ∧ T 4 = .int .i64 yy ∧ T 5 = .int .i64 rule ∧ T 13 = .slice va ps.length ve ∧ T 14 = .int .i64 A ∧ T 15 = .int .i64 B ∧ T 32 = .slice va ps.length ve ∧ T 33 = .int .i64 (ps.length : Int) ∧ T 34 = .int .i64 (i : Int) ∧ OutP H1.length K (T 16) ((ps.map (movP A B)).take i)) ps.length
    ⟨rfl, 0, by omega, Old.refl _, by omega, by simp only [go_sem, Nat.reduceEqDiff, Nat.reduceAdd, Nat.reduceSub, Nat.reduceMul, Nat.reduceLT, Nat.reduceLeDiff, Int.reducePow, Int.reduceBEq, Int.reduceBNe, Int.reduceDiv, Int.reduceMod, Int.reduceEq, Int.reduceLT, Int.reduceLE, Int.reduceAdd, Int.reduceSub, Int.reduceMul, Int.reduceNeg, Int.reduceToNat, Int.reduceTDiv, Int.reduceTMod, ↓reduceIte], by simp only [go_sem, Nat.reduceEqDiff, Nat.reduceAdd, Nat.reduceSub, Nat.reduceMul, Nat.reduceLT, Nat.reduceLeDiff, Int.reducePow, Int.reduceBEq, Int.reduceBNe, Int.reduceDiv, Int.reduceMod, Int.reduceEq, Int.reduceLT, Int.reduceLE, Int.reduceAdd, Int.reduceSub, Int.reduceMul, Int.reduceNeg, Int.reduceToNat, Int.reduceTDiv, Int.reduceTMod, ↓reduceIte], by simp only [go_sem, Nat.reduceEqDiff, Nat.reduceAdd, Nat.reduceSub, Nat.reduceMul, Nat.reduceLT, Nat.reduceLeDiff, Int.reducePow, Int.reduceBEq, Int.reduceBNe, Int.reduceDiv, Int.reduceMod, Int.reduceEq, Int.reduceLT, Int.reduceLE, Int.reduceAdd, Int.reduceSub, Int.reduceMul, Int.reduceNeg, Int.reduceToNat, Int.reduceTDiv, Int.reduceTMod, ↓reduceIte], by simp only [go_sem, Nat.reduceEqDiff, Nat.reduceAdd, Nat.reduceSub, Nat.reduceMul, Nat.reduceLT, Nat.reduceLeDiff, Int.reducePow, Int.reduceBEq, Int.reduceBNe, Int.reduceDiv, Int.reduceMod, Int.reduceEq, Int.reduceLT, Int.reduceLE, Int.reduceAdd, Int.reduceSub, Int.reduceMul, Int.reduceNeg, Int.reduceToNat, Int.reduceTDiv, Int.reduceTMod, ↓reduceIte], by simp only [go_sem, Nat.reduceEqDiff, Nat.reduceAdd, Nat.reduceSub, Nat.reduceMul, Nat.reduceLT, Nat.reduceLeDiff, Int.reducePow, Int.reduceBEq, Int.reduceBNe, Int.reduceDiv, Int.reduceMod, Int.reduceEq, Int.reduceLT, Int.reduceLE, Int.reduceAdd, Int.reduceSub, Int.reduceMul, Int.reduceNeg, Int.reduceToNat, Int.reduceTDiv, Int.reduceTMod, ↓reduceIte], by simp only [go_sem, Nat.reduceEqDiff, Nat.reduceAdd, Nat.reduceSub, Nat.reduceMul, Nat.reduceLT, Nat.reduceLeDiff, Int.reducePow, Int.reduceBEq, Int.reduceBNe, Int.reduceDiv, Int.reduceMod, Int.reduceEq, Int.reduceLT, Int.reduceLE, Int.reduceAdd, Int.reduceSub, Int.reduceMul, Int.reduceNeg, Int.reduceToNat, Int.reduceTDiv, Int.reduceTMod, ↓reduceIte], by simp only [go_sem, Nat.reduceEqDiff, Nat.reduceAdd, Nat.reduceSub, Nat.reduceMul, Nat.reduceLT, Nat.reduceLeDiff, Int.reducePow, Int.reduceBEq, Int.reduceBNe, Int.reduceDiv, Int.reduceMod, Int.reduceEq, Int.reduceLT, Int.reduceLE, Int.reduceAdd, Int.reduceSub, Int.reduceMul, Int.reduceNeg, Int.reduceToNat, Int.reduceTDiv, Int.reduceTMod, ↓reduceIte], by simp only [go_sem, Nat.reduceEqDiff, Nat.reduceAdd, Nat.reduceSub, Nat.reduceMul, Nat.reduceLT, Nat.reduceLeDiff, Int.reducePow, Int.reduceBEq, Int.reduceBNe, Int.reduceDiv, Int.reduceMod, Int.reduceEq, Int.reduceLT, Int.reduceLE, Int.reduceAdd, Int.reduceSub, Int.reduceMul, Int.reduceNeg, Int.reduceToNat, Int.reduceTDiv, Int.reduceTMod, ↓reduceIte], by simp only [go_sem, Nat.reduceEqDiff, Nat.reduceAdd, Nat.reduceSub, Nat.reduceMul, Nat.reduceLT, Nat.reduceLeDiff, Int.reducePow, Int.reduceBEq, Int.reduceBNe, Int.reduceDiv, Int.reduceMod, Int.reduceEq, Int.reduceLT, Int.reduceLE, Int.reduceAdd, Int.reduceSub, Int.reduceMul, Int.reduceNeg, Int.reduceToNat, Int.reduceTDiv, Int.reduceTMod, ↓reduceIte] <;> rfl, .inl ⟨rfl, by simp only [go_sem, Nat.reduceEqDiff, Nat.reduceAdd, Nat.reduceSub, Nat.reduceMul, Nat.reduceLT, Nat.reduceLeDiff, Int.reducePow, Int.reduceBEq, Int.reduceBNe, Int.reduceDiv, Int.reduceMod, Int.reduceEq, Int.reduceLT, Int.reduceLE, Int.reduceAdd, Int.reduceSub, Int.reduceMul, Int.reduceNeg, Int.reduceToNat, Int.reduceTDiv, Int.reduceTMod, ↓reduceIte] <;> rfl⟩⟩ ?_
  rintro k T K D ⟨rfl, i, hik, hold, hKl, t3, t4, t5, t13, t14, t15, h11, h12, h13, hO⟩
  by_cases hk : i < ps.length
  · obtain ⟨b, g, rest, rw_, vs, hve, hb, hvl, hlen, hel⟩ := hQ.ne (fun e => by rw [e] at hk; simp at hk)
    obtain ⟨x, hxi, hdr⟩ := getD_some hk
    obtain ⟨pv, hvi, hp⟩ := hel i x hxi
    have hld := fun (b : Nat) => ald_pl (b := b) (g := g) (rw_ := rw_) rest hvi
    have q0 : (0 : Int) ≤ (i : Int) := by omega
    have q1 : (i : Int) < (ps.length : Int) := by omega
    have i1 : IntKind.i64.wrap ((i : Int) + 1) = ((i + 1 : Nat) : Int) := by rw [wi (by omega) (by omega)]; rfl
    have kb := hold _ _ hb
    have hpk := hp.old hold
    have htk : (ps.map (movP A B)).take (i + 1) = (ps.map (movP A B)).take i ++ [(false, x.2.map (shp A B))] := by rw [List.take_add_one, List.getElem?_map, hxi]; rfl
    have hle : ((ps.map (movP A B)).take i).length = i := by rw [List.length_take, List.length_map]; omega
    have hs := small_p (n := i) (k := 1) (by omega) (by omega)
    have kd : ∀ n, decide (K.length + n < H.length) = false := fun n => df (by omega)
    have kd0 : decide (K.length < H.length) = false := df (by omega)
    have hxl := (hqb x (List.mem_of_getElem? hxi)).1
    have hxB := (hqb x (List.mem_of_getElem? hxi)).2
    generalize hT5 : T 16 = t16 at *
    obtain ⟨a1, e1, hpe⟩ := hp.form
    subst hpe
    rw [hve] at t13 h11
    simp only [go_sem, Nat.reduceEqDiff, Nat.reduceAdd, Nat.reduceSub, Nat.reduceMul, Nat.reduceLT, Nat.reduceLeDiff, Int.reducePow, Int.reduceBEq, Int.reduceBNe, Int.reduceDiv, Int.reduceMod, Int.reduceEq, Int.reduceLT, Int.reduceLE, Int.reduceAdd, Int.reduceSub, Int.reduceMul, Int.reduceNeg, Int.reduceToNat, Int.reduceTDiv, Int.reduceTMod, ↓reduceIte, t3, t4, t5, t13, t14, t15, h11, h12, h13, hT5, dt q1, q0, q1, Int.toNat_natCast, Nat.zero_add, kb, hld, kd, kd0]
    refine keep (fun k' T H' D => D = [] ∧ ∃ (j : Nat) (slv : Value) (G : AH), j + k' = x.2.length ∧ H' = K ++ (⟨[.bool x.1, .slice a1 x.2.length e1], 0, true⟩ :: ⟨[.bool false, slv], 0, true⟩ :: G) ∧ T 3 = .int .i64 xx ∧ T 4 = .int .i64 yy ∧ T 5 = .int .i64 rule ∧ T 13 = sl b 0 g ps.length 2 ∧ T 14 = .int .i64 A ∧ T 15 = .int .i64 B ∧ T 16 = t16 ∧ T 19 = ap (K.length + 1) 0 0 ∧ T 32 = sl b 0 g ps.length 2 ∧ T 33 = .int .i64 (ps.length : Int) ∧ T 34 = .int .i64 (i : Int) ∧ T 39 = .slice a1 x.2.length e1 ∧ T 40 = .int .i64 (x.2.length : Int) ∧ T 41 = .int .i64 (j : Int) ∧
        ((j = 0 ∧ slv = .slice none 0 0 ∧ G = []) ∨ ∃ g1 X Y G', 0 < j ∧ slv = sl (K.length + 4) 0 g1 j 2 ∧ G = X :: Y :: ⟨ptC ((x.2.map (shp A B)).take j), g1, true⟩ :: G')) x.2.length
      ⟨rfl, 0, _, [], by omega, rfl, by simp only [go_sem, Nat.reduceEqDiff, Nat.reduceAdd, Nat.reduceSub, Nat.reduceMul, Nat.reduceLT, Nat.reduceLeDiff, Int.reducePow, Int.reduceBEq, Int.reduceBNe, Int.reduceDiv, Int.reduceMod, Int.reduceEq, Int.reduceLT, Int.reduceLE, Int.reduceAdd, Int.reduceSub, Int.reduceMul, Int.reduceNeg, Int.reduceToNat, Int.reduceTDiv, Int.reduceTMod, ↓reduceIte, t3], by simp only [go_sem, Nat.reduceEqDiff, Nat.reduceAdd, Nat.reduceSub, Nat.reduceMul, Nat.reduceLT, Nat.reduceLeDiff, Int.reducePow, Int.reduceBEq, Int.reduceBNe, Int.reduceDiv, Int.reduceMod, Int.reduceEq, Int.reduceLT, Int.reduceLE, Int.reduceAdd, Int.reduceSub, Int.reduceMul, Int.reduceNeg, Int.reduceToNat, Int.reduceTDiv, Int.reduceTMod, ↓reduceIte, t4], by simp only [go_sem, Nat.reduceEqDiff, Nat.reduceAdd, Nat.reduceSub, Nat.reduceMul, Nat.reduceLT, Nat.reduceLeDiff, Int.reducePow, Int.reduceBEq, Int.reduceBNe, Int.reduceDiv, Int.reduceMod, Int.reduceEq, Int.reduceLT, Int.reduceLE, Int.reduceAdd, Int.reduceSub, Int.reduceMul, Int.reduceNeg, Int.reduceToNat, Int.reduceTDiv, Int.reduceTMod, ↓reduceIte, t5], by simp only [go_sem, Nat.reduceEqDiff, Nat.reduceAdd, Nat.reduceSub, Nat.reduceMul, Nat.reduceLT, Nat.reduceLeDiff, Int.reducePow, Int.reduceBEq, Int.reduceBNe, Int.reduceDiv, Int.reduceMod, Int.reduceEq, Int.reduceLT, Int.reduceLE, Int.reduceAdd, Int.reduceSub, Int.reduceMul, Int.reduceNeg, Int.reduceToNat, Int.reduceTDiv, Int.reduceTMod, ↓reduceIte, t13], by simp only [go_sem, Nat.reduceEqDiff, Nat.reduceAdd, Nat.reduceSub, Nat.reduceMul, Nat.reduceLT, Nat.reduceLeDiff, Int.reducePow, Int.reduceBEq, Int.reduceBNe, Int.reduceDiv, Int.reduceMod, Int.reduceEq, Int.reduceLT, Int.reduceLE, Int.reduceAdd, Int.reduceSub, Int.reduceMul, Int.reduceNeg, Int.reduceToNat, Int.reduceTDiv, Int.reduceTMod, ↓reduceIte, t14], by simp only [go_sem, Nat.reduceEqDiff, Nat.reduceAdd, Nat.reduceSub, Nat.reduceMul, Nat.reduceLT, Nat.reduceLeDiff, Int.reducePow, Int.reduceBEq, Int.reduceBNe, Int.reduceDiv, Int.reduceMod, Int.reduceEq, Int.reduceLT, Int.reduceLE, Int.reduceAdd, Int.reduceSub, Int.reduceMul, Int.reduceNeg, Int.reduceToNat, Int.reduceTDiv, Int.reduceTMod, ↓reduceIte, t15], by simp only [go_sem, Nat.reduceEqDiff, Nat.reduceAdd, Nat.reduceSub, Nat.reduceMul, Nat.reduceLT, Nat.reduceLeDiff, Int.reducePow, Int.reduceBEq, Int.reduceBNe, Int.reduceDiv, Int.reduceMod, Int.reduceEq, Int.reduceLT, Int.reduceLE, Int.reduceAdd, Int.reduceSub, Int.reduceMul, Int.reduceNeg, Int.reduceToNat, Int.reduceTDiv, Int.reduceTMod, ↓reduceIte, hT5], by simp only [go_sem, Nat.reduceEqDiff, Nat.reduceAdd, Nat.reduceSub, Nat.reduceMul, Nat.reduceLT, Nat.reduceLeDiff, Int.reducePow, Int.reduceBEq, Int.reduceBNe, Int.reduceDiv, Int.reduceMod, Int.reduceEq, Int.reduceLT, Int.reduceLE, Int.reduceAdd, Int.reduceSub, Int.reduceMul, Int.reduceNeg, Int.reduceToNat, Int.reduceTDiv, Int.reduceTMod, ↓reduceIte], by simp only [go_sem, Nat.reduceEqDiff, Nat.reduceAdd, Nat.reduceSub, Nat.reduceMul, Nat.reduceLT, Nat.reduceLeDiff, Int.reducePow, Int.reduceBEq, Int.reduceBNe, Int.reduceDiv, Int.reduceMod, Int.reduceEq, Int.reduceLT, Int.reduceLE, Int.reduceAdd, Int.reduceSub, Int.reduceMul, Int.reduceNeg, Int.reduceToNat, Int.reduceTDiv, Int.reduceTMod, ↓reduceIte, h11], by simp only [go_sem, Nat.reduceEqDiff, Nat.reduceAdd, Nat.reduceSub, Nat.reduceMul, Nat.reduceLT, Nat.reduceLeDiff, Int.reducePow, Int.reduceBEq, Int.reduceBNe, Int.reduceDiv, Int.reduceMod, Int.reduceEq, Int.reduceLT, Int.reduceLE, Int.reduceAdd, Int.reduceSub, Int.reduceMul, Int.reduceNeg, Int.reduceToNat, Int.reduceTDiv, Int.reduceTMod, ↓reduceIte, h12], by simp only [go_sem, Nat.reduceEqDiff, Nat.reduceAdd, Nat.reduceSub, Nat.reduceMul, Nat.reduceLT, Nat.reduceLeDiff, Int.reducePow, Int.reduceBEq, Int.reduceBNe, Int.reduceDiv, Int.reduceMod, Int.reduceEq, Int.reduceLT, Int.reduceLE, Int.reduceAdd, Int.reduceSub, Int.reduceMul, Int.reduceNeg, Int.reduceToNat, Int.reduceTDiv, Int.reduceTMod, ↓reduceIte, h13], by simp only [go_sem, Nat.reduceEqDiff, Nat.reduceAdd, Nat.reduceSub, Nat.reduceMul, Nat.reduceLT, Nat.reduceLeDiff, Int.reducePow, Int.reduceBEq, Int.reduceBNe, Int.reduceDiv, Int.reduceMod, Int.reduceEq, Int.reduceLT, Int.reduceLE, Int.reduceAdd, Int.reduceSub, Int.reduceMul, Int.reduceNeg, Int.reduceToNat, Int.reduceTDiv, Int.reduceTMod, ↓reduceIte], by simp only [go_sem, Nat.reduceEqDiff, Nat.reduceAdd, Nat.reduceSub, Nat.reduceMul, Nat.reduceLT, Nat.reduceLeDiff, Int.reducePow, Int.reduceBEq, Int.reduceBNe, Int.reduceDiv, Int.reduceMod, Int.reduceEq, Int.reduceLT, Int.reduceLE, Int.reduceAdd, Int.reduceSub, Int.reduceMul, Int.reduceNeg, Int.reduceToNat, Int.reduceTDiv, Int.reduceTMod, ↓reduceIte], by simp only [go_sem, Nat.reduceEqDiff, Nat.reduceAdd, Nat.reduceSub, Nat.reduceMul, Nat.reduceLT, Nat.reduceLeDiff, Int.reducePow, Int.reduceBEq, Int.reduceBNe, Int.reduceDiv, Int.reduceMod, Int.reduceEq, Int.reduceLT, Int.reduceLE, Int.reduceAdd, Int.reduceSub, Int.reduceMul, Int.reduceNeg, Int.reduceToNat, Int.reduceTDiv, Int.reduceTMod, ↓reduceIte] <;> rfl, .inl ⟨rfl, rfl, rfl⟩⟩ ?_
    clear t3 t4 t5 t13 t14 t15 h11 h12 h13 hT5
    rintro k' T H' D ⟨rfl, j, slv, G, hjk, rfl, t3, t4, t5, t13, t14, t15, h5, h8, h11, h12, h13, h21, h22, h23, hC⟩
    by_cases hk' : j < x.2.length
    · obtain ⟨b2, g2, rest2, rw2, hpe, hb2, _⟩ := hp.ne (fun e => by rw [e] at hk'; simp at hk')
      have kb2 := hold _ _ hb2
      rw [hpe] at h21
      obtain ⟨p, hpj, hdr2⟩ := getD_some hk'
      have hpB := hxB p (List.mem_of_getElem? hpj)
      have hld2 := fun (b : Nat) => ald_pt (b := b) (g := g2) (rw_ := rw2) rest2 hpj
      have q2 : (0 : Int) ≤ (j : Int) := by omega
      have q3 : (j : Int) < (x.2.length : Int) := by omega
      have j1 : IntKind.i64.wrap ((j : Int) + 1) = ((j + 1 : Nat) : Int) := by rw [wi (by omega) (by omega)]; rfl
      have v1 : IntKind.i64.wrap (p.1 + A * 65536) = p.1 + A * 65536 := wi (by omega) (by omega)
      have v2 : IntKind.i64.wrap (p.2 + B * 65536) = p.2 + B * 65536 := wi (by omega) (by omega)
      have htk2 : (x.2.map (shp A B)).take (j + 1) = (x.2.map (shp A B)).take j ++ [shp A B p] := by rw [List.take_add_one, List.getElem?_map, hpj]; rfl
      have hle2 : ((x.2.map (shp A B)).take j).length = j := by rw [List.length_take, List.length_map]; omega
      have hs2 := small_q (o := (x.2.map (shp A B)).take j) (by rw [hle2]; omega)
      rw [hle2] at hs2
      rcases hC with ⟨hj0, rfl, rfl⟩ | ⟨g1, X, Y, G', hj0, rfl, rfl⟩
      · simp only [go_sem, Nat.reduceEqDiff, Nat.reduceAdd, Nat.reduceSub, Nat.reduceMul, Nat.reduceLT, Nat.reduceLeDiff, Int.reducePow, Int.reduceBEq, Int.reduceBNe, Int.reduceDiv, Int.reduceMod, Int.reduceEq, Int.reduceLT, Int.reduceLE, Int.reduceAdd, Int.reduceSub, Int.reduceMul, Int.reduceNeg, Int.reduceToNat, Int.reduceTDiv, Int.reduceTMod, ↓reduceIte, t3, t4, t5, t13, t14, t15, h5, h8, h11, h12, h13, h21, h22, h23, dt q3, q2, q3, Int.toNat_natCast, Nat.zero_add, old_get kb2, hld2, ptv, kd, kd0, w3, w4, v1, v2, j1]
        exact ⟨k' - 1, by omega, j + 1, _, _, by omega, rfl, hpe.symm, rfl, .inr ⟨0, _, _, [], by omega, by rw [hj0], by rw [htk2, hj0]; rfl⟩⟩
      · simp only [go_sem, Nat.reduceEqDiff, Nat.reduceAdd, Nat.reduceSub, Nat.reduceMul, Nat.reduceLT, Nat.reduceLeDiff, Int.reducePow, Int.reduceBEq, Int.reduceBNe, Int.reduceDiv, Int.reduceMod, Int.reduceEq, Int.reduceLT, Int.reduceLE, Int.reduceAdd, Int.reduceSub, Int.reduceMul, Int.reduceNeg, Int.reduceToNat, Int.reduceTDiv, Int.reduceTMod, ↓reduceIte, t3, t4, t5, t13, t14, t15, h5, h8, h11, h12, h13, h21, h22, h23, dt q3, q2, q3, Int.toNat_natCast, Nat.zero_add, old_get kb2, hld2, ptv, kd, kd0, w3, w4, v1, v2, j1, hs2.1.symm, hs2.2.1, hs2.2.2]
        exact ⟨k' - 1, by omega, j + 1, _, _, by omega, rfl, hpe.symm, rfl, .inr ⟨g1 + 1, X, Y, _, by omega, rfl, by rw [htk2, ptC_app]; rfl⟩⟩
    · have hj : j = x.2.length := by omega
      subst hj
      have hml : (x.2.map (shp A B)).length = x.2.length := List.length_map ..
      have htk3 : (x.2.map (shp A B)).take x.2.length = x.2.map (shp A B) := List.take_of_length_le (by omega)
      have hv : PtsF K.length (K ++ (⟨[.bool x.1, .slice a1 x.2.length e1], 0, true⟩ :: ⟨[.bool false, slv], 0, true⟩ :: G)).length (K ++ (⟨[.bool x.1, .slice a1 x.2.length e1], 0, true⟩ :: ⟨[.bool false, slv], 0, true⟩ :: G)) slv (x.2.map (shp A B)) := by
        rcases hC with ⟨hj0, rfl, rfl⟩ | ⟨g1, X, Y, G', hj0, rfl, rfl⟩
        · exact .inl ⟨by rw [List.eq_nil_of_length_eq_zero hj0]; rfl, rfl⟩
        · exact .inr ⟨K.length + 4, g1, [], true, by omega, by simp, by rw [hml], by rw [hget_app, htk3, List.append_nil]; rfl, by rw [hml]; omega⟩
      clear hC
      obtain ⟨a2, e2, hve2⟩ := hv.form
      subst hve2
      simp only [go_sem, Nat.reduceEqDiff, Nat.reduceAdd, Nat.reduceSub, Nat.reduceMul, Nat.reduceLT, Nat.reduceLeDiff, Int.reducePow, Int.reduceBEq, Int.reduceBNe, Int.reduceDiv, Int.reduceMod, Int.reduceEq, Int.reduceLT, Int.reduceLE, Int.reduceAdd, Int.reduceSub, Int.reduceMul, Int.reduceNeg, Int.reduceToNat, Int.reduceTDiv, Int.reduceTMod, ↓reduceIte, t3, t4, t5, t13, t14, t15, h5, h8, h11, h12, h13, h21, h22, h23, df (show ¬ ((x.2.length : Nat) : Int) < (x.2.length : Int) by omega)]
      rcases hO with ⟨ho, hv5⟩ | ⟨bo, go, vo, hbo, hv5, hbk, hov⟩
      · simp only [go_sem, Nat.reduceEqDiff, Nat.reduceAdd, Nat.reduceSub, Nat.reduceMul, Nat.reduceLT, Nat.reduceLeDiff, Int.reducePow, Int.reduceBEq, Int.reduceBNe, Int.reduceDiv, Int.reduceMod, Int.reduceEq, Int.reduceLT, Int.reduceLE, Int.reduceAdd, Int.reduceSub, Int.reduceMul, Int.reduceNeg, Int.reduceToNat, Int.reduceTDiv, Int.reduceTMod, ↓reduceIte, t3, t4, t5, t13, t14, t15, h5, h8, h11, h12, h13, hv5, i1, kd, kd0]
        refine ⟨k - 1, by omega, i + 1, by omega, hold.app _, by omega, hve.symm, hve.symm, rfl, ?_⟩
        rw [htk, ho]
        exact OutP.first hv (Old.apx K (_ :: _ :: G) _) hKl (by rw [hget_app]; show (G ++ _)[G.length + 1]? = _; rw [List.getElem?_append_right (by omega), Nat.add_sub_cancel_left]; rfl) (by simp) (by omega)
      · have hlo : vo.length = i := by rw [hov.1, hle]
        have hco : (plC vo).length = i * 2 := by rw [plC_len, hlo]
        simp only [go_sem, Nat.reduceEqDiff, Nat.reduceAdd, Nat.reduceSub, Nat.reduceMul, Nat.reduceLT, Nat.reduceLeDiff, Int.reducePow, Int.reduceBEq, Int.reduceBNe, Int.reduceDiv, Int.reduceMod, Int.reduceEq, Int.reduceLT, Int.reduceLE, Int.reduceAdd, Int.reduceSub, Int.reduceMul, Int.reduceNeg, Int.reduceToNat, Int.reduceTDiv, Int.reduceTMod, ↓reduceIte, t3, t4, t5, t13, t14, t15, h5, h8, h11, h12, h13, hv5, i1, kd, kd0, old_get hbk, old_set hbk, hle, hco, hs.1, hs.2, df (show ¬ bo < H.length by omega)]
        refine ⟨k - 1, by omega, i + 1, by omega, hold.olx (Olx.set1 bo K _ _) (by omega), by omega, hve.symm, hve.symm, rfl, ?_⟩
        rw [htk]
        have hnx := fun J o o1 hb => OutP.next (J := J) (go := go + 1) (c := false) hov hbo o hv o1 (List.getElem?_eq_some_iff.1 hbk).1 hb
        rw [hle] at hnx
        exact hnx _ (Olx.set1 bo K _ _) (Olx.set2 bo K (_ :: _ :: G) _ _ (List.getElem?_eq_some_iff.1 hbk).1) (old_sget hbk _ _)
  · have hi : i = ps.length := by omega
    subst hi
    have htk : (ps.map (movP A B)).take ps.length = ps.map (movP A B) := List.take_of_length_le (by omega)
    rw [htk] at hO
    have hP2 := hO.polys (by omega)
    have hP1 := hQ.old hold
    generalize hT5 : T 16 = t16 at *
    have a1 := fun r => catA_ ps _ r PX PY K hP1 hS
    have a2 := fun r => catA_ _ _ r (PX + A) (PY + B) K hP2 hS2
    simp only [hlaw] at a2
    simp only [go_sem, Nat.reduceEqDiff, Nat.reduceAdd, Nat.reduceSub, Nat.reduceMul, Nat.reduceLT, Nat.reduceLeDiff, Int.reducePow, Int.reduceBEq, Int.reduceBNe, Int.reduceDiv, Int.reduceMod, Int.reduceEq, Int.reduceLT, Int.reduceLE, Int.reduceAdd, Int.reduceSub, Int.reduceMul, Int.reduceNeg, Int.reduceToNat, Int.reduceTDiv, Int.reduceTMod, ↓reduceIte, t3, t4, t5, t13, t14, t15, hT5, h11, h12, h13, df (show ¬ ((ps.length : Nat) : Int) < (ps.length : Int) by omega)]
    repeat ((first | refine (c3 _).x ?_ | refine (c4 _).x ?_ | refine (a1 _).x ?_ | refine (a2 _).x ?_ | refine (cknown_ _).x ?_ | refine drawnF ?_ (by decide +kernel)); simp only [go_sem, Nat.reduceEqDiff, Nat.reduceAdd, Nat.reduceSub, Nat.reduceMul, Nat.reduceLT, Nat.reduceLeDiff, Int.reducePow, Int.reduceBEq, Int.reduceBNe, Int.reduceDiv, Int.reduceMod, Int.reduceEq, Int.reduceLT, Int.reduceLE, Int.reduceAdd, Int.reduceSub, Int.reduceMul, Int.reduceNeg, Int.reduceToNat, Int.reduceTDiv, Int.reduceTMod, ↓reduceIte, t3, t4, t5, t13, t14, t15, hT5, w1, w2, beq_self_eq_true])
end Go.Proofs.Ythoclopeajkcpaa
