/- Merged texts: DocL DocM DocN Frm DocO DocP DocQ. -/
import Derived.Test.YtnebnbdeobcegaaZW
/- Documents of a tape: the walk of the document. -/
namespace Go.Proofs.Ytnebnbdeobcegaa
open Go Go.RowKit E
attribute [local irreducible] XRun XOps XCode XCal XLoop XQ SemCall
set_option linter.unusedSimpArgs false
set_option linter.unusedVariables false
/-- The layers of a comp that a tape makes. -/
def LsB (c m : Int) (ls : List Ly) : Prop := ∀ (i : Nat) l, ls[i]? = some l → ∃ ah : Bool, LyB (i : Int) c m ah l ∧ (ah = false → ¬ i = 0 ∧ ∃ p, ls[i - 1]? = some p ∧ p.matte = 0)
theorem LsB.nil (c m : Int) : LsB c m [] := fun i l h => by simp at h
theorem LsB.snoc {c m : Int} {ls : List Ly} (h : LsB c m ls) {l : Ly} {ah : Bool} (hl : LyB (ls.length : Int) c m ah l) (ha : ah = false → ¬ ls.length = 0 ∧ ∃ p, ls[ls.length - 1]? = some p ∧ p.matte = 0) : LsB c m (ls ++ [l]) := fun i x hx => by
  by_cases hi : i < ls.length
  · rw [List.getElem?_append_left hi] at hx
    obtain ⟨a, h1, h2⟩ := h i x hx
    exact ⟨a, h1, fun e => ⟨(h2 e).1, by rw [List.getElem?_append_left (by omega)]; exact (h2 e).2⟩⟩
  · have hi2 : i = ls.length := by have := (List.getElem?_eq_some_iff.1 hx).1; simp at this; omega
    subst hi2
    rw [List.getElem?_append_right (by omega), Nat.sub_self] at hx
    simp at hx; subst hx
    exact ⟨ah, hl, fun e => ⟨(ha e).1, by rw [List.getElem?_append_left (by have := (ha e).1; omega)]; exact (ha e).2⟩⟩
/-- The comps that a tape makes. -/
def CsB (m : Int) (cs : List (List Ly)) : Prop := ∀ (i : Nat) ls, cs[i]? = some ls → LsB (i : Int) m ls ∧ 1 ≤ ls.length ∧ ls.length ≤ 4
theorem CsB.nil (m : Int) : CsB m [] := fun i l h => by simp at h
theorem CsB.snoc {m : Int} {cs : List (List Ly)} (h : CsB m cs) {ls : List Ly} (hl : LsB (cs.length : Int) m ls) (h1 : 1 ≤ ls.length) (h2 : ls.length ≤ 4) : CsB m (cs ++ [ls]) := fun i x hx => by
  by_cases hi : i < cs.length
  · rw [List.getElem?_append_left hi] at hx; exact h i x hx
  · have hi2 : i = cs.length := by have := (List.getElem?_eq_some_iff.1 hx).1; simp at this; omega
    subst hi2
    rw [List.getElem?_append_right (by omega), Nat.sub_self] at hx
    simp at hx; subst hx
    exact ⟨hl, h1, h2⟩
/-- A document that a tape makes. -/
structure DcB (d : Dc) : Prop where
  t : -1 ≤ d.in_ ∧ d.in_ < d.out ∧ d.out ≤ 30
  cs : CsB (d.comps.length : Int) d.comps
  n : 1 ≤ d.comps.length ∧ d.comps.length ≤ 3
theorem filt_nil {W : List Nat} {tb n : Nat} (h' : SameW W [tb]) (hn : n ≤ tb) : W.filter (fun b => decide (b < n)) = [] := by
  rw [List.filter_eq_nil_iff]
  intro b hb
  have := (h' b).1 hb
  simp at this
  simp; omega
set_option maxHeartbeats 8000000 in
theorem kdoc_ (H : AH) {t : Nat} {lv : Value} {ls : List Int} (h : Ints H t lv ls) :
    Cal Try.prog 6 [lv] H fun v H' W => W = [] ∧ (∃ L, H' = H ++ L) ∧ ∃ d cv, v = dcV d cv ∧ MkRow 1 CoE H.length H' cv d.comps ∧ DcB d := by
  refine adds_of ?_
  have hcl := h.cellsL
  refine XCal.of hm Try.func6 rfl (fun xs w => Try.call6 xs w) Try.ntmps6 Try.results6 rfl ?_
  (refine sg hcl ?_; try exact ⟨⟩)
  have hT0 : TapeAt (H ++ [⟨[.int .i64 0, .int .i64 0, nl], 0, true⟩, tblk lv 0 0]) (H.length + 1) 0 lv ls := newTape h [⟨[.int .i64 0, .int .i64 0, nl], 0, true⟩] [] (H.length + 1) rfl
  refine (next_ 4 (by omega) _ hT0).x ?_
  rintro v H1 W1 ⟨⟨x, a1⟩, ⟨x0, x1, a0, a2⟩, rfl, rfl, rfl⟩
  have x0 : 0 ≤ x := x0
  have x1 : x < 4 := x1
  have kdt : decide (H.length + 1 < H.length) = false := df (by omega)
  have w1 : IntKind.i64.wrap (x - 1) = x - 1 := wi (by omega) (by omega)
  have hB := TpS.refl hT0
  have hz : (H ++ [(⟨[.int .i64 0, .int .i64 0, nl], 0, true⟩ : Blk), tblk lv 0 0])[H.length]? = some ⟨[.int .i64 0, .int .i64 0, nl], 0, true⟩ := by rw [hget_app0]; rfl
  have hlB : (H ++ [(⟨[.int .i64 0, .int .i64 0, nl], 0, true⟩ : Blk), tblk lv 0 0]).length = H.length + 2 := by simp
  generalize H ++ [(⟨[.int .i64 0, .int .i64 0, nl], 0, true⟩ : Blk), tblk lv 0 0] = B at *
  have hT := hB.step (a := a1) a0 a2
  have hl1 : B.length = (B.set (H.length + 1) (tblk lv 0 a1)).length := by simp
  have hz := (Olx.set0 (H.length + 1) B (tblk lv 0 a1)) _ _ (by omega) hz
  generalize B.set (H.length + 1) (tblk lv 0 a1) = K1 at *
  (refine sg (et kdt w1) ?_; try exact ⟨⟩)
  refine drawnU [(0, 4), (1, 4), (2, 4)] (by decide +kernel) ?_
  have w2 : IntKind.i64.wrap (x - 1 + 1) = x := by rw [wi (by omega) (by omega)]; omega
  (refine sg w2 ?_; try exact ⟨⟩)
  refine (next_ 20 (by omega) _ (hT.tape.app _)).x ?_
  rintro v H1 W1 ⟨⟨y, b1⟩, ⟨y0, y1, b0, b2⟩, rfl, rfl, rfl⟩
  have y0 : 0 ≤ y := y0
  have y1 : y < 20 := y1
  rw [old_set (hT.tape.2).choose_spec.2.2]
  have hz := (Olx.set0 (H.length + 1) K1 (tblk lv 0 b1)) _ _ (by omega) hz
  have hT := hT.step (a := b1) b0 b2
  have hl2 : K1.length = (K1.set (H.length + 1) (tblk lv 0 b1)).length := by simp
  generalize K1.set (H.length + 1) (tblk lv 0 b1) = K2 at *
  have w3 : IntKind.i64.wrap (x + y) = x + y := wi (by omega) (by omega)
  have hK2 : K2.length = H.length + 2 := by omega
  have kd2 : decide (K2.length < H.length) = false := df (by omega)
  have kd1 : decide (K1.length < H.length) = false := df (by omega)
  have hneq : (H.length + 1 = K2.length) = False := eq_false (by omega)
  (refine sg (et kdt (et w2 (et w3 (et hl2 (et kd2 hneq))))) ?_; try exact ⟨⟩)
  have hT := hT.app [⟨[.int .i64 (x - 1), .int .i64 (x + y), nl], 0, true⟩]
  have hz := old_get hz [⟨[.int .i64 (x - 1), .int .i64 (x + y), nl], 0, true⟩]
  have hd : (K2 ++ [(⟨[.int .i64 (x - 1), .int .i64 (x + y), nl], 0, true⟩ : Blk)])[H.length + 2]? = some ⟨[.int .i64 (x - 1), .int .i64 (x + y), nl], 0, true⟩ := by rw [← hK2, hget_app0]; rfl
  generalize K2 ++ [(⟨[.int .i64 (x - 1), .int .i64 (x + y), nl], 0, true⟩ : Blk)] = K3 at *
  refine (next_ 3 (by omega) _ hT.tape).x ?_
  rintro v H1 W1 ⟨⟨z, c1⟩, ⟨z0, z1, c0, c2⟩, rfl, rfl, rfl⟩
  have z0 : 0 ≤ z := z0
  have z1 : z < 3 := z1
  have hz := (Olx.set0 (H.length + 1) K3 (tblk lv 0 c1)) _ _ (by omega) hz
  have hd := (Olx.set0 (H.length + 1) K3 (tblk lv 0 c1)) _ _ (by omega) hd
  have hT := hT.step (a := c1) c0 c2
  generalize K3.set (H.length + 1) (tblk lv 0 c1) = K4 at *
  obtain ⟨M, hM1, hM3, w5⟩ : ∃ n : Nat, 1 ≤ n ∧ n ≤ 3 ∧ IntKind.i64.wrap (1 + z) = (n : Int) := ⟨(1 + z).toNat, by omega, by omega, by rw [wi (by omega) (by omega)]; omega⟩
  (refine sg (et kdt w5) ?_; try exact ⟨⟩)
  refine keep (fun r T K D => D = [] ∧ ∃ (i : Nat) (cs : List (List Ly)) (cv : Value), i + r = M ∧ cs.length = i ∧ CsB (M : Int) cs ∧ TpS B K (H.length + 1) 0 lv ls ∧ K[H.length]? = some ⟨[.int .i64 0, .int .i64 0, nl], 0, true⟩ ∧ K[H.length + 2]? = some ⟨[.int .i64 (x - 1), .int .i64 (x + y), cv], 0, true⟩ ∧ MkRow 1 CoE (H.length + 3) K cv cs ∧ T 2 = ap H.length 0 0 ∧ T 3 = ap (H.length + 1) 0 0 ∧ T 4 = ap (H.length + 2) 0 0 ∧ T 5 = .int .i64 (M : Int) ∧ T 6 = .int .i64 (i : Int)) M
    ⟨by (refine sg (et kd1 kd2) ?_; try exact ⟨⟩), 0, [], nl, by omega, rfl, CsB.nil _, hT, hz, hd, .inl ⟨rfl, rfl⟩, by (refine sg trivial ?_; try exact ⟨⟩), by (refine sg trivial ?_; try exact ⟨⟩), by (refine sg (et hl2 hK2) ?_; try exact ⟨⟩), by (refine sg trivial ?_; try exact ⟨⟩), by (refine sg trivial ?_; try exact ⟨⟩) <;> rfl⟩ ?_
  clear hT hz hd w1 w2 w3 w5
  rintro r T K D ⟨rfl, i, cs, cv, hir, hcl', hcs, hT, hz, hd, hM, t2, t3, t4, t5, t6⟩
  have hK3 := (List.getElem?_eq_some_iff.1 hd).1
  have kdd : decide (H.length + 2 < H.length) = false := df (by omega)
  have kdz : decide (H.length < H.length) = false := df (by omega)
  by_cases hi : i < M
  · have wi1 : IntKind.i64.wrap ((i : Int) + 1) = ((i + 1 : Nat) : Int) := by rw [wi (by omega) (by omega)]; rfl
    (refine sg (et t2 (et t3 (et t4 (et t5 (et t6 (dt (show (i : Int) < (M : Int) by omega))))))) ?_; try exact ⟨⟩)
    refine (next_ 4 (by omega) _ (hT.tape.app _)).x ?_
    rintro v H1 W1 ⟨⟨u, d1⟩, ⟨u0, u1, d0, d2⟩, rfl, rfl, rfl⟩
    have u0 : 0 ≤ u := u0
    have u1 : u < 4 := u1
    obtain ⟨N, hN1, hN4, w6⟩ : ∃ n : Nat, 1 ≤ n ∧ n ≤ 4 ∧ IntKind.i64.wrap (1 + u) = (n : Int) := ⟨(1 + u).toNat, by omega, by omega, by rw [wi (by omega) (by omega)]; omega⟩
    have hTi := ((TpS.refl hT.tape).app [⟨[nl], 0, true⟩]).step (a := d1) d0 d2
    have hs : ((K ++ [(⟨[nl], 0, true⟩ : Blk)]).set (H.length + 1) (tblk lv 0 d1))[K.length]? = some ⟨[nl], 0, true⟩ := by rw [List.getElem?_set_ne (by omega), hget_app0]; rfl
    generalize (K ++ [(⟨[nl], 0, true⟩ : Blk)]).set (H.length + 1) (tblk lv 0 d1) = K5 at *
    have kdK : decide (K.length < H.length) = false := df (by omega)
    (refine sg (et t2 (et t3 (et t4 (et t5 (et t6 (et kdt w6)))))) ?_; try exact ⟨⟩)
    refine keep (fun r2 T' K' D => D = [] ∧ ∃ (j : Nat) (l : List Ly) (vl : Value) (ah : Bool), j + r2 = N ∧ l.length = j ∧ LsB (i : Int) (M : Int) l ∧ (ah = false → ¬ j = 0 ∧ ∃ p, l[j - 1]? = some p ∧ p.matte = 0) ∧ TpS K K' (H.length + 1) 0 lv ls ∧ K'[K.length]? = some ⟨[vl], 0, true⟩ ∧ MkRow 50 LyE (K.length + 1) K' vl l ∧ T' 2 = ap H.length 0 0 ∧ T' 3 = ap (H.length + 1) 0 0 ∧ T' 4 = ap (H.length + 2) 0 0 ∧ T' 5 = .int .i64 (M : Int) ∧ T' 6 = .int .i64 (i : Int) ∧ T' 7 = ap K.length 0 0 ∧ T' 8 = .int .i64 (N : Int) ∧ T' 9 = .bool ah ∧ T' 10 = .int .i64 (j : Int)) N
      ⟨rfl, 0, [], nl, true, by omega, rfl, LsB.nil _ _, (fun h => by cases h), hTi, hs, .inl ⟨rfl, rfl⟩, by (refine sg t2 ?_; try exact ⟨⟩), by (refine sg t3 ?_; try exact ⟨⟩), by (refine sg t4 ?_; try exact ⟨⟩), by (refine sg t5 ?_; try exact ⟨⟩), by (refine sg t6 ?_; try exact ⟨⟩), by (refine sg trivial ?_; try exact ⟨⟩), by (refine sg trivial ?_; try exact ⟨⟩), by (refine sg trivial ?_; try exact ⟨⟩), by (refine sg trivial ?_; try exact ⟨⟩) <;> rfl⟩ ?_
    clear hTi hs w6
    rintro r2 T' K' D ⟨rfl, j, l, vl, ah, hjr, hll, hlB, hah, hTi, hs, hMl, s2, s3, s4, s5, s6, s7, s8, s9, s10⟩
    by_cases hj : j < N
    · have wj1 : IntKind.i64.wrap ((j : Int) + 1) = ((j + 1 : Nat) : Int) := by rw [wi (by omega) (by omega)]; rfl
      (refine sg (et s2 (et s3 (et s4 (et s5 (et s6 (et s7 (et s8 (et s9 (et s10 (dt (show (j : Int) < (N : Int) by omega))))))))))) ?_; try exact ⟨⟩)
      refine (klayer_ (j : Int) (N : Int) (i : Int) (M : Int) ah (by omega) (by omega) (by omega) (by omega) (by omega) _ hTi.tape).x ?_
      rintro v V1 W1 ⟨hW, hT1, y1, xs, rfl, hr, hB1⟩
      have hfil := filt_nil hW (show H.length ≤ H.length + 1 by omega)
      have g7 := hT1.old _ _ (by omega) hs
      have hV := hT1.len
      have hK' := hTi.len
      have kdv : ∀ n, decide (V1.length + n < H.length) = false := fun n => df (by omega)
      have kdv0 : decide (V1.length < H.length) = false := df (by omega)
      have hsl := (List.getElem?_eq_some_iff.1 hs).1
      have hT2 := hTi.trans hT1
      have hls' := hlB.snoc (l := y1) (ah := ah) (by rw [hll]; exact hB1) (by rw [hll]; exact hah)
      have hah' : (y1.matte != 0) = false → ¬ j + 1 = 0 ∧ ∃ p, (l ++ [y1])[j + 1 - 1]? = some p ∧ p.matte = 0 := fun e => ⟨by omega, y1, by rw [Nat.add_sub_cancel, ← hll]; simp, by simpa using e⟩
      have hll' : (l ++ [y1]).length = j + 1 := by rw [List.length_append, hll]; rfl
      have hr' : Dep K'.length V1 (fun J => LyE J (lvC y1 xs) y1) := hr.map fun _ r => ⟨_, _, _, _, _, _, _, _, _, _, _, _, _, _, _, _, _, _, rfl, r.1, r.2⟩
      rcases hMl with ⟨rfl, rfl⟩ | ⟨bo, go, ces, hbo, rfl, hkb, hces, hel⟩
      · have hT3 := (hT2.app [⟨lvC y1 xs, 0, true⟩, ⟨lvC y1 xs, 0, true⟩, ⟨lvC y1 xs, 0, true⟩]).bo (bo := K.length) (Nat.le_refl _) (Olx.set0 K.length _ ⟨[sl (V1.length + 2) 0 0 1 50], 0, true⟩) (by simp)
        have hs3 : ((V1 ++ [(⟨lvC y1 xs, 0, true⟩ : Blk), ⟨lvC y1 xs, 0, true⟩, ⟨lvC y1 xs, 0, true⟩]).set K.length ⟨[sl (V1.length + 2) 0 0 1 50], 0, true⟩)[K.length]? = some ⟨[sl (V1.length + 2) 0 0 1 50], 0, true⟩ := List.getElem?_set_self (by rw [List.length_append]; omega)
        have hM3 : MkRow 50 LyE (K.length + 1) (V1 ++ [⟨lvC y1 xs, 0, true⟩, ⟨lvC y1 xs, 0, true⟩, ⟨lvC y1 xs, 0, true⟩]) (sl (V1.length + 2) 0 0 1 50) [y1] :=
          MkRow.first (c := lvC y1 xs) ((hr'.dex (b := V1.length + 2) (n0 := K.length + 1) (by omega) (.inr (by omega))).olx (Olx.old (Old.app' V1 _))) rfl (by rw [hget_app]; rfl) (by omega)
        have hM4 := hM3.olt (Olx.set0 K.length _ ⟨[sl (V1.length + 2) 0 0 1 50], 0, true⟩) (Nat.lt_succ_self _)
        (refine sg (et s2 (et s3 (et s4 (et s5 (et s6 (et s7 (et s8 (et s9 (et s10 (et g7 (et (old_get g7) (et hfil (et kdv (et kdv0 (et kdK wj1))))))))))))))) ?_; try exact ⟨⟩)
        exact ⟨r2 - 1, by omega, j + 1, [y1], _, (y1.matte != 0), by omega, hll', hls', hah', hT3, hs3, hM4, rfl, rfl⟩
      · have hkl := (List.getElem?_eq_some_iff.1 hkb).1
        have hkv := hT1.old _ _ (by omega) hkb
        have hel' : ∀ (i : Nat) (x : Ly), l[i]? = some x → ∃ c, ces[i]? = some c ∧ c.length = 50 ∧ Dex (K.length + 1) bo V1 (fun J => LyE J c x) := fun i x hx => by obtain ⟨c, e1, e2, e3⟩ := hel i x hx; exact ⟨c, e1, e2, e3.olt hT1.old (by omega)⟩
        have hfl := flatten_len (RowOf.all hces hel)
        rw [hces] at hfl
        have db0 : decide (bo < H.length) = false := df (by omega)
        have hsm : (l.length + 1) * 608 - 140737488355328 = 0 := Nat.sub_eq_zero_of_le (Nat.le_trans (Nat.mul_le_mul_right 608 (show l.length + 1 ≤ 11 by omega)) (by decide))
        have hsm2 : l.length + 1 - 140737488355328 = 0 := Nat.sub_eq_zero_of_le (Nat.le_trans (show l.length + 1 ≤ 11 by omega) (by decide))
        have f1 : ∀ P L, (V1.set bo P ++ L)[K.length]? = V1[K.length]? := fun P L => by rw [old_get (by rw [List.getElem?_set_ne (by omega)]; exact g7) L, g7]
        have hT3 := (hT2.bo (bo := bo) (by omega) (Olx.set1 bo V1 [⟨lvC y1 xs, 0, true⟩, ⟨lvC y1 xs, 0, true⟩] ⟨ces.flatten ++ lvC y1 xs, go + 1, true⟩) (by simp)).bo (bo := K.length) (Nat.le_refl _) (Olx.set0 K.length _ ⟨[sl bo 0 (go + 1) (l.length + 1) 50], 0, true⟩) (by simp)
        have hs3 : ((V1.set bo ⟨ces.flatten ++ lvC y1 xs, go + 1, true⟩ ++ [(⟨lvC y1 xs, 0, true⟩ : Blk), ⟨lvC y1 xs, 0, true⟩]).set K.length ⟨[sl bo 0 (go + 1) (l.length + 1) 50], 0, true⟩)[K.length]? = some ⟨[sl bo 0 (go + 1) (l.length + 1) 50], 0, true⟩ := List.getElem?_set_self (by rw [List.length_append, List.length_set]; omega)
        have hM3 := MkRow.next (E := LyE) (n0 := K.length + 1) (K := V1) (J := V1.set bo ⟨ces.flatten ++ lvC y1 xs, go + 1, true⟩ ++ [⟨lvC y1 xs, 0, true⟩, ⟨lvC y1 xs, 0, true⟩]) (g' := go + 1) hbo hces hel' (Olx.set1 _ _ _ _) ((hr'.dex (b := bo) (n0 := K.length + 1) (by omega) (.inl hkl)).olx (Olx.set1 _ _ _ _)) rfl (old_sget hkv _ _)
        have hM4 := hM3.olt (Olx.set0 K.length _ ⟨[sl bo 0 (go + 1) (l.length + 1) 50], 0, true⟩) (Nat.lt_succ_self _)
        (refine sg (et s2 (et s3 (et s4 (et s5 (et s6 (et s7 (et s8 (et s9 (et s10 (et f1 (et g7 (et (old_get g7) (et (old_get hkv) (et (old_set hkv) (et hfl (et hsm (et hsm2 (et db0 (et hfil (et kdv (et kdv0 (et kdK wj1)))))))))))))))))))))) ?_; try exact ⟨⟩)
        exact ⟨r2 - 1, by omega, j + 1, l ++ [y1], _, (y1.matte != 0), by omega, hll', hls', hah', hT3, hs3, hM4, rfl, rfl⟩
    · have hjN : j = N := by omega
      have hTB := hT.trans hTi
      have hK' := hTi.len
      have hsl := (List.getElem?_eq_some_iff.1 hs).1
      have g2 := hTi.old _ _ (by omega) hd
      have gz := hTi.old _ _ (by omega) hz
      have hcs' := hcs.snoc (ls := l) (by rw [hcl']; exact hlB) (by omega) (by omega)
      have hcl2 : (cs ++ [l]).length = i + 1 := by rw [List.length_append, hcl']; rfl
      have kdv : ∀ n, decide (K'.length + n < H.length) = false := fun n => df (by omega)
      have kdv0 : decide (K'.length < H.length) = false := df (by omega)
      have hD := hMl.dep (by omega)
      obtain ⟨va, ve, rfl⟩ := hMl.form
      have hr' : Dep (K.length + 1) K' (fun J => CoE J [.slice va l.length ve] l) := hD.map fun _ r => ⟨_, rfl, r⟩
      rcases hM with ⟨rfl, rfl⟩ | ⟨bo, go, ces, hbo, rfl, hkb, hces, hel⟩
      · have hT3 := (hTB.app [⟨[.slice va l.length ve], 0, true⟩, ⟨[.slice va l.length ve], 0, true⟩]).bo (bo := H.length + 2) (by omega) (Olx.set0 (H.length + 2) _ ⟨[.int .i64 (x - 1), .int .i64 (x + y), sl (K'.length + 1) 0 0 1 1], 0, true⟩) (by simp)
        have hd3 : ((K' ++ [(⟨[.slice va l.length ve], 0, true⟩ : Blk), ⟨[.slice va l.length ve], 0, true⟩]).set (H.length + 2) ⟨[.int .i64 (x - 1), .int .i64 (x + y), sl (K'.length + 1) 0 0 1 1], 0, true⟩)[H.length + 2]? = some ⟨[.int .i64 (x - 1), .int .i64 (x + y), sl (K'.length + 1) 0 0 1 1], 0, true⟩ := List.getElem?_set_self (by rw [List.length_append]; omega)
        have hz3 : ((K' ++ [(⟨[.slice va l.length ve], 0, true⟩ : Blk), ⟨[.slice va l.length ve], 0, true⟩]).set (H.length + 2) ⟨[.int .i64 (x - 1), .int .i64 (x + y), sl (K'.length + 1) 0 0 1 1], 0, true⟩)[H.length]? = some ⟨[.int .i64 0, .int .i64 0, nl], 0, true⟩ := by rw [List.getElem?_set_ne (by omega)]; exact old_get gz _
        have hM3 : MkRow 1 CoE (H.length + 3) (K' ++ [⟨[.slice va l.length ve], 0, true⟩, ⟨[.slice va l.length ve], 0, true⟩]) (sl (K'.length + 1) 0 0 1 1) [l] :=
          MkRow.first (c := [.slice va l.length ve]) ((hr'.dex (b := K'.length + 1) (n0 := H.length + 3) (by omega) (.inr (by omega))).olx (Olx.old (Old.app' K' _))) rfl (by rw [hget_app]; rfl) (by omega)
        have hM4 := hM3.olt (Olx.set0 (H.length + 2) _ ⟨[.int .i64 (x - 1), .int .i64 (x + y), sl (K'.length + 1) 0 0 1 1], 0, true⟩) (Nat.lt_succ_self _)
        (refine sg (et s2 (et s3 (et s4 (et s5 (et s6 (et s7 (et s8 (et s9 (et s10 (et (df (show ¬ (j : Int) < (N : Int) by omega)) (et hs (et (old_get hs) (et g2 (et (old_get g2) (et kdv (et kdv0 (et kdd (et kdK wi1)))))))))))))))))) ?_; try exact ⟨⟩)
        exact ⟨r - 1, by omega, i + 1, [l], _, by omega, hcl2, hcs', hT3, hz3, hd3, hM4, rfl⟩
      · have hkl := (List.getElem?_eq_some_iff.1 hkb).1
        have hkv := hTi.old _ _ (by omega) hkb
        have hel' : ∀ (i : Nat) (x : List Ly), cs[i]? = some x → ∃ c, ces[i]? = some c ∧ c.length = 1 ∧ Dex (H.length + 3) bo K' (fun J => CoE J c x) := fun i x hx => by obtain ⟨c, e1, e2, e3⟩ := hel i x hx; exact ⟨c, e1, e2, e3.olt hTi.old (by omega)⟩
        have hfl := flatten_len (RowOf.all hces hel)
        rw [hces] at hfl
        have db0 : decide (bo < H.length) = false := df (by omega)
        have hsm : (cs.length + 1) * 24 - 140737488355328 = 0 := Nat.sub_eq_zero_of_le (Nat.le_trans (Nat.mul_le_mul_right 24 (show cs.length + 1 ≤ 11 by omega)) (by decide))
        have hsm2 : cs.length + 1 - 140737488355328 = 0 := Nat.sub_eq_zero_of_le (Nat.le_trans (show cs.length + 1 ≤ 11 by omega) (by decide))
        have f1 : ∀ P L, (K'.set bo P ++ L)[H.length + 2]? = K'[H.length + 2]? := fun P L => by rw [old_get (by rw [List.getElem?_set_ne (by omega)]; exact g2) L, g2]
        have hT3 := (hTB.bo (bo := bo) (by omega) (Olx.set1 bo K' [⟨[.slice va l.length ve], 0, true⟩] ⟨ces.flatten ++ [.slice va l.length ve], go + 1, true⟩) (by simp)).bo (bo := H.length + 2) (by omega) (Olx.set0 (H.length + 2) _ ⟨[.int .i64 (x - 1), .int .i64 (x + y), sl bo 0 (go + 1) (cs.length + 1) 1], 0, true⟩) (by simp)
        have hd3 : ((K'.set bo ⟨ces.flatten ++ [.slice va l.length ve], go + 1, true⟩ ++ [(⟨[.slice va l.length ve], 0, true⟩ : Blk)]).set (H.length + 2) ⟨[.int .i64 (x - 1), .int .i64 (x + y), sl bo 0 (go + 1) (cs.length + 1) 1], 0, true⟩)[H.length + 2]? = some ⟨[.int .i64 (x - 1), .int .i64 (x + y), sl bo 0 (go + 1) (cs.length + 1) 1], 0, true⟩ := List.getElem?_set_self (by rw [List.length_append, List.length_set]; omega)
        have hz3 : ((K'.set bo ⟨ces.flatten ++ [.slice va l.length ve], go + 1, true⟩ ++ [(⟨[.slice va l.length ve], 0, true⟩ : Blk)]).set (H.length + 2) ⟨[.int .i64 (x - 1), .int .i64 (x + y), sl bo 0 (go + 1) (cs.length + 1) 1], 0, true⟩)[H.length]? = some ⟨[.int .i64 0, .int .i64 0, nl], 0, true⟩ := by rw [List.getElem?_set_ne (by omega)]; exact old_get (by rw [List.getElem?_set_ne (by omega)]; exact gz) _
        have hM3 := MkRow.next (E := CoE) (n0 := H.length + 3) (K := K') (J := K'.set bo ⟨ces.flatten ++ [.slice va l.length ve], go + 1, true⟩ ++ [⟨[.slice va l.length ve], 0, true⟩]) (g' := go + 1) hbo hces hel' (Olx.set1 _ _ _ _) ((hr'.dex (b := bo) (n0 := H.length + 3) (by omega) (.inl (by omega))).olx (Olx.set1 _ _ _ _)) rfl (old_sget hkv _ _)
        have hM4 := hM3.olt (Olx.set0 (H.length + 2) _ ⟨[.int .i64 (x - 1), .int .i64 (x + y), sl bo 0 (go + 1) (cs.length + 1) 1], 0, true⟩) (Nat.lt_succ_self _)
        (refine sg (et s2 (et s3 (et s4 (et s5 (et s6 (et s7 (et s8 (et s9 (et s10 (et (df (show ¬ (j : Int) < (N : Int) by omega)) (et hs (et (old_get hs) (et f1 (et g2 (et (old_get g2) (et (old_get hkv) (et (old_set hkv) (et hfl (et hsm (et hsm2 (et db0 (et kdv (et kdv0 (et kdd (et kdK wi1))))))))))))))))))))))))) ?_; try exact ⟨⟩)
        exact ⟨r - 1, by omega, i + 1, cs ++ [l], _, by omega, hcl2, hcs', hT3, hz3, hd3, hM4, rfl⟩
  · have hiM : i = M := by omega
    have g9 : ∀ X, (K.set H.length X)[H.length]? = some X := fun X => List.getElem?_set_self (by omega)
    have hM' := fun X => hM.olt (Olx.set0 H.length K X) (by omega)
    (refine sg (et t2 (et t3 (et t4 (et t5 (et t6 (et (df (show ¬ (i : Int) < (M : Int) by omega)) (et hd (et hz (et g9 kdz))))))))) ?_; try exact ⟨⟩)
    exact ⟨⟨x - 1, x + y, cs⟩, cv, rfl, (hM' _).low (by omega), ⟨⟨by show -1 ≤ x - 1; omega, by show x - 1 < x + y; omega, by show x + y ≤ 30; omega⟩, by show CsB (cs.length : Int) cs; rw [hcl', hiM]; exact hcs, by show 1 ≤ cs.length; omega, by show cs.length ≤ 3; omega⟩⟩
end Go.Proofs.Ytnebnbdeobcegaa
/- Documents of a tape are right: the plain law. -/
namespace Go.Proofs.Ytnebnbdeobcegaa
open Go Go.RowKit E
set_option linter.unusedSimpArgs false
set_option linter.unusedVariables false
/-- Parents that stand ahead: no way leads back. -/
theorem chn_down {ps : List Int} {x : Nat} (h : ∀ (i : Nat) p, i < x → ps[i]? = some p → p < (i : Int)) : ∀ (m : Nat) (k : Int), k < x → chn ps k m ≤ k ∧ (1 ≤ m → 0 ≤ k → chn ps k m < k)
  | 0, k, _ => ⟨by show k ≤ k; omega, fun h => by omega⟩
  | m + 1, k, hk => by
    have ih := chn_down h m k hk
    rw [chn]
    by_cases h0 : 0 ≤ chn ps k m
    · rw [if_pos h0]
      cases hp : ps[(chn ps k m).toNat]? with
      | none => exact ⟨by simp; omega, fun _ _ => by simp; omega⟩
      | some p =>
        have := h _ p (by omega) hp
        simp only [Option.getD_some]
        exact ⟨by omega, fun _ _ => by omega⟩
    · rw [if_neg h0]
      exact ⟨ih.1, fun _ _ => by omega⟩
theorem no_ring {ps : List Int} {x : Nat} (h : ∀ (i : Nat) p, i < x → ps[i]? = some p → p < (i : Int)) {k : Nat} (hk : k < x) (hl : k < ps.length) : ringsB ps k = false := by
  cases e : ringsB ps k with
  | false => rfl
  | true =>
    obtain ⟨m, h1, h2, h3⟩ := (ringsB_iff ps k hl).1 e
    have := (chn_down h m (k : Int) (by omega)).2 h1 (by omega)
    omega
theorem tree_ok {cs : List (List Ly)} {n k : Nat} {c : List Ly} {l : Ly} {ah : Bool} (hB : LyB (k : Int) (n : Int) (cs.length : Int) ah l) (ha : ah = false → ¬ k = 0 ∧ ∃ p, c[k - 1]? = some p ∧ p.matte = 0) (hk : k < c.length) (hr : ringsB (Ly.parents c) k = false) : treeB cs n k c l = true := by
  unfold treeB
  have h1 : ((l.parent != -1) && !(decide (0 ≤ l.parent) && decide (l.parent < (c.length : Int)))) = false := by
    obtain ⟨p0, p1⟩ := hB.pa
    by_cases h : l.parent = -1
    · rw [nt h]; rfl
    · rw [nf h, dt (show 0 ≤ l.parent by omega), dt (show l.parent < (c.length : Int) by omega)]; rfl
  have h2 : ((l.matte != 0) && (((k : Int) == 0) || (((c[k - 1]?).elim 0 (·.matte)) != 0))) = false := by
    cases ah with
    | true => rw [hB.mt.2.2 rfl]; rfl
    | false =>
      obtain ⟨e1, p, e2, e3⟩ := ha rfl
      rw [e2, bf (show ¬ (k : Int) = 0 by omega)]
      show (_ && (false || (p.matte != 0))) = false
      rw [e3]; simp
  have h3 : (!(l.kind == 1) || ((decide (0 ≤ l.comp) && decide (l.comp < (cs.length : Int))) && decide ((n : Int) < l.comp))) = true := by
    rcases hB.kd with ⟨e, _⟩ | ⟨e, e1, e2, _⟩
    · rw [e]; rfl
    · rw [e, dt e1, dt e2, dt (show 0 ≤ l.comp by omega)]; rfl
  rw [h1, h2, h3, hr]; rfl
theorem lys_zero {cs : List (List Ly)} {n : Nat} {c : List Ly} (h : ∀ (i : Nat) l, c[i]? = some l → layerB l = true ∧ treeB cs n i c l = true) : ∀ (m k : Nat), k + m = c.length → lysE cs n c k (c.drop k) = 0
  | 0, k, hk => by rw [List.drop_eq_nil_of_le (by omega)]; rfl
  | m + 1, k, hk => by
    obtain ⟨l, hl⟩ : ∃ l, c[k]? = some l := ⟨_, List.getElem?_eq_getElem (by omega)⟩
    have := h k l hl
    rw [drop_at hl, lysE, this.1, this.2, if_neg (by decide), if_neg (by decide)]
    exact lys_zero h m (k + 1) (by omega)
theorem lys_15 {cs : List (List Ly)} {n x : Nat} {c : List Ly} (h : ∀ (i : Nat) l, i < x → c[i]? = some l → layerB l = true ∧ treeB cs n i c l = true) (hx : ∀ l, c[x]? = some l → layerB l = true ∧ treeB cs n x c l = false) (hxl : x < c.length) : ∀ (m k : Nat), k + m = x → lysE cs n c k (c.drop k) = 15
  | 0, k, hk => by
    obtain rfl : k = x := by omega
    obtain ⟨l, hl⟩ : ∃ l, c[k]? = some l := ⟨_, List.getElem?_eq_getElem hxl⟩
    have := hx l hl
    rw [drop_at hl, lysE, this.1, this.2, if_neg (by decide), if_pos rfl]
  | m + 1, k, hk => by
    obtain ⟨l, hl⟩ : ∃ l, c[k]? = some l := ⟨_, List.getElem?_eq_getElem (by omega)⟩
    have := h k l (by omega) hl
    rw [drop_at hl, lysE, this.1, this.2, if_neg (by decide), if_neg (by decide)]
    exact lys_15 h hx hxl m (k + 1) (by omega)
theorem parents_down {c m : Int} {ls : List Ly} (h : LsB c m ls) : ∀ (i : Nat) p, i < ls.length → (Ly.parents ls)[i]? = some p → p < (i : Int) := fun i p hi hp => by
  obtain ⟨l, hl⟩ : ∃ l, ls[i]? = some l := ⟨_, List.getElem?_eq_getElem hi⟩
  rw [parents_at hl] at hp
  cases hp
  obtain ⟨ah, hB, _⟩ := h i l hl
  exact hB.pa.2
theorem cos_zero {cs : List (List Ly)} (h : CsB (cs.length : Int) cs) : ∀ (m n : Nat), n + m = cs.length → cosE cs n (cs.drop n) = 0
  | 0, n, hn => by rw [List.drop_eq_nil_of_le (by omega)]; rfl
  | m + 1, n, hn => by
    obtain ⟨c, hc⟩ : ∃ c, cs[n]? = some c := ⟨_, List.getElem?_eq_getElem (by omega)⟩
    obtain ⟨hls, _, _⟩ := h n c hc
    have hz := lys_zero (cs := cs) (n := n) (c := c) (fun i l hl => by
      obtain ⟨ah, hB, ha⟩ := hls i l hl
      have hi := (List.getElem?_eq_some_iff.1 hl).1
      exact ⟨hB.all, tree_ok hB ha hi (no_ring (parents_down hls) hi (by rw [parents_len]; exact hi))⟩) c.length 0 (by omega)
    rw [List.drop_zero] at hz
    rw [drop_at hc, cosE, hz, if_neg (by omega)]
    exact cos_zero h m (n + 1) (by omega)
def nb : Nat → Int
  | 0 => 0
  | n + 1 => 4 * (2 + nb n)
theorem nb_pos : ∀ n, 0 ≤ nb n
  | 0 => by show (0 : Int) ≤ 0; omega
  | n + 1 => by have := nb_pos n; show 0 ≤ 4 * (2 + nb n); omega
theorem fold_le {f : Int → Ly → Int} {B : Int} (h : ∀ n l, f n l ≤ n + B) : ∀ (ls : List Ly) (z : Int), ls.foldl f z ≤ z + (ls.length : Int) * B
  | [], z => by show z ≤ z + 0 * B; omega
  | l :: t, z => by
    have h1 := fold_le h t (f z l)
    have h2 := h z l
    show t.foldl f (f z l) ≤ _
    rw [List.length_cons, Int.natCast_add, Int.add_mul]
    show _ ≤ z + ((t.length : Int) * B + 1 * B)
    omega
theorem inn_le {r : List Int} {B : Int} (hB : 0 ≤ B) (h : ∀ v ∈ r, v ≤ B) (c n : Nat) (l : Ly) : innF r c n l ≤ B := by
  unfold innF
  split
  · cases e : r[(l.comp - (c + 1)).toNat]? with
    | none => exact hB
    | some v => exact h v (List.mem_of_getElem? e)
  · exact hB
theorem nodF_le {n i B : Int} (l : Ly) (h : i ≤ B) (hB : 0 ≤ B) : nodF n l i ≤ n + (2 + B) := by
  unfold nodF mnI
  split <;> split <;> first | omega | (split <;> omega)
theorem nod_le : ∀ (cs : List (List Ly)) (c : Nat), (∀ x ∈ cs, x.length ≤ 4) → ∀ v ∈ cntGo nodF 0 c cs, v ≤ nb cs.length
  | [], c, _, v, hv => by cases hv
  | x :: rest, c, h, v, hv => by
    rw [cntGo_cons] at hv
    have ih := nod_le rest (c + 1) (fun y hy => h y (by simp [hy]))
    have hp := nb_pos rest.length
    have hx := h x (by simp)
    rcases List.mem_cons.1 hv with rfl | hv
    · have hf := fold_le (f := fun n l => nodF n l (innF (cntGo nodF 0 (c + 1) rest) c rest.length l)) (B := 2 + nb rest.length) (fun n l => nodF_le l (inn_le hp ih c rest.length l) hp) x 0
      have hm : (x.length : Int) * (2 + nb rest.length) ≤ 4 * (2 + nb rest.length) := Int.mul_le_mul_of_nonneg_right (by omega) (by omega)
      show _ ≤ 4 * (2 + nb rest.length)
      omega
    · have := ih v hv
      show v ≤ 4 * (2 + nb rest.length)
      omega
theorem fold_mx {f : Int → Ly → Int} {B : Int} (h : ∀ n l, n ≤ B → f n l ≤ B) : ∀ (ls : List Ly) (z : Int), z ≤ B → ls.foldl f z ≤ B
  | [], z, hz => hz
  | l :: t, z, hz => fold_mx h t (f z l) (h z l hz)
theorem dep_le : ∀ (cs : List (List Ly)) (c : Nat), ∀ v ∈ cntGo depF 1 c cs, v ≤ (cs.length : Int)
  | [], c, v, hv => by cases hv
  | x :: rest, c, v, hv => by
    rw [cntGo_cons] at hv
    have ih := dep_le rest (c + 1)
    rcases List.mem_cons.1 hv with rfl | hv
    · rw [List.length_cons]
      exact fold_mx (fun n l hn => by
        have := inn_le (by omega) ih c rest.length l
        show mxI n (1 + _) ≤ _
        unfold mxI
        split <;> omega) x 1 (by omega)
    · have := ih v hv
      rw [List.length_cons]; omega
theorem get_le {r : List Int} {B : Int} (hB : 0 ≤ B) (h : ∀ v ∈ r, v ≤ B) (i : Nat) : (r[i]?).getD 0 ≤ B := by
  cases e : r[i]? with
  | none => exact hB
  | some v => exact h v (List.mem_of_getElem? e)
theorem right_made {d : Dc} (h : DcB d) : rightE d = 0 := by
  obtain ⟨n1, n3⟩ := h.n
  have h4 : ∀ x ∈ d.comps, x.length ≤ 4 := fun x hx => by
    obtain ⟨i, hi⟩ := List.getElem?_of_mem hx
    exact (h.cs i x hi).2.2
  obtain ⟨t0, t1, t2⟩ := h.t
  have hs : sizeB d.comps = false := by
    unfold sizeB
    rw [df (show ¬ (d.comps.length : Int) < 1 by omega), df (show ¬ (8 : Int) < (d.comps.length : Int) by omega)]
    rw [Bool.or_self, Bool.false_or, List.any_eq_false]
    intro x hx
    have := h4 x hx
    simp; omega
  have ht : (!tickB d.in_ || !tickB d.out || decide (d.out ≤ d.in_)) = false := by
    rw [tick_sm (by omega), tick_sm (by omega), df (by omega)]; rfl
  have hc := cos_zero h.cs d.comps.length 0 (by omega)
  rw [List.drop_zero] at hc
  have hd : deepE d.comps 0 ≤ 4 := by
    unfold deepE
    split
    · have := get_le (B := (d.comps.length : Int)) (by omega) (dep_le d.comps 0) (0 : Int).toNat
      omega
    · omega
  have hn : nodesE d.comps 0 ≤ 256 := by
    unfold nodesE
    split
    · have := get_le (nb_pos d.comps.length) (nod_le d.comps 0 h4) (0 : Int).toNat
      have h168 : nb d.comps.length ≤ 168 := by
        obtain e | e | e : d.comps.length = 1 ∨ d.comps.length = 2 ∨ d.comps.length = 3 := by omega
        all_goals rw [e]; decide
      omega
    · omega
  unfold rightE
  rw [hs, ht, hc, if_neg (by decide), if_neg (by decide), if_neg (by decide), if_neg (by omega)]
/-- A layer that is its own parent. -/
theorem right_own {d : Dc} (h : DcB d) {c0 : List Ly} (h0 : d.comps[0]? = some c0) {x : Nat} {l : Ly} (hx : c0[x]? = some l) :
    rightE ⟨d.in_, d.out, d.comps.set 0 (c0.set x { l with parent := (x : Int) })⟩ = 15 := by
  obtain ⟨n1, n3⟩ := h.n
  have hxl := (List.getElem?_eq_some_iff.1 hx).1
  have hc0 := (h.cs 0 c0 h0)
  have h4 : ∀ y ∈ d.comps.set 0 (c0.set x { l with parent := (x : Int) }), y.length ≤ 4 := fun y hy => by
    rcases List.mem_or_eq_of_mem_set hy with hy | rfl
    · obtain ⟨i, hi⟩ := List.getElem?_of_mem hy
      exact (h.cs i y hi).2.2
    · rw [List.length_set]; exact hc0.2.2
  obtain ⟨t0, t1, t2⟩ := h.t
  have hlen : (d.comps.set 0 (c0.set x { l with parent := (x : Int) })).length = d.comps.length := List.length_set ..
  have hs : sizeB (d.comps.set 0 (c0.set x { l with parent := (x : Int) })) = false := by
    unfold sizeB
    rw [hlen, df (show ¬ (d.comps.length : Int) < 1 by omega), df (show ¬ (8 : Int) < (d.comps.length : Int) by omega)]
    rw [Bool.or_self, Bool.false_or, List.any_eq_false]
    intro x hx
    have := h4 x hx
    simp; omega
  have ht : (!tickB d.in_ || !tickB d.out || decide (d.out ≤ d.in_)) = false := by
    rw [tick_sm (by omega), tick_sm (by omega), df (by omega)]; rfl
  have hpar : Ly.parents (c0.set x { l with parent := (x : Int) }) = (Ly.parents c0).set x (x : Int) := by
    unfold Ly.parents; rw [List.map_set]
  have hpl : ((Ly.parents c0).set x (x : Int)).length = c0.length := by rw [List.length_set, parents_len]
  have hdown : ∀ (i : Nat) p, i < x → ((Ly.parents c0).set x (x : Int))[i]? = some p → p < (i : Int) := fun i p hi hp => by
    rw [List.getElem?_set_ne (by omega)] at hp
    exact parents_down hc0.1 i p (by omega) hp
  have hly : lysE (d.comps.set 0 (c0.set x { l with parent := (x : Int) })) 0 (c0.set x { l with parent := (x : Int) }) 0 ((c0.set x { l with parent := (x : Int) }).drop 0) = 15 := by
    refine lys_15 (x := x) (fun i y hi hy => ?_) (fun y hy => ?_) (by rw [List.length_set]; exact hxl) x 0 (by omega)
    · rw [List.getElem?_set_ne (by omega)] at hy
      obtain ⟨ah, hB, ha⟩ := hc0.1 i y hy
      refine ⟨hB.all, tree_ok (ah := ah) (by rw [hlen]; exact hB) (fun e => ⟨(ha e).1, ?_⟩) (by rw [List.length_set]; omega) (by rw [hpar]; exact no_ring hdown hi (by rw [hpl]; omega))⟩
      rw [List.getElem?_set_ne (by omega)]; exact (ha e).2
    · rw [List.getElem?_set_self hxl] at hy
      cases hy
      obtain ⟨ah, hB, ha⟩ := hc0.1 x l hx
      refine ⟨hB.all, ?_⟩
      have hr : ringsB (Ly.parents (c0.set x { l with parent := (x : Int) })) x = true := by
        rw [hpar]
        refine (ringsB_iff _ x (by rw [hpl]; exact hxl)).2 ⟨1, Nat.le_refl _, by rw [hpl]; omega, ?_⟩
        show (if (0 : Int) ≤ (x : Int) then _ else _) = _
        rw [if_pos (by omega)]
        show (((Ly.parents c0).set x (x : Int))[((x : Int)).toNat]?).getD (-1) = _
        rw [Int.toNat_natCast, List.getElem?_set_self (by rw [parents_len]; exact hxl)]; rfl
      unfold treeB
      rw [hr, Bool.or_true, Bool.not_true, Bool.false_and, Bool.false_and]
  rw [List.drop_zero] at hly
  have hc : cosE (d.comps.set 0 (c0.set x { l with parent := (x : Int) })) 0 (d.comps.set 0 (c0.set x { l with parent := (x : Int) })) = 15 := by
    obtain ⟨t, ht⟩ : ∃ t, d.comps = c0 :: t := by
      cases e : d.comps with
      | nil => rw [e] at h0; simp at h0
      | cons a t => rw [e] at h0; simp at h0; exact ⟨t, by rw [h0]⟩
    rw [ht] at hly ⊢
    rw [List.set_cons_zero] at hly ⊢
    rw [cosE, hly, if_pos (by decide)]
  unfold rightE
  show (if sizeB _ = true then _ else _) = _
  rw [hs, if_neg (by decide)]
  show (if (!tickB d.in_ || !tickB d.out || decide (d.out ≤ d.in_)) = true then _ else _) = _
  rw [ht, if_neg (by decide)]
  show (if ¬ cosE _ _ _ = 0 then _ else _) = _
  rw [hc, if_pos (by decide)]
end Go.Proofs.Ytnebnbdeobcegaa
/- Documents: the walk of DocMade. -/
namespace Go.Proofs.Ytnebnbdeobcegaa
open Go Go.RowKit E
attribute [local irreducible] XRun XOps XCode XCal XLoop XQ SemCall
set_option linter.unusedSimpArgs false
set_option linter.unusedVariables false
theorem flatten_set {s : Nat} : ∀ {cs : List (List Value)} {i : Nat} {c : List Value} (j : Nat) (v : Value), (∀ c ∈ cs, c.length = s) → cs[i]? = some c → j < s → cs.flatten.set (i * s + j) v = (cs.set i (c.set j v)).flatten
  | [], i, c, j, v, _, hi, _ => by simp at hi
  | d :: cs, 0, c, j, v, h, hi, hj => by
    simp at hi; subst hi
    have := h d (by simp)
    rw [List.flatten_cons, List.set_cons_zero, List.flatten_cons, Nat.zero_mul, Nat.zero_add, List.set_append_left _ _ (by omega)]
  | d :: cs, i + 1, c, j, v, h, hi, hj => by
    have hd := h d (by simp)
    have ih := flatten_set (s := s) (cs := cs) (i := i) (c := c) j v (fun d hd => h d (by simp [hd])) (by simpa using hi) hj
    rw [List.flatten_cons, List.set_cons_succ, List.flatten_cons, ← ih, List.set_append_right _ _ (by rw [Nat.add_mul]; omega), hd, Nat.add_mul, show i * s + 1 * s + j - s = i * s + j by omega]
theorem set_splice : ∀ (l : List Value) (i : Nat) (v : Value), i < l.length → l.take i ++ ([v] ++ l.drop (i + 1)) = l.set i v
  | [], i, v, h => by simp at h
  | x :: l, 0, v, h => rfl
  | x :: l, i + 1, v, h => by
    have := set_splice l i v (by simpa using h)
    show x :: (l.take i ++ ([v] ++ l.drop (i + 1))) = x :: l.set i v
    rw [this]
set_option maxHeartbeats 4000000 in
theorem dmade (lv : Value) (ls : List Int) (t : Nat) (H : AH) (h : Ints H t lv ls) (k : Int) (hk : -9223372036854775808 ≤ k ∧ k ≤ 9223372036854775807) : SemCall Try.prog 3 [lv, .int .i64 k] H (.bool true) H [] := by
  refine pure_of ?_ rfl
  refine XCal.of hm Try.func3 rfl (fun xs w => Try.call3 xs w) Try.ntmps3 Try.results3 rfl ?_
  (refine sg trivial ?_; try exact ⟨⟩)
  refine (kdoc_ _ h).x ?_
  rintro v H1 W1 ⟨rfl, ⟨L, rfl⟩, d, cv, rfl, hM, hD⟩
  have hKl : H.length ≤ (H ++ L).length := by rw [List.length_append]; omega
  have hC := (hM.dep (by have := hD.n; omega)).here
  generalize H ++ L = K at *
  obtain ⟨n1, n3⟩ := hD.n
  obtain ⟨c0, hc0⟩ : ∃ c0, d.comps[0]? = some c0 := ⟨_, List.getElem?_eq_getElem (by omega)⟩
  rcases hM with ⟨e, _⟩ | ⟨b, g, cs, hb0, rfl, hb, hcs, hel⟩
  · rw [e] at n1; simp at n1
  obtain ⟨cc, hcc, hccl, hcx⟩ := hel 0 c0 hc0
  obtain ⟨sv, rfl, _⟩ := hcx K fun _ _ _ _ e => e
  obtain ⟨ct, rfl⟩ : ∃ ct, cs = [sv] :: ct := by
    cases cs with
    | nil => simp at hcc
    | cons a t => simp at hcc; exact ⟨t, by rw [hcc]⟩
  obtain ⟨hB0, m1, m4⟩ := hD.cs 0 c0 hc0
  have kd : ∀ n, decide (K.length + n < H.length) = false := fun n => df (by omega)
  have kd0 : decide (K.length < H.length) = false := df (by omega)
  (refine sg (et kd kd0) ?_; try exact ⟨⟩)
  have hr := dright_ d (sl b 0 g d.comps.length 1) (K ++ [⟨[.int .i64 d.in_, .int .i64 d.out, sl b 0 g d.comps.length 1], 0, true⟩]) (hC.old CoE.m (Old.app' _ _))
  rw [right_made hD] at hr
  refine hr.x ?_
  have hbl := (List.getElem?_eq_some_iff.1 hb).1
  obtain ⟨sv', he, hls⟩ := hcx (K.set b ⟨([sl (K.length + 1) 0 1 c0.length 50] :: ct).flatten, g, true⟩ ++ [⟨[.int .i64 d.in_, .int .i64 d.out, sl b 0 g d.comps.length 1], 0, true⟩]) fun c k _ hne e => Olx.set1 b K _ _ c k hne e
  simp at he
  subst he
  rcases hls with ⟨e, _⟩ | ⟨b2, g2, rest2, rw2, ces, rfl, hb2J, hces, hln, hel2⟩
  · rw [e] at m1; simp at m1
  have hb2 : K[b2]? = some ⟨ces.flatten ++ rest2, g2, rw2⟩ := by
    have hcl9 := flatten_len (RowOf.all hces hel2)
    have hcs9 := flatten_len (RowOf.all hcs hel)
    rw [hcs] at hcs9
    have h50 : 50 ≤ (ces.flatten ++ rest2).length := by rw [List.length_append, hcl9]; omega
    by_cases e1 : b2 = b
    · subst e1
      rw [old_sget hb] at hb2J
      have e2 : ([sl (K.length + 1) 0 1 c0.length 50] :: ct).flatten = ces.flatten ++ rest2 := by injection hb2J with e; injection e
      rw [← e2] at h50
      have : ([sl (K.length + 1) 0 1 c0.length 50] :: ct).flatten.length = d.comps.length * 1 := hcs9
      omega
    · by_cases e2 : b2 < K.length
      · rw [List.getElem?_append_left (by simpa using e2), List.getElem?_set_ne (fun e => e1 e.symm)] at hb2J; exact hb2J
      · have e3 := (List.getElem?_eq_some_iff.1 hb2J).1
        have e4 : b2 = (K.set b ⟨([sl (K.length + 1) 0 1 c0.length 50] :: ct).flatten, g, true⟩).length := by simp at e3 ⊢; omega
        rw [e4, hget_app0] at hb2J
        have e5 : [.int .i64 d.in_, .int .i64 d.out, sl b 0 g d.comps.length 1] = ces.flatten ++ rest2 := by injection hb2J with e; injection e
        rw [← e5] at h50
        simp at h50
  have hb2l := (List.getElem?_eq_some_iff.1 hb2).1
  have q0 : (0 : Int) < (d.comps.length : Int) := by omega
  have hcell : ∀ m : Nat, (([sl b2 0 g2 m 50] :: ct).flatten)[0]? = some (sl b2 0 g2 m 50) := fun _ => rfl
  obtain ⟨n, hn⟩ : ∃ n, c0.length = n := ⟨_, rfl⟩
  have b1 := tmod_b k (n : Int) (by omega)
  have w3 : IntKind.i64.wrap (k.tmod (n : Int) + (n : Int)) = k.tmod (n : Int) + (n : Int) := wi (by omega) (by omega)
  have b2' := tmod_p (k.tmod (n : Int) + (n : Int)) (n : Int) (by omega) (by omega)
  have wt1 : IntKind.i64.wrap (k.tmod (n : Int)) = k.tmod (n : Int) := wi (by omega) (by omega)
  have z0 : ((n : Int) = 0) = False := eq_false (by omega)
  (refine sg (et (old_get hb) (et q0 (et hcell (et hn (et z0 w3))))) ?_; try exact ⟨⟩)
  generalize (k.tmod (n : Int) + (n : Int)).tmod (n : Int) = X at *
  obtain ⟨x, rfl⟩ : ∃ x : Nat, X = (x : Int) := ⟨X.toNat, by omega⟩
  have hxn : x < n := by omega
  obtain ⟨l, hl⟩ : ∃ l, c0[x]? = some l := ⟨_, List.getElem?_eq_getElem (by omega)⟩
  obtain ⟨c, hcx1, hcl, hly⟩ := hel2 x l hl
  have hall := RowOf.all hces hel2
  have hfl := flatten_len hall
  rw [hces, hn] at hfl
  have zn : (n = 0) = False := eq_false (by omega)
  have hz1 : 0 + n * 50 - (ces.flatten ++ rest2).length = 0 := by rw [List.length_append, hfl]; omega
  have ht1 : ((ces.flatten ++ rest2).drop 0).take (n * 50) = ces.flatten := by rw [List.drop_zero, ← hfl, List.take_left]
  have hz2 : n * 50 - (ces.flatten ++ rest2).length = 0 := by rw [List.length_append, hfl]; omega
  have hz3 : n * 50 - (ces.flatten.length + rest2.length) = 0 := by omega
  have hz4 : n * 50 - (n * 50 + rest2.length) = 0 := by omega
  have ht2 : (ces.flatten ++ rest2).take (n * 50) = ces.flatten := by rw [← hfl, List.take_left]
  have hp1 : (0 + n) * 608 - 140737488355328 = 0 := Nat.sub_eq_zero_of_le (Nat.le_trans (Nat.mul_le_mul_right 608 (show 0 + n ≤ 11 by omega)) (by decide))
  have hp2 : 0 + n - 140737488355328 = 0 := Nat.sub_eq_zero_of_le (Nat.le_trans (show 0 + n ≤ 11 by omega) (by decide))
  have hp3 : n * 608 - 140737488355328 = 0 := by rw [Nat.zero_add] at hp1; exact hp1
  have hp4 : n - 140737488355328 = 0 := by rw [Nat.zero_add] at hp2; exact hp2
  (refine sg (old_get hb2) ?_; try exact ⟨⟩)
  rw [asy_some zn hz1]
  have q1 : (0 : Int) ≤ (x : Int) := by omega
  have q2 : (x : Int) < (n : Int) := by omega
  have kdb : decide (b < H.length) = false := df (by omega)
  have hxl : x * 50 + 1 < ces.flatten.length := by rw [hfl]; omega
  have hast : ∀ (J : AH) b', ast J (some ⟨ces.flatten, 1, true⟩) (some [.int .i64 (x : Int)]) (some 1) b' (x * 50 + 1) 1 = some (J.set b' ⟨(ces.set x (c.set 1 (.int .i64 (x : Int)))).flatten, 1, true⟩, b') := fun J b' => by
    rw [ast_some (s := 1) rfl (by omega), splice_def, ← flatten_set 1 _ hall hcx1 (by omega), ← set_splice _ _ _ hxl]
    simp
  have hast2 : ∀ (J : AH) (m : Nat) (v : Value), ast J (some ⟨([sl b2 0 g2 m 50] :: ct).flatten, g, true⟩) (some [v]) (some 1) b 0 g = some (J.set b ⟨([v] :: ct).flatten, g, true⟩, b) := fun J m v => by
    rw [ast_some (s := 1) rfl (by simp), splice_def]
    simp
  (refine sg (et ht1 (et ht2 (et zn (et hp1 (et hp2 (et hp3 (et hp4 (et Nat.zero_add (et q1 (et q2 (et Int.toNat_natCast (et hast (et (old_get hb) (et (old_set hb) (et q0 (et hast2 (et kd (et kd0 kdb)))))))))))))))))) ?_; try exact ⟨⟩)
  have hcs9 := flatten_len (RowOf.all hcs hel)
  have hJo : ∀ M : AH, Olx b K (K.set b ⟨([sl (K.length + 1) 0 1 n 50] :: ct).flatten, g, true⟩ ++ M) := fun M => Olx.set1 b K _ _
  rw [hn] at hel2 hly
  have s2 : ∀ P (M : AH), (K.set b P ++ M)[K.length + 1]? = M[1]? := fun P M => by rw [show K.length + 1 = (K.set b P).length + 1 by simp, hget_app]
  obtain ⟨J, hJ⟩ : ∃ J, K.set b ⟨([sl (K.length + 1) 0 1 n 50] :: ct).flatten, g, true⟩ ++ [(⟨[.int .i64 d.in_, .int .i64 d.out, sl b 0 g d.comps.length 1], 0, true⟩ : Blk), ⟨(ces.set x (c.set 1 (.int .i64 (x : Int)))).flatten, 1, true⟩] = J := ⟨_, rfl⟩
  have hO : Old (K.set b ⟨([sl (K.length + 1) 0 1 n 50] :: ct).flatten, g, true⟩ ++ [⟨[.int .i64 d.in_, .int .i64 d.out, sl b 0 g d.comps.length 1], 0, true⟩]) J := by
    rw [← hJ]; exact Old.app2 _ [_] [_]
  have hOx : Olx b K J := by rw [← hJ]; exact Olx.set1 b K _ _
  have hJb : J[b]? = some ⟨([sl (K.length + 1) 0 1 n 50] :: ct).flatten, g, true⟩ := by rw [← hJ]; exact old_sget hb _ _
  have hJn : J[K.length + 1]? = some ⟨(ces.set x (c.set 1 (.int .i64 (x : Int)))).flatten, 1, true⟩ := by
    rw [← hJ, s2]; rfl
  have hL : Lys J (sl (K.length + 1) 0 1 n 50) (c0.set x { l with parent := (x : Int) }) := by
    refine .inr ⟨K.length + 1, 1, [], true, ces.set x (c.set 1 (.int .i64 (x : Int))), by rw [List.length_set, hn], by rw [List.append_nil]; exact hJn, by rw [List.length_set, List.length_set, hces], by rw [List.length_set]; exact hln, fun i y hy => ?_⟩
    by_cases hi : i = x
    · subst hi
      rw [List.getElem?_set_self (by omega)] at hy
      cases hy
      refine ⟨_, List.getElem?_set_self (by omega), by rw [List.length_set]; exact hcl, ?_⟩
      obtain ⟨v0, v1, v2, v3, v4, v5, v6, v7, v8, pm, vw, vh, vp, vc, vd, vda, vf, vt, rfl, hv, hsv⟩ := LyE.m _ _ _ _ hO hly
      exact ⟨v0, v1, v2, v3, v4, v5, v6, v7, v8, pm, vw, vh, vp, vc, vd, vda, vf, vt, rfl, ⟨hv.x, hv.y, hv.ax, hv.ay, hv.sx, hv.sy, hv.turn, hv.opac, hv.remap, hv.mask⟩, hsv⟩
    · rw [List.getElem?_set_ne (fun e => hi e.symm)] at hy
      obtain ⟨c', f1, f2, f3⟩ := hel2 i y hy
      exact ⟨c', by rw [List.getElem?_set_ne (fun e => hi e.symm)]; exact f1, f2, LyE.m _ _ _ _ hO f3⟩
  have hC' : Cos J (sl b 0 g d.comps.length 1) (d.comps.set 0 (c0.set x { l with parent := (x : Int) })) := by
    refine .inr ⟨b, g, [], true, [sl (K.length + 1) 0 1 n 50] :: ct, by rw [List.length_set], by rw [List.append_nil]; exact hJb, by rw [List.length_set]; exact hcs, by rw [List.length_set]; omega, fun i y hy => ?_⟩
    match i, hy with
    | 0, hy =>
      rw [List.getElem?_set_self (by omega)] at hy
      cases hy
      exact ⟨_, rfl, rfl, _, rfl, hL⟩
    | i + 1, hy =>
      rw [List.getElem?_set_ne (by omega)] at hy
      obtain ⟨c', f1, f2, f3⟩ := hel (i + 1) y hy
      exact ⟨c', f1, f2, f3 J fun c k _ hne e => hOx c k hne e⟩
  have hr2 := dright_ ⟨d.in_, d.out, d.comps.set 0 (c0.set x { l with parent := (x : Int) })⟩ (sl b 0 g d.comps.length 1) J hC'
  rw [right_own hD hc0 hl, ← hJ] at hr2
  refine hr2.x ?_
  (refine sg trivial ?_; try exact ⟨⟩)
  refine (dknown_ _).x ?_
  (refine sg (et kd (et kd0 kdb)) ?_; try exact ⟨⟩)
end Go.Proofs.Ytnebnbdeobcegaa
/- A call in a bigger heap: what lies beside is no matter. -/
namespace Go.Proofs.Ytnebnbdeobcegaa.E
open Go Go.RowKit
set_option linter.unusedSimpArgs false
set_option linter.unusedVariables false
/-- A value whose blocks are renumbered. -/
def mapV (φ : Nat → Nat) : Value → Value
  | .pointer (some ⟨b, off, some g⟩) => .pointer (some ⟨φ b, off, some g⟩)
  | .slice (some ⟨b, off, some g⟩) len e => .slice (some ⟨φ b, off, some g⟩) len e
  | .func f xs zs => .func f (xs.attach.map fun x => mapV φ x.1) (zs.attach.map fun x => mapV φ x.1)
  | .agg xs => .agg (xs.attach.map fun x => mapV φ x.1)
  | .tuple xs => .tuple (xs.attach.map fun x => mapV φ x.1)
  | v => v
termination_by v => SizeOf.sizeOf v
decreasing_by all_goals (have := Array.sizeOf_lt_of_mem x.2; simp; omega)
theorem mapV_one (φ : Nat → Nat) (v : Value) : one (mapV φ v) = one v := by
  unfold mapV; split <;> rfl
theorem VR.map {φ : Nat → Nat} {M M' : Mp} (h : ∀ b g x, M b g = some x → M' (φ b) g = some x) {v v' : Value} (r : VR M v v') : VR M' (mapV φ v) v' := by
  induction r with
  | bool b => unfold mapV; exact .bool b
  | int k n => unfold mapV; exact .int k n
  | str s => unfold mapV; exact .str s
  | nilp => unfold mapV; exact .nilp
  | ptr e => unfold mapV; exact .ptr (h _ _ _ e)
  | nils => unfold mapV; exact .nils
  | zs => unfold mapV; exact .zs
  | ze e => unfold mapV; exact .ze (h _ _ _ e)
  | sl e a b => unfold mapV; exact .sl (h _ _ _ e) a b
  | nilf => unfold mapV; exact .nilf
  | nili => unfold mapV; exact .nili
  | fn a _ b _ ih ih' =>
    unfold mapV
    exact .fn (by simpa using a) (fun i h1 h2 => by simpa using ih i (by simpa using h1) h2) (by simpa using b) (fun i h1 h2 => by simpa using ih' i (by simpa using h1) h2)
  | agg a o _ ih =>
    unfold mapV
    exact .agg (by simpa using a) (fun i h1 => by simpa [mapV_one] using o i (by simpa using h1)) (fun i h1 h2 => by simpa using ih i (by simpa using h1) h2)
  | tup a _ ih =>
    unfold mapV
    exact .tup (by simpa using a) (fun i h1 h2 => by simpa using ih i (by simpa using h1) h2)
/-- A map of blocks, of these alone. -/
def onlyM (S : Nat → Bool) (M : Mp) : Mp := fun b g => if S b then M b g else none
/-- A value that leads to these blocks alone. -/
def Leads (S : Nat → Bool) (v : Value) : Prop := ∀ (M : Mp) (v' : Value), VR M v v' → VR (onlyM S M) v v'
def mapB (φ : Nat → Nat) (k : Blk) : Blk := ⟨k.cells.map (mapV φ), k.gen, k.rw⟩
/-- Blocks from n on, moved by d. -/
def mov (n d b : Nat) : Nat := if b < n then b else b + d
theorem SemCall.frame {P : Program} {f : FuncId} {args : List Value} {H L G : AH} {v : Value} (S : Nat → Bool) (h : SemCall P f args H v (H ++ L) []) (hS : ∀ b, S b = true → b < H.length)
    (ha : ∀ a ∈ args, Leads S a) (hc : ∀ b k, S b = true → H[b]? = some k → ∀ c ∈ k.cells, Leads S c) (d : Nat) (hG : G.length = H.length + d)
    (hsub : ∀ b k, S b = true → H[b]? = some k → ∃ k', G[b]? = some k' ∧ k'.gen = k.gen ∧ k'.rw = k.rw ∧ ∃ r, k'.cells = k.cells ++ r) :
    SemCall P f args G (mapV (mov H.length d) v) (G ++ L.map (mapB (mov H.length d))) [] := by
  refine ⟨⟨h.1.1, by simp, fun b hb _ => List.getElem?_append_left hb⟩, fun N0 M w args' p hv => ?_⟩
  have hO : ∀ {b g x}, onlyM S M b g = some x → S b = true ∧ M b g = some x := fun {b g x} e => by
    unfold onlyM at e
    by_cases hb : S b = true
    · rw [if_pos hb] at e; exact ⟨hb, e⟩
    · rw [if_neg hb] at e; cases e
  have p0 : Pre N0 H none (onlyM S M) w := by
    refine ⟨fun e => hS _ (hO e).1, ⟨fun e => p.hp.lt (hO e).2, fun e => p.hp.own (hO e).2, fun e e' => p.hp.inj (hO e).2 (hO e').2, fun e e' => p.hp.hom (hO e).2 (hO e').2⟩, p.low, ?_⟩
    intro b k _ hk ⟨g, x, hm⟩
    have hb := (hO hm).1
    have hbl := hS b hb
    obtain ⟨k', hk', hg, hrw, r, hcells⟩ := hsub b k hb hk
    obtain ⟨c, o, n, h1, h2, h3, h4⟩ := p.cont (b := b) (k := k') trivial hk' ⟨g, x, (hO hm).2⟩
    have e1 : ∀ g, onlyM S M b g = M b g := fun g => by unfold onlyM; rw [if_pos hb]
    rw [hg] at h1 h2
    refine ⟨c, o, n, by rw [e1]; exact h1, fun g hg => by rw [e1]; exact h2 g hg, fun i u hu => ?_, fun e => h4 (by rw [hrw]; exact e)⟩
    obtain ⟨o1, v', h5, h6⟩ := h3 i u (by rw [hcells, List.getElem?_append_left (List.getElem?_eq_some_iff.1 hu).1]; exact hu)
    exact ⟨o1, v', h5, hc b k hb hk u (List.mem_of_getElem? hu) M v' h6⟩
  have hv0 : VRs (onlyM S M) args args'.toList := ⟨hv.1, fun i a a' h1 h2 => ha a (List.mem_of_getElem? h1) M a' (hv.2 i a a' h1 h2)⟩
  refine (h.2 N0 (onlyM S M) w args' p0 hv0).mono (fun e w' ⟨v', M', he, hr, q⟩ => ?_)
  have lo : ∀ b g x, b < H.length → M' b g = some x → M b g = some x := fun b g x hb e => by
    rw [q.keep b g hb (by simp)] at e; exact (hO e).2
  have fr : ∀ {b g c o n}, H.length ≤ b → M' b g = some (c, o, n) → w.heap.size ≤ c := fun {b g c o n} hb e => by
    rcases q.fresh e with h | ⟨g', h⟩
    · exact h
    · have := hS _ (hO h).1; omega
  obtain ⟨M2, hM2⟩ : ∃ M2 : Mp, ∀ b g, M2 b g = if b < G.length then M b g else M' (b - d) g := ⟨_, fun _ _ => rfl⟩
  have m1 : ∀ b g, b < G.length → M2 b g = M b g := fun b g hb => by rw [hM2, if_pos hb]
  have m2 : ∀ b g, ¬ b < G.length → M2 b g = M' (b - d) g := fun b g hb => by rw [hM2, if_neg hb]
  have hφ : ∀ b g x, M' b g = some x → M2 (mov H.length d b) g = some x := fun b g x e => by
    unfold mov
    by_cases hb : b < H.length
    · rw [if_pos hb, m1 _ _ (by omega)]; exact lo b g x hb e
    · rw [if_neg hb, m2 _ _ (by omega), Nat.add_sub_cancel]; exact e
  refine ⟨v', M2, he, VR.map hφ hr, ?_⟩
  exact {
    le := by simp
    same := fun b hb _ => List.getElem?_append_left hb
    ext := fun b g x e => by rw [m1 b g (p.dom e)]; exact e
    keep := fun b g hb _ => m1 b g hb
    dom := fun {b g x} e => by
      by_cases hb : b < G.length
      · rw [List.length_append]; omega
      · rw [m2 _ _ hb] at e
        have := q.dom e
        rw [List.length_append] at this
        rw [List.length_append, List.length_map]; omega
    absent := fun b hb hn g => by rw [m1 b g hb]; exact hn g
    fresh := fun {b g c o n} e => by
      by_cases hb : b < G.length
      · rw [m1 _ _ hb] at e; exact .inr ⟨g, e⟩
      · rw [m2 _ _ hb] at e; exact .inl (fr (by omega) e)
    frame := fun c hc _ => q.frame c hc (fun b hb => by cases hb)
    wown := fun b hb => by cases hb
    hp := by
      have fz : ∀ c, c < w.heap.size → w'.heap[c]? = w.heap[c]? := fun c hc => q.frame c hc (fun b hb => by cases hb)
      refine ⟨fun {b g c o n} e => ?_, fun {b g c o n} e hN => ?_, fun {b g c o n b' g' o' n'} e e' hN => ?_, fun {b g c o n g' c' o' n'} e e' hN => ?_⟩
      · by_cases hb : b < G.length
        · rw [m1 _ _ hb] at e; exact Nat.lt_of_lt_of_le (p.hp.lt e) q.size
        · rw [m2 _ _ hb] at e; exact q.hp.lt e
      · by_cases hb : b < G.length
        · rw [m1 _ _ hb] at e
          have hl := p.hp.lt e
          obtain ⟨h1, h2⟩ := p.hp.own e hN
          have hf := fz c hl
          exact ⟨by rw [hf]; exact h1, fun i hi => by rw [frozen_keep hf]; exact h2 i hi⟩
        · rw [m2 _ _ hb] at e; exact q.hp.own e hN
      · by_cases hb : b < G.length
        · rw [m1 _ _ hb] at e
          by_cases hb' : b' < G.length
          · rw [m1 _ _ hb'] at e'; exact p.hp.inj e e' hN
          · rw [m2 _ _ hb'] at e'
            have := fr (by omega) e'
            have := p.hp.lt e
            omega
        · rw [m2 _ _ hb] at e
          by_cases hb' : b' < G.length
          · rw [m1 _ _ hb'] at e'
            have := fr (by omega) e
            have := p.hp.lt e'
            omega
          · rw [m2 _ _ hb'] at e'
            have := q.hp.inj e e' hN
            omega
      · by_cases hb : b < G.length
        · rw [m1 _ _ hb] at e e'; exact p.hp.hom e e' hN
        · rw [m2 _ _ hb] at e e'; exact q.hp.hom e e' hN
    cont := fun {b k} hb hk ⟨g, x, hm⟩ => by
      have hb : G.length ≤ b := hb.resolve_left (by simp)
      have hnb : ¬ b < G.length := by omega
      rw [List.getElem?_append_right hb, List.getElem?_map] at hk
      cases hk0 : L[b - G.length]? with
      | none => rw [hk0] at hk; cases hk
      | some k0 =>
        rw [hk0] at hk
        simp at hk
        subst hk
        have hkk : (H ++ L)[b - d]? = some k0 := by
          rw [List.getElem?_append_right (by omega), show b - d - H.length = b - G.length by omega]; exact hk0
        rw [m2 _ _ hnb] at hm
        obtain ⟨c, o, n, h1, h2, h3, h4⟩ := q.cont (.inr (by omega)) hkk ⟨g, x, hm⟩
        refine ⟨c, o, n, by rw [m2 _ _ hnb]; exact h1, fun g hg => by rw [m2 _ _ hnb]; exact h2 g hg, fun i u hu => ?_, h4⟩
        have hu : (k0.cells.map (mapV (mov H.length d)))[i]? = some u := hu
        rw [List.getElem?_map] at hu
        cases hu0 : k0.cells[i]? with
        | none => rw [hu0] at hu; cases hu
        | some u0 =>
          rw [hu0] at hu
          simp at hu
          subst hu
          obtain ⟨o1, v'', h5, h6⟩ := h3 i u0 hu0
          exact ⟨by rw [mapV_one]; exact o1, v'', h5, VR.map hφ h6⟩
    size := q.size
    os := q.os
    tape := q.tape
    output := q.output }
end Go.Proofs.Ytnebnbdeobcegaa.E
/- Rows that hang on new blocks alone lie in new blocks. -/
namespace Go.Proofs.Ytnebnbdeobcegaa
open Go Go.RowKit E
set_option linter.unusedSimpArgs false
set_option linter.unusedVariables false
theorem flat_inj {s : Nat} : ∀ {cs ds : List (List Value)} {r q : List Value}, cs.length = ds.length → (∀ c ∈ cs, c.length = s) → (∀ c ∈ ds, c.length = s) → cs.flatten ++ r = ds.flatten ++ q → cs = ds
  | [], [], r, q, _, _, _, _ => rfl
  | c :: cs, d :: ds, r, q, hl, hc, hd, he => by
    rw [List.flatten_cons, List.flatten_cons, List.append_assoc, List.append_assoc] at he
    have h1 := List.append_inj he (by rw [hc c (by simp), hd d (by simp)])
    rw [h1.1, flat_inj (by simpa using hl) (fun x hx => hc x (by simp [hx])) (fun x hx => hd x (by simp [hx])) h1.2]
  | [], d :: ds, r, q, hl, _, _, _ => by simp at hl
  | c :: cs, [], r, q, hl, _, _, _ => by simp at hl
theorem sl_inj {b b' g g' len len' e e' : Nat} (h : sl b 0 g len e = sl b' 0 g' len' e') : b = b' ∧ g = g' := by
  injection h with h1 h2 h3
  injection h1 with h1
  injection h1 with h1 h4 h5
  injection h5 with h5
  exact ⟨h1, h5⟩
/-- A row in blocks from n on, or none. -/
def HiRow {α : Type} (s : Nat) (E : AH → List Value → α → Prop) (n : Nat) (K : AH) (v : Value) (l : List α) : Prop :=
  (l = [] ∧ ((∃ e, v = .slice (some ⟨0, 0, none⟩) 0 e) ∨ v = .slice none 0 0)) ∨
  ∃ b g rest rw_, ∃ cs : List (List Value), n ≤ b ∧ v = sl b 0 g l.length s ∧ K[b]? = some ⟨cs.flatten ++ rest, g, rw_⟩ ∧ cs.length = l.length ∧ l.length ≤ 9223372036854775807 ∧
    ∀ (i : Nat) x, l[i]? = some x → ∃ c, cs[i]? = some c ∧ c.length = s ∧ Dep n K (fun J => E J c x)
theorem RowOf.high {α : Type} {s : Nat} {E : AH → List Value → α → Prop} {n : Nat} {K : AH} {v : Value} {l : List α} (h : Dep n K (fun J => RowOf s E J v l)) : HiRow s E n K v l := by
  rcases h.here with h0 | ⟨b, g, rest, rw_, cs, h1, h2, h3, h4, h5⟩
  · exact .inl h0
  · have hb : n ≤ b := by
      rcases Nat.lt_or_ge b n with hb | hb
      · have hl := (List.getElem?_eq_some_iff.1 h2).1
        have hJ := h (K.set b ⟨[], g + 1, false⟩) (fun c k hc e => by rw [List.getElem?_set_ne (by omega)]; exact e)
        rcases hJ with ⟨_, ⟨e, h6⟩ | h6⟩ | ⟨b', g', r', w', cs', h6, h7, _⟩
        · rw [h1] at h6; cases h6
        · rw [h1] at h6; cases h6
        · rw [h1] at h6
          obtain ⟨rfl, rfl⟩ := sl_inj h6
          rw [List.getElem?_set_self hl] at h7
          simp at h7
      · exact hb
    refine .inr ⟨b, g, rest, rw_, cs, hb, h1, h2, h3, h4, fun i x hx => ?_⟩
    obtain ⟨c, e1, e2, _⟩ := h5 i x hx
    refine ⟨c, e1, e2, fun J hJ => ?_⟩
    rcases h J hJ with ⟨h6, _⟩ | ⟨b', g', r', w', cs', h6, h7, h8, _, h9⟩
    · rw [h6] at hx; simp at hx
    · rw [h1] at h6
      obtain ⟨rfl, rfl⟩ := sl_inj h6
      rw [hJ _ _ hb h2] at h7
      have h10 : cs.flatten ++ rest = cs'.flatten ++ r' := by injection h7 with h7; injection h7
      have h11 := flat_inj (by rw [h3, h8]) (RowOf.all h3 h5) (RowOf.all h8 h9) h10
      subst h11
      obtain ⟨c', f1, _, f3⟩ := h9 i x hx
      rw [e1] at f1
      cases f1
      exact f3
end Go.Proofs.Ytnebnbdeobcegaa
/- What lies in new blocks, in a bigger heap. -/
namespace Go.Proofs.Ytnebnbdeobcegaa
open Go Go.RowKit E
set_option linter.unusedSimpArgs false
set_option linter.unusedVariables false
/-- Blocks from n on, moved by d. -/
def Moved (n d : Nat) (K J : AH) : Prop := ∀ (b : Nat) (k : Blk), n ≤ b → K[b]? = some k → J[b + d]? = some (mapB (mov n d) k)
def Shf {α : Type} (E : AH → List Value → α → Prop) : Prop := ∀ (n d : Nat) (K J : AH) (c : List Value) (x : α), Moved n d K J → Dep n K (fun K => E K c x) → Dep (n + d) J (fun J => E J (c.map (mapV (mov n d))) x)
theorem mapV_int (φ : Nat → Nat) (k : IntKind) (n : Int) : mapV φ (.int k n) = .int k n := by unfold mapV; rfl
theorem mapV_bool (φ : Nat → Nat) (b : Bool) : mapV φ (.bool b) = .bool b := by unfold mapV; rfl
theorem mapV_nil (φ : Nat → Nat) : mapV φ (.slice none 0 0) = .slice none 0 0 := by unfold mapV; rfl
theorem mapV_zs (φ : Nat → Nat) (e : Nat) : mapV φ (.slice (some ⟨0, 0, none⟩) 0 e) = .slice (some ⟨0, 0, none⟩) 0 e := by unfold mapV; rfl
theorem mapV_sl {n d b : Nat} (h : n ≤ b) (g len e : Nat) : mapV (mov n d) (sl b 0 g len e) = sl (b + d) 0 g len e := by
  unfold mapV
  show Value.slice (some ⟨mov n d b, 0, some g⟩) len e = _
  unfold mov
  rw [if_neg (by omega)]
theorem RowOf.shf {α : Type} {s : Nat} {E : AH → List Value → α → Prop} (hE : Shf E) {n d : Nat} {K J : AH} {v : Value} {l : List α} (hm : Moved n d K J) (h : Dep n K (fun K => RowOf s E K v l)) : Dep (n + d) J (fun J => RowOf s E J (mapV (mov n d) v) l) := by
  rcases RowOf.high h with ⟨rfl, ⟨e, rfl⟩ | rfl⟩ | ⟨b, g, rest, rw_, cs, hb, rfl, h2, h3, h4, h5⟩
  · exact fun J' _ => .inl ⟨rfl, .inl ⟨e, mapV_zs _ _⟩⟩
  · exact fun J' _ => .inl ⟨rfl, .inr (mapV_nil _)⟩
  · intro J' hJ'
    rw [mapV_sl hb]
    refine .inr ⟨b + d, g, rest.map (mapV (mov n d)), rw_, cs.map (List.map (mapV (mov n d))), rfl, ?_, by rw [List.length_map]; exact h3, h4, fun i x hx => ?_⟩
    · rw [hJ' _ _ (by omega) (hm b _ hb h2)]
      unfold mapB
      simp [List.map_flatten]
    · obtain ⟨c, e1, e2, e3⟩ := h5 i x hx
      exact ⟨c.map (mapV (mov n d)), by rw [List.getElem?_map, e1]; rfl, by rw [List.length_map]; exact e2, hE n d K J c x hm e3 J' hJ'⟩
theorem KyE.shf : Shf KyE := fun n d K J c x _ h J' _ => by
  have h : c = kyC x := h.here
  subst h
  show List.map _ (kyC x) = kyC x
  simp only [List.map_cons, List.map_nil, mapV_int]
theorem CkE.shf : Shf CkE := fun n d K J c x _ h J' _ => by
  have h : c = ckC x := h.here
  subst h
  show List.map _ (ckC x) = ckC x
  simp only [List.map_cons, List.map_nil, mapV_int]
theorem InE.shf : Shf InE := fun n d K J c x _ h J' _ => by
  have h : c = [.int .i64 x] := h.here
  subst h
  show List.map _ _ = _
  simp only [List.map_cons, List.map_nil, mapV_int]
theorem ptC_map (φ : Nat → Nat) : ∀ l : List Pt, (ptC l).map (mapV φ) = ptC l
  | [] => rfl
  | x :: l => by
    show mapV φ (.int .i64 x.1) :: mapV φ (.int .i64 x.2) :: (ptC l).map (mapV φ) = .int .i64 x.1 :: .int .i64 x.2 :: ptC l
    rw [mapV_int, mapV_int, ptC_map φ l]
theorem Pts.shf {n d : Nat} {K J : AH} {v : Value} {l : List Pt} (hm : Moved n d K J) (h : Dep n K (fun K => Pts K v l)) : Dep (n + d) J (fun J => Pts J (mapV (mov n d) v) l) := by
  rcases h.here with ⟨rfl, ⟨e, rfl⟩ | rfl⟩ | ⟨b, g, rest, rw_, h1, h2, h3⟩
  · exact fun J' _ => .inl ⟨rfl, .inl ⟨e, mapV_zs _ _⟩⟩
  · exact fun J' _ => .inl ⟨rfl, .inr (mapV_nil _)⟩
  · have hb : n ≤ b := by
      rcases Nat.lt_or_ge b n with hb | hb
      · have hl := (List.getElem?_eq_some_iff.1 h2).1
        rcases h (K.set b ⟨[], g + 1, false⟩) (fun c k hc e => by rw [List.getElem?_set_ne (by omega)]; exact e) with ⟨_, ⟨e, h6⟩ | h6⟩ | ⟨b', g', r', w', h6, h7, _⟩
        · rw [h1] at h6; cases h6
        · rw [h1] at h6; cases h6
        · rw [h1] at h6
          obtain ⟨rfl, rfl⟩ := sl_inj h6
          rw [List.getElem?_set_self hl] at h7
          simp at h7
      · exact hb
    subst h1
    intro J' hJ'
    rw [mapV_sl hb]
    refine .inr ⟨b + d, g, rest.map (mapV (mov n d)), rw_, rfl, ?_, h3⟩
    rw [hJ' _ _ (by omega) (hm b _ hb h2)]
    unfold mapB
    simp [ptC_map]
theorem PkE.shf : Shf PkE := fun n d K J c x hm h => by
  obtain ⟨pv, hc, _⟩ := h.here
  have hp : Dep n K (fun K => Pts K pv x.p.2) := fun J hJ => by
    obtain ⟨pv', hc', hp⟩ := h J hJ
    rw [hc] at hc'
    simp only [List.cons.injEq] at hc'
    rw [hc'.2.2.1]; exact hp
  intro J' hJ'
  refine ⟨mapV (mov n d) pv, ?_, Pts.shf hm hp J' hJ'⟩
  rw [hc]
  simp only [List.map_cons, List.map_nil, mapV_int, mapV_bool]
theorem LyE.shf : Shf LyE := fun n d K J c x hm h => by
  obtain ⟨v0, v1, v2, v3, v4, v5, v6, v7, v8, pm, vw, vh, vp, vc, vd, vda, vf, vt, hc, _, _⟩ := h.here
  have hp : Dep n K (fun K => LyV K x v0 v1 v2 v3 v4 v5 v6 v7 v8 pm ∧ ShV K x.shape vw vh vp vc vd vda vf vt) := fun J hJ => by
    obtain ⟨v0', v1', v2', v3', v4', v5', v6', v7', v8', pm', vw', vh', vp', vc', vd', vda', vf', vt', hc', hl, hs⟩ := h J hJ
    rw [hc] at hc'
    simp only [List.cons.injEq, true_and, and_true] at hc'
    obtain ⟨rfl, rfl, rfl, rfl, rfl, rfl, rfl, rfl, rfl, rfl, rfl, rfl, rfl, rfl, rfl, rfl, rfl, rfl⟩ := hc'
    exact ⟨hl, hs⟩
  intro J' hJ'
  have r := fun {P : AH → Prop} (q : ∀ J, (LyV J x v0 v1 v2 v3 v4 v5 v6 v7 v8 pm ∧ ShV J x.shape vw vh vp vc vd vda vf vt) → P J) => hp.map q
  refine ⟨_, _, _, _, _, _, _, _, _, _, _, _, _, _, _, _, _, _, ?_,
    ⟨RowOf.shf KyE.shf hm (r fun _ h => h.1.x) J' hJ', RowOf.shf KyE.shf hm (r fun _ h => h.1.y) J' hJ', RowOf.shf KyE.shf hm (r fun _ h => h.1.ax) J' hJ', RowOf.shf KyE.shf hm (r fun _ h => h.1.ay) J' hJ', RowOf.shf KyE.shf hm (r fun _ h => h.1.sx) J' hJ', RowOf.shf KyE.shf hm (r fun _ h => h.1.sy) J' hJ', RowOf.shf KyE.shf hm (r fun _ h => h.1.turn) J' hJ', RowOf.shf KyE.shf hm (r fun _ h => h.1.opac) J' hJ', RowOf.shf KyE.shf hm (r fun _ h => h.1.remap) J' hJ', Pts.shf hm (r fun _ h => h.1.mask) J' hJ'⟩,
    ⟨RowOf.shf KyE.shf hm (r fun _ h => h.2.w) J' hJ', RowOf.shf KyE.shf hm (r fun _ h => h.2.h) J' hJ', RowOf.shf PkE.shf hm (r fun _ h => h.2.paths) J' hJ', RowOf.shf CkE.shf hm (r fun _ h => h.2.colors) J' hJ', RowOf.shf KyE.shf hm (r fun _ h => h.2.width) J' hJ', RowOf.shf InE.shf hm (r fun _ h => h.2.dash) J' hJ', RowOf.shf KyE.shf hm (r fun _ h => h.2.frm) J' hJ', RowOf.shf KyE.shf hm (r fun _ h => h.2.to) J' hJ'⟩⟩
  rw [hc]
  simp only [List.map_cons, List.map_nil, mapV_int, mapV_bool]
theorem CoE.shf : Shf CoE := fun n d K J c x hm h => by
  obtain ⟨v, hc, _⟩ := h.here
  have hp : Dep n K (fun K => Lys K v x) := fun J hJ => by
    obtain ⟨v', hc', hp⟩ := h J hJ
    rw [hc] at hc'
    simp only [List.cons.injEq, and_true] at hc'
    rw [hc']; exact hp
  intro J' hJ'
  refine ⟨mapV (mov n d) v, ?_, RowOf.shf LyE.shf hm hp J' hJ'⟩
  rw [hc]; rfl
end Go.Proofs.Ytnebnbdeobcegaa
/- Two calls make the same document. -/
namespace Go.Proofs.Ytnebnbdeobcegaa
open Go Go.RowKit E
set_option linter.unusedSimpArgs false
set_option linter.unusedVariables false
theorem leads_int (S : Nat → Bool) (k : IntKind) (n : Int) : Leads S (.int k n) := fun M v' r => by cases r; exact .int _ _
theorem leads_bare (S : Nat → Bool) : Leads S (.slice none 0 0) := fun M v' r => by cases r; exact .nils
theorem leads_zs (S : Nat → Bool) (e : Nat) : Leads S (.slice (some ⟨0, 0, none⟩) 0 e) := fun M v' r => by cases r; exact .zs
theorem leads_sl (S : Nat → Bool) {b : Nat} (h : S b = true) (off g len e : Nat) : Leads S (sl b off g len e) := fun M v' r => by
  have o : ∀ g, onlyM S M b g = M b g := fun g => by unfold onlyM; rw [if_pos h]
  cases r with
  | ze e => exact .ze (by rw [o]; exact e)
  | sl e h1 h2 => exact .sl (by rw [o]; exact e) h1 h2
theorem mapV_dc (φ : Nat → Nat) (d : Dc) (cv : Value) : mapV φ (dcV d cv) = dcV d (mapV φ cv) := by
  show mapV φ (.agg #[.int .i64 d.in_, .int .i64 d.out, cv]) = .agg #[.int .i64 d.in_, .int .i64 d.out, mapV φ cv]
  conv => lhs; unfold mapV
  simp [mapV_int]
theorem kdoc_at {H : AH} {t : Nat} {lv : Value} {ls : List Int} (h : Ints H t lv ls) (S : Nat → Bool) (hS : ∀ b, S b = true → b < H.length) (ha : Leads S lv) (hc : ∀ b k, S b = true → H[b]? = some k → ∀ c ∈ k.cells, Leads S c) :
    ∃ d, DcB d ∧ ∀ (G : AH) (dd : Nat), G.length = H.length + dd → (∀ b k, S b = true → H[b]? = some k → ∃ k', G[b]? = some k' ∧ k'.gen = k.gen ∧ k'.rw = k.rw ∧ ∃ r, k'.cells = k.cells ++ r) →
      ∃ cv L, SemCall Try.prog 6 [lv] G (dcV d cv) (G ++ L) [] ∧ Dep G.length (G ++ L) (fun J => Cos J cv d.comps) := by
  obtain ⟨v, H', W, hs, rfl, ⟨L, rfl⟩, d, cv, rfl, hM, hD⟩ := kdoc_ H h
  refine ⟨d, hD, fun G dd hG hsub => ⟨mapV (mov H.length dd) cv, L.map (mapB (mov H.length dd)), ?_, ?_⟩⟩
  · have := SemCall.frame S hs hS (fun a ha' => by rw [List.mem_singleton.1 ha']; exact ha) hc dd hG hsub
    rwa [mapV_dc] at this
  · have hm : Moved H.length dd (H ++ L) (G ++ L.map (mapB (mov H.length dd))) := fun b k hb hk => by
      rw [List.getElem?_append_right hb] at hk
      rw [List.getElem?_append_right (by omega), List.getElem?_map, show b + dd - G.length = b - H.length by omega, hk]; rfl
    have := RowOf.shf CoE.shf hm (hM.dep (by have := hD.n; omega))
    rwa [← hG] at this
/-- A tape's document: the same in any heap that has the tape. -/
theorem kdoc2_ {H : AH} {t : Nat} {lv : Value} {ls : List Int} (h : Ints H t lv ls) : ∃ d, DcB d ∧ ∀ (L0 : AH), ∃ cv L, SemCall Try.prog 6 [lv] (H ++ L0) (dcV d cv) (H ++ L0 ++ L) [] ∧ Dep (H ++ L0).length (H ++ L0 ++ L) (fun J => Cos J cv d.comps) := by
  rcases h with ⟨rfl, h⟩ | ⟨b, g, rest, rw_, rfl, h2, h3, h4⟩
  · have hl : Leads (fun _ => false) lv := by
      rcases h with ⟨e, rfl⟩ | rfl
      · exact leads_zs _ _
      · exact leads_bare _
    obtain ⟨d, hD, q⟩ := kdoc_at (H := H) (t := t) (ls := []) (.inl ⟨rfl, h⟩) (fun _ => false) (fun b e => by cases e) hl (fun b k e => by cases e)
    exact ⟨d, hD, fun L0 => q (H ++ L0) L0.length (by simp) (fun b k e => by cases e)⟩
  · have hbl := (List.getElem?_eq_some_iff.1 h3).1
    have hi : Ints (H.set b ⟨intC ls, g, rw_⟩) t (sl b 0 g ls.length 1) ls := .inr ⟨b, g, [], rw_, rfl, h2, by rw [List.append_nil]; exact List.getElem?_set_self hbl, h4⟩
    obtain ⟨d, hD, q⟩ := kdoc_at hi (fun x => decide (x = b)) (fun x e => by rw [of_decide_eq_true e]; simpa using hbl) (leads_sl _ (by simp) _ _ _ _) (fun x k e hk c hc => by
      rw [of_decide_eq_true e, List.getElem?_set_self hbl] at hk
      cases hk
      obtain ⟨n, hn, rfl⟩ := List.mem_map.1 (show c ∈ ls.map (fun n => Value.int .i64 n) from hc)
      exact leads_int _ _ _)
    refine ⟨d, hD, fun L0 => q (H ++ L0) L0.length (by simp) (fun x k e hk => ?_)⟩
    rw [of_decide_eq_true e, List.getElem?_set_self hbl] at hk
    cases hk
    rw [of_decide_eq_true e]
    exact ⟨_, old_get h3 L0, rfl, rfl, rest, rfl⟩
end Go.Proofs.Ytnebnbdeobcegaa
