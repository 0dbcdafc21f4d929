/- Merged texts: WTell RdBy WNum. -/
import Derived.Test.YtlcdbangmbdlcaaGreatZH
import Derived.Test.YtlcdbangmbdlcaaGreatRows
/- Writing: the walk of WriteTells. -/
namespace Go.Proofs.YtlcdbangmbdlcaaGreat
open Go Go.RowKit E
attribute [local irreducible] XRun XOps XCode XCal XLoop XQ SemCall
set_option linter.unusedSimpArgs false
set_option linter.unusedVariables false
set_option maxHeartbeats 8000000 in
theorem writetells (lv tv bv : Value) (ls : List Int) (ts : List Tn) (bs : List Int) (t : Nat) (H : AH) (h : Ints H t lv ls) (ht : Tns H tv ts) (hb : Bys H bv bs) : SemCall Tryz.prog 4 [lv, tv, bv] H (.bool true) H [] := by
  refine pure_of ?_ rfl
  have kd : ∀ n, decide (H.length + n < H.length) = false := fun n => df (by omega)
  have kd0 : decide (H.length < H.length) = false := df (by omega)
  have hbl := hb.len
  obtain ⟨ba, be, hbf⟩ := hb.form
  subst hbf
  refine XCal.of hm Tryz.func4 rfl (fun xs w => Tryz.call4 xs w) Tryz.ntmps4 Tryz.results4 rfl ?_
  (refine sg (et kd kd0) ?_; try exact ⟨⟩)
  refine (kdoc_ _ h).x ?_
  rintro v H1 W1 ⟨rfl, ⟨L, rfl⟩, d, cv, rfl, hM, hD⟩
  have hDp := hM.dep (by have := hD.n; omega)
  (refine sg (et kd kd0) ?_; try exact ⟨⟩)
  rw [← List.append_assoc]
  have e : H.length + L.length = (H ++ L).length := by rw [List.length_append]
  rw [e]
  have o1 : Old H (H ++ L) := Old.app' _ _
  have lK : H.length ≤ (H ++ L).length := by rw [List.length_append]; omega
  generalize H ++ L = B at *
  clear e
  have hC : ∀ X, Cos (B ++ X) cv d.comps := fun X => hDp _ fun c k _ e => old_get e X
  obtain ⟨ca, ce, hcf⟩ := (hC []).form
  subst hcf
  have kdB : ∀ n, decide (B.length + n < H.length) = false := fun n => df (by omega)
  have kdB0 : decide (B.length < H.length) = false := df (by omega)
  have g0 : (B ++ [(⟨[.int .i64 d.in_, .int .i64 d.out, .slice ca d.comps.length ce], 0, true⟩ : Blk)])[B.length]? = some ⟨[.int .i64 d.in_, .int .i64 d.out, .slice ca d.comps.length ce], 0, true⟩ := by rw [hget_app0]; rfl
  have hb := hb.old (fun _ _ _ _ _ e => e) o1
  have ht := ht.old (fun _ _ _ _ _ e => e) o1
  by_cases h3 : 300 < bs.length
  · obtain ⟨bb, gg, e1, hb3⟩ := Bys.take (n := 300) hb (by omega) (by omega)
    rw [e1]
    have hsl : aslice Tryz.prog 29 (sl bb 0 gg bs.length 1) none (some (.int .i64 300)) none = some (sl bb 0 gg 300 1) := by
      have h6 : ((300 : Int) ≤ (bs.length : Int)) = True := eq_true (by omega)
      simp only [go_sem, Nat.reduceEqDiff, Nat.reduceAdd, Nat.reduceSub, Nat.reduceMul, Nat.reduceLT, Nat.reduceLeDiff, Int.reducePow, Int.reduceBEq, Int.reduceBNe, Int.reduceDiv, Int.reduceMod, Int.reduceEq, Int.reduceLT, Int.reduceLE, Int.reduceAdd, Int.reduceSub, Int.reduceMul, Int.reduceNeg, Int.reduceToNat, Int.reduceTDiv, Int.reduceTMod, ↓reduceIte, aslice, abound, h6, show (0 : Int) ≤ 300 by omega, show 300 ≤ bs.length by omega, true_and, and_self, and_true, Nat.zero_le, Nat.zero_mul, Nat.sub_zero, Nat.add_zero]
    simp only [go_sem, Nat.reduceEqDiff, Nat.reduceAdd, Nat.reduceSub, Nat.reduceMul, Nat.reduceLT, Nat.reduceLeDiff, Int.reducePow, Int.reduceBEq, Int.reduceBNe, Int.reduceDiv, Int.reduceMod, Int.reduceEq, Int.reduceLT, Int.reduceLE, Int.reduceAdd, Int.reduceSub, Int.reduceMul, Int.reduceNeg, Int.reduceToNat, Int.reduceTDiv, Int.reduceTMod, ↓reduceIte, kdB, kdB0, dt (show (300 : Int) < (bs.length : Int) by omega), Option.map, hsl]
    refine (same19_ d _ _ (hC _) (hD.smallN.s (by omega))).x ?_
    (refine sg (et kdB (et kdB0 g0)) ?_; try exact ⟨⟩)
    refine (Odd_ d _ tv ts (fun _ => False) _ (fun J oJ => hDp J fun c k hc e => oJ c k id (old_get e _)) hD.smallN (ht.old (fun _ _ _ _ _ h => h) (Old.app' _ _))).x ?_
    rintro v H1 W1 ⟨rfl, ⟨L2, rfl⟩, d2, cw, rfl, hC2, hD2⟩
    have hC2 := hC2 _ (OlP.old (Old.app' _ _)) (fun c k _ e => e)
    (refine sg (et kdB kdB0) ?_; try exact ⟨⟩)
    refine (same19_ d2 _ _ hC2 (hD2.s (by omega))).x ?_
    have hB2 := (hb3.old (fun _ _ _ _ _ e => e) (Old.app' B [(⟨[.int .i64 d.in_, .int .i64 d.out, .slice ca d.comps.length ce], 0, true⟩ : Blk)])).old (fun _ _ _ _ _ e => e) (Old.app' _ L2)
    (refine sg (et kdB kdB0) ?_; try exact ⟨⟩)
    refine (wsum_ _ _ _ hB2).x ?_
    (refine sg (et kdB kdB0) ?_; try exact ⟨⟩)
    refine (rwsum_ _ _ _ hB2).x ?_
    simp only [go_sem, Nat.reduceEqDiff, Nat.reduceAdd, Nat.reduceSub, Nat.reduceMul, Nat.reduceLT, Nat.reduceLeDiff, Int.reducePow, Int.reduceBEq, Int.reduceBNe, Int.reduceDiv, Int.reduceMod, Int.reduceEq, Int.reduceLT, Int.reduceLE, Int.reduceAdd, Int.reduceSub, Int.reduceMul, Int.reduceNeg, Int.reduceToNat, Int.reduceTDiv, Int.reduceTMod, ↓reduceIte, kdB, kdB0, beq_self_eq_true]
    refine (known19_ _).x ?_
    (refine sg (et kdB kdB0) ?_; try exact ⟨⟩)
  · (refine sg (et kdB (et kdB0 (df (show ¬ (300 : Int) < (bs.length : Int) by omega)))) ?_; try exact ⟨⟩)
    refine (same19_ d _ _ (hC _) (hD.smallN.s (by omega))).x ?_
    (refine sg (et kdB (et kdB0 g0)) ?_; try exact ⟨⟩)
    refine (Odd_ d _ tv ts (fun _ => False) _ (fun J oJ => hDp J fun c k hc e => oJ c k id (old_get e _)) hD.smallN (ht.old (fun _ _ _ _ _ h => h) (Old.app' _ _))).x ?_
    rintro v H1 W1 ⟨rfl, ⟨L2, rfl⟩, d2, cw, rfl, hC2, hD2⟩
    have hC2 := hC2 _ (OlP.old (Old.app' _ _)) (fun c k _ e => e)
    (refine sg (et kdB kdB0) ?_; try exact ⟨⟩)
    refine (same19_ d2 _ _ hC2 (hD2.s (by omega))).x ?_
    have hB2 := (hb.old (fun _ _ _ _ _ e => e) (Old.app' B [(⟨[.int .i64 d.in_, .int .i64 d.out, .slice ca d.comps.length ce], 0, true⟩ : Blk)])).old (fun _ _ _ _ _ e => e) (Old.app' _ L2)
    (refine sg (et kdB kdB0) ?_; try exact ⟨⟩)
    refine (wsum_ _ _ _ hB2).x ?_
    (refine sg (et kdB kdB0) ?_; try exact ⟨⟩)
    refine (rwsum_ _ _ _ hB2).x ?_
    simp only [go_sem, Nat.reduceEqDiff, Nat.reduceAdd, Nat.reduceSub, Nat.reduceMul, Nat.reduceLT, Nat.reduceLeDiff, Int.reducePow, Int.reduceBEq, Int.reduceBNe, Int.reduceDiv, Int.reduceMod, Int.reduceEq, Int.reduceLT, Int.reduceLE, Int.reduceAdd, Int.reduceSub, Int.reduceMul, Int.reduceNeg, Int.reduceToNat, Int.reduceTDiv, Int.reduceTMod, ↓reduceIte, kdB, kdB0, beq_self_eq_true]
    refine (known19_ _).x ?_
    (refine sg (et kdB kdB0) ?_; try exact ⟨⟩)
end Go.Proofs.YtlcdbangmbdlcaaGreat
/- Arguments that are rows of turns, of bytes. -/
namespace Go.Proofs.YtlcdbangmbdlcaaGreat
open Go Go.RowKit E
set_option linter.unusedSimpArgs false
set_option linter.unusedVariables false
set_option maxRecDepth 100000
section
variable {P : Program} {H : AH}
theorem pa_cons {F : TypeId → List Value → Prop} {f : Go.Field} {fs : List Go.Field} {o k : Nat} {cs : List Value} (hk : P.cellsOf f.type = k) (h : parts F P (f :: fs) o cs) : ∃ c r, cs = c ++ r ∧ c.length = k ∧ F f.type c ∧ parts F P fs (o + P.cellsOf f.type) r := by
  obtain ⟨_, h1, h2, h3⟩ := h
  rw [hk] at h1 h2 h3
  refine ⟨cs.take k, cs.drop k, (List.take_append_drop k cs).symm, by rw [List.length_take]; omega, h1, ?_⟩
  rw [hk]; exact h3
theorem pa_nil {F : TypeId → List Value → Prop} {o : Nat} {cs : List Value} (h : parts F P [] o cs) : cs = [] := h
theorem rd_int {n : Nat} {k : IntKind} {cs : List Value} {t : TypeId} (hu : P.underlying t = some (.int k)) (h : Rd P (n + 1) H t cs) : ∃ a : Int, cs = [.int k a] := by
  unfold Rd at h; rw [hu] at h
  obtain ⟨a, h1, _⟩ := h
  exact ⟨a, h1⟩
theorem el_rows {α : Type} {E : AH → List Value → α → Prop} {Q : α → Prop} {F : List Value → Prop} {s : Nat} (hF : ∀ cs, F cs → ∃ x, E H cs x ∧ Q x) : ∀ {len : Nat} {us : List Value}, elems P F s len us → ∃ (cs : List (List Value)) (l : List α), us = cs.flatten ∧ cs.length = len ∧ l.length = len ∧ (∀ (i : Nat) x, l[i]? = some x → ∃ c, cs[i]? = some c ∧ c.length = s ∧ E H c x) ∧ ∀ x ∈ l, Q x
  | 0, us, h => ⟨[], [], h, rfl, rfl, fun i x hx => by simp at hx, fun x hx => by cases hx⟩
  | len + 1, us, h => by
    obtain ⟨h1, h2, h3⟩ := h
    obtain ⟨cs, l, e1, e2, e3, e4, e5⟩ := el_rows hF h3
    obtain ⟨x, ex, qx⟩ := hF _ h1
    refine ⟨us.take s :: cs, x :: l, ?_, by simp [e2], by simp [e3], fun i y hy => ?_, fun y hy => ?_⟩
    · rw [List.flatten_cons, ← e1, List.take_append_drop]
    · cases i with
      | zero => simp at hy; subst hy; exact ⟨_, rfl, by rw [List.length_take]; omega, ex⟩
      | succ i => simp at hy; obtain ⟨c, f1, f2, f3⟩ := e4 i y hy; exact ⟨c, by simpa using f1, f2, f3⟩
    · rcases List.mem_cons.1 hy with rfl | hy
      · exact qx
      · exact e5 y hy
theorem rd_rows {α : Type} {E : AH → List Value → α → Prop} {Q : α → Prop} {n s : Nat} {u : Value} {t e : TypeId} (hu : P.underlying t = some (.slice e)) (hs : P.cellsOf e = s) (hF : ∀ cs, Rd P n H e cs → ∃ x, E H cs x ∧ Q x) (h : Rd P (n + 1) H t [u]) :
    ∃ l : List α, RowOf s E H u l ∧ ∀ x ∈ l, Q x := by
  unfold Rd at h; rw [hu] at h
  rcases h with h | h | ⟨b, len, us, h1, h2, h3, h4, h5⟩
  · cases h; exact ⟨[], RowOf.none, fun x hx => by cases hx⟩
  · cases h; exact ⟨[], .inl ⟨rfl, .inl ⟨_, rfl⟩⟩, fun x hx => by cases hx⟩
  · rw [hs] at h1 h4 h5
    cases h1
    obtain ⟨cs, l, e1, e2, e3, e4, e5⟩ := el_rows hF h5
    subst e1
    refine ⟨l, .inr ⟨b, 0, [], false, cs, by rw [e3], by rw [List.append_nil]; exact h2, by rw [e2, e3], by rw [e3]; exact h3.1, e4⟩, e5⟩
end
variable {H : AH}
theorem rd_tns {n : Nat} {u : Value} (h : Rd Tryz.prog (n + 3) H 33 [u]) : ∃ l : List Tn, Tns H u l := by
  obtain ⟨l, h1, _⟩ := rd_rows (E := TnE) (Q := fun _ => True) (s := 4) Tryz.underlying33 (by kernel_rfl) (fun cs h => by
    unfold Rd at h; rw [Tryz.underlying67] at h
    obtain ⟨c0, r, rfl, l0, h0, h⟩ := pa_cons (k := 1) (by kernel_rfl) h
    obtain ⟨c1, r, rfl, l1, h1, h⟩ := pa_cons (k := 1) (by kernel_rfl) h
    obtain ⟨c2, r, rfl, l2, h2, h⟩ := pa_cons (k := 1) (by kernel_rfl) h
    obtain ⟨c3, r, rfl, l3, h3, h⟩ := pa_cons (k := 1) (by kernel_rfl) h
    obtain rfl := pa_nil h
    obtain ⟨a0, rfl⟩ := rd_int Tryz.underlying3 h0
    obtain ⟨a1, rfl⟩ := rd_int Tryz.underlying3 h1
    obtain ⟨a2, rfl⟩ := rd_int Tryz.underlying3 h2
    obtain ⟨a3, rfl⟩ := rd_int Tryz.underlying2 h3
    exact ⟨⟨a0, a1, a2, a3⟩, rfl, trivial⟩) h
  exact ⟨l, h1⟩
theorem Tns.ahead {J : AH} {v : Value} {l : List Tn} (h : Tns H v l) (a : Ahead H J) : Tns J v l := RowOf.old h (fun _ _ _ _ _ e => e) (fun _ _ e => a.get e)
theorem rd_bys {n : Nat} {u : Value} (h : Rd Tryz.prog (n + 2) H 29 [u]) : ∃ l : List Int, Bys H u l := by
  obtain ⟨l, h1, _⟩ := rd_rows (E := ByE) (Q := fun _ => True) (s := 1) Tryz.underlying29 (by kernel_rfl) (fun cs h => by
    obtain ⟨a0, rfl⟩ := rd_int Tryz.underlying5 h
    exact ⟨a0, rfl, trivial⟩) h
  exact ⟨l, h1⟩
theorem Bys.ahead {J : AH} {v : Value} {l : List Int} (h : Bys H v l) (a : Ahead H J) : Bys J v l := RowOf.old h (fun _ _ _ _ _ e => e) (fun _ _ e => a.get e)
end Go.Proofs.YtlcdbangmbdlcaaGreat
/- Writing: the walk of WriteNumbers. -/
namespace Go.Proofs.YtlcdbangmbdlcaaGreat
open Go Go.RowKit E
attribute [local irreducible] XRun XOps XCode XCal XLoop XQ SemCall
set_option linter.unusedSimpArgs false
set_option linter.unusedVariables false
theorem zrep_by : ∀ n : Nat, zrep [.int .u8 0] n = byC (List.replicate n 0)
  | 0 => rfl
  | n + 1 => by
    rw [List.replicate_succ]
    show _ ++ zrep [.int .u8 0] n = [.int .u8 0] ++ byC (List.replicate n 0)
    rw [zrep_by n]
theorem amake_by {P : Program} {t e : TypeId} (n : Nat) (hn : n ≤ 1000000) (h1 : tslice P t = some e) (hs : tsz P e = some 1) (hz : tzero P e = some [.int .u8 0]) (hb : tby P e = some 1) : ∃ xs : List Int, xs.length = n ∧ ∀ {k k'}, amake P t (.int k (n : Int)) (.int k' (n : Int)) = some (byC xs, 1, n) := by
  refine ⟨List.replicate n 0, List.length_replicate, fun {k k'} => ?_⟩
  simp only [amake, h1, hs, hz, hb]
  rw [if_pos (by simp; omega), Int.toNat_natCast, zrep_by]
/-- A row of bytes that is being made. -/
def MkBys (n0 : Nat) (K : AH) (v : Value) (ls : List Int) : Prop :=
  (ls = [] ∧ v = .slice none 0 0) ∨ ∃ b g, n0 ≤ b ∧ v = sl b 0 g ls.length 1 ∧ K[b]? = some ⟨byC ls, g, true⟩
theorem MkBys.bys {n0 : Nat} {K : AH} {v : Value} {ls : List Int} (h : MkBys n0 K v ls) (hl : ls.length ≤ 9223372036854775807) : Bys K v ls := by
  rcases h with ⟨rfl, rfl⟩ | ⟨b, g, _, rfl, hk⟩
  · exact RowOf.none
  · exact ink_bys hk hl
theorem byC_set (l : List Int) (i : Nat) (v : Int) : (byC l).set i (.int .u8 v) = byC (l.set i v) := by
  simp only [byC, List.map_set]
theorem by_ast (H : AH) (l : List Int) {d : Nat} (hd : d < l.length) (v : Int) (b g : Nat) : ast H (some ⟨byC l, g, true⟩) (some [.int .u8 v]) (some 1) b d g = some (H.set b ⟨byC (l.set d v), g, true⟩, b) := by
  have := byC_len l
  have e : (byC l).set d (.int .u8 v) = (byC l).take d ++ .int .u8 v :: (byC l).drop (d + 1) := by rw [List.set_eq_take_append_cons_drop, if_pos (by omega)]
  rw [ast_some (s := 1) rfl (by omega), ← byC_set, e, splice_def]
  simp
set_option maxHeartbeats 8000000 in
theorem writenumbers (H : AH) : SemCall Tryz.prog 3 [] H (.bool true) H [] := by
  refine pure_of ?_ rfl
  refine XCal.of hm Tryz.func3 rfl (fun xs w => Tryz.call3 xs w) Tryz.ntmps3 Tryz.results3 rfl ?_
  (refine sg trivial ?_; try exact ⟨⟩)
  refine keep (fun r T K D => D = [] ∧ ∃ (i : Nat), i + r = 80 ∧ Old H K ∧ H.length ≤ K.length ∧ T 1 = .int .i64 (i : Int)) 80
    ⟨rfl, 0, by omega, Old.refl H, by omega, by (refine sg trivial ?_; try exact ⟨⟩) <;> rfl⟩ ?_
  rintro r T K D ⟨rfl, i, hir, o, hKl, t1⟩
  have kdK : ∀ n, decide (K.length + n < H.length) = false := fun n => df (by omega)
  have kdK0 : decide (K.length < H.length) = false := df (by omega)
  by_cases hi : i < 80
  · have w1 : IntKind.i64.wrap ((i : Int) + 1) = ((i + 1 : Nat) : Int) := by rw [wi (by omega) (by omega)]; rfl
    (refine sg (et t1 (et (dt (show (i : Int) < 80 by omega)) (et kdK kdK0))) ?_; try exact ⟨⟩)
    refine (tape19_ (i : Int) K).x ?_
    rintro v H1 W1 ⟨rfl, ⟨L, rfl⟩, ls, hI⟩
    (refine sg (et t1 (et kdK kdK0)) ?_; try exact ⟨⟩)
    refine (kdoc_ _ hI).x ?_
    rintro v H1 W1 ⟨rfl, ⟨L2, rfl⟩, d, cv, rfl, hM, hD⟩
    have hC := (hM.dep (by have := hD.n; omega)).here
    have o2 : Old H (K ++ L ++ L2) := (o.trans (Old.app' _ _)).trans (Old.app' _ _)
    have hKl2 : H.length ≤ (K ++ L ++ L2).length := by simp; omega
    clear hM hI
    generalize K ++ L ++ L2 = V at *
    have kdV : ∀ n, decide (V.length + n < H.length) = false := fun n => df (by omega)
    have kdV0 : decide (V.length < H.length) = false := df (by omega)
    (refine sg (et t1 (et kdV kdV0)) ?_; try exact ⟨⟩)
    refine (same19_ d _ _ hC (hD.smallN.s (by omega))).x ?_
    (refine sg (et t1 (et kdV (et kdV0 w1))) ?_; try exact ⟨⟩)
    exact ⟨r - 1, by omega, i + 1, by omega, o2, hKl2, rfl⟩
  · (refine sg (et t1 (df (show ¬ (i : Int) < 80 by omega))) ?_; try exact ⟨⟩)
    clear hi hir t1
    refine keep (fun r T K D => D = [] ∧ ∃ (n : Nat) (bs : List Int) (v : Value), n + r = 300 ∧ bs.length = n ∧ Old H K ∧ H.length ≤ K.length ∧ T 2 = v ∧ T 3 = .int .i64 (n : Int) ∧ MkBys H.length K v bs) 300
      ⟨rfl, 0, [], _, by omega, rfl, o, hKl, by (refine sg trivial ?_; try exact ⟨⟩) <;> rfl, by (refine sg trivial ?_; try exact ⟨⟩) <;> rfl, .inl ⟨rfl, rfl⟩⟩ ?_
    clear o hKl kdK kdK0
    rintro r T K D ⟨rfl, n, bs, v, hnr, hbl, o, hKl, t2, t3, hM⟩
    have kdK : ∀ n, decide (K.length + n < H.length) = false := fun n => df (by omega)
    have kdK0 : decide (K.length < H.length) = false := df (by omega)
    by_cases hn : n < 300
    · have w1 : IntKind.i64.wrap ((n : Int) + 1) = ((n + 1 : Nat) : Int) := by rw [wi (by omega) (by omega)]; rfl
      have hB := hM.bys (by omega)
      (refine sg (et t2 (et t3 (dt (show (n : Int) < 300 by omega)))) ?_; try exact ⟨⟩)
      refine (wsum_ _ _ _ hB).x ?_
      (refine sg (et t2 (et t3 (et kdK kdK0))) ?_; try exact ⟨⟩)
      refine (rwsum_ _ _ _ hB).x ?_
      rcases hM with ⟨rfl, rfl⟩ | ⟨b, g, hb, rfl, hk⟩
      · simp only [go_sem, Nat.reduceEqDiff, Nat.reduceAdd, Nat.reduceSub, Nat.reduceMul, Nat.reduceLT, Nat.reduceLeDiff, Int.reducePow, Int.reduceBEq, Int.reduceBNe, Int.reduceDiv, Int.reduceMod, Int.reduceEq, Int.reduceLT, Int.reduceLE, Int.reduceAdd, Int.reduceSub, Int.reduceMul, Int.reduceNeg, Int.reduceToNat, Int.reduceTDiv, Int.reduceTMod, ↓reduceIte, t2, t3, kdK, kdK0, bne_self_eq_false, w1]
        exact ⟨r - 1, by omega, n + 1, [IntKind.u8.wrap (IntKind.i64.wrap (255 - (n : Int).tmod 7))], _, by omega, by simp at hbl; simp [← hbl], o.trans (Old.app' _ _), by omega, rfl, rfl, .inr ⟨_, _, by omega, rfl, by rw [hget_app]; rfl⟩⟩
      · have hkl := (List.getElem?_eq_some_iff.1 hk).1
        have hcl := byC_len bs
        have hsm : (bs.length + 1) * 1 - 140737488355328 = 0 := Nat.sub_eq_zero_of_le (by omega)
        have hsm2 : bs.length + 1 - 140737488355328 = 0 := Nat.sub_eq_zero_of_le (by omega)
        have db0 : decide (b < H.length) = false := df (by omega)
        have hmul : bs.length * 1 = (byC bs).length := by rw [hcl, Nat.mul_one]
        simp only [go_sem, Nat.reduceEqDiff, Nat.reduceAdd, Nat.reduceSub, Nat.reduceMul, Nat.reduceLT, Nat.reduceLeDiff, Int.reducePow, Int.reduceBEq, Int.reduceBNe, Int.reduceDiv, Int.reduceMod, Int.reduceEq, Int.reduceLT, Int.reduceLE, Int.reduceAdd, Int.reduceSub, Int.reduceMul, Int.reduceNeg, Int.reduceToNat, Int.reduceTDiv, Int.reduceTMod, ↓reduceIte, t2, t3, kdK, kdK0, bne_self_eq_false, w1, old_get hk, old_set hk, hsm, hsm2, db0, hmul]
        refine ⟨r - 1, by omega, n + 1, bs ++ [IntKind.u8.wrap (IntKind.i64.wrap (255 - (n : Int).tmod 7))], _, by omega, by rw [List.length_append, hbl]; rfl, fun c k' e => Olx.set1 _ _ _ _ c k' (by have := (List.getElem?_eq_some_iff.1 e).1; omega) (o c k' e), by omega, rfl, rfl, .inr ⟨b, g + 1, hb, by rw [List.length_append]; rfl, ?_⟩⟩
        rw [← byC_app]
        exact old_sget hk _ _
    · obtain ⟨xs, hxl, hmk⟩ := amake_by (P := Tryz.prog) (t := 29) (e := 5) 70000 (by decide) (by kernel_rfl) (by kernel_rfl) (by kernel_rfl) (by kernel_rfl)
      have hmk : ∀ {k k'}, amake Tryz.prog 29 (.int k 70000) (.int k' 70000) = some (byC xs, 1, 70000) := hmk
      simp only [go_sem, Nat.reduceEqDiff, Nat.reduceAdd, Nat.reduceSub, Nat.reduceMul, Nat.reduceLT, Nat.reduceLeDiff, Int.reducePow, Int.reduceBEq, Int.reduceBNe, Int.reduceDiv, Int.reduceMod, Int.reduceEq, Int.reduceLT, Int.reduceLE, Int.reduceAdd, Int.reduceSub, Int.reduceMul, Int.reduceNeg, Int.reduceToNat, Int.reduceTDiv, Int.reduceTMod, ↓reduceIte, t2, t3, df (show ¬ (n : Int) < 300 by omega), hmk]
      have kb : H.length ≤ K.length := hKl
      refine keep (fun r T J D => D = [] ∧ ∃ (m : Nat) (ys : List Int), m + r = 70000 ∧ ys.length = 70000 ∧ J[K.length]? = some ⟨byC ys, 0, true⟩ ∧ H.length ≤ J.length ∧ T 4 = sl K.length 0 0 70000 1 ∧ T 33 = .int .i64 70000 ∧ T 34 = .int .i64 (m : Int)) 70000
        ⟨rfl, 0, xs, by omega, hxl, by rw [hget_app0]; rfl, by rw [List.length_append]; omega, by (refine sg trivial ?_; try exact ⟨⟩), by (refine sg trivial ?_; try exact ⟨⟩), by (refine sg trivial ?_; try exact ⟨⟩) <;> rfl⟩ ?_
      rintro r2 T2 J D ⟨rfl, m, ys, hmr, hyl, gJ, lJ, s4, s33, s34⟩
      have kdJ : ∀ n, decide (J.length + n < H.length) = false := fun n => df (by omega)
      have kdJ0 : decide (J.length < H.length) = false := df (by omega)
      have db0 : decide (K.length < H.length) = false := df (by omega)
      by_cases hm0 : m < 70000
      · have q0 : (0 : Int) ≤ (m : Int) := by omega
        have q1 : (m : Int) < 70000 := by omega
        have w2 : IntKind.i64.wrap ((m : Int) + 1) = ((m + 1 : Nat) : Int) := by rw [wi (by omega) (by omega)]; rfl
        have hst := by_ast J ys (d := m) (by omega) 255 K.length 0
        (refine sg (et s4 (et s33 (et s34 (et (dt q1) (et q0 (et q1 (et Int.toNat_natCast (et Nat.zero_add (et Nat.mul_one (et kdJ (et kdJ0 (et db0 (et gJ (et hst w2)))))))))))))) ?_; try exact ⟨⟩)
        exact ⟨r2 - 1, by omega, m + 1, ys.set m 255, by omega, by rw [List.length_set]; exact hyl, List.getElem?_set_self (List.getElem?_eq_some_iff.1 gJ).1, lJ, rfl⟩
      · have hB : Bys J (sl K.length 0 0 70000 1) ys := by
          have := ink_bys gJ (by omega)
          rwa [hyl] at this
        (refine sg (et s4 (et s33 (et s34 (df (show ¬ (m : Int) < 70000 by omega))))) ?_; try exact ⟨⟩)
        refine (wsum_ _ _ _ hB).x ?_
        (refine sg (et s4 (et s33 (et s34 (et kdJ kdJ0)))) ?_; try exact ⟨⟩)
        refine (rwsum_ _ _ _ hB).x ?_
        simp only [go_sem, Nat.reduceEqDiff, Nat.reduceAdd, Nat.reduceSub, Nat.reduceMul, Nat.reduceLT, Nat.reduceLeDiff, Int.reducePow, Int.reduceBEq, Int.reduceBNe, Int.reduceDiv, Int.reduceMod, Int.reduceEq, Int.reduceLT, Int.reduceLE, Int.reduceAdd, Int.reduceSub, Int.reduceMul, Int.reduceNeg, Int.reduceToNat, Int.reduceTDiv, Int.reduceTMod, ↓reduceIte, s4, s33, s34, kdJ, kdJ0, beq_self_eq_true]
        refine (known19_ _).x ?_
        (refine sg (et kdJ kdJ0) ?_; try exact ⟨⟩)
end Go.Proofs.YtlcdbangmbdlcaaGreat
