/- Merged texts: DocB DocC DocD DocW DocX Ref1. -/
import Derived.Test.YtlcdbangmbdlcaaGreatZ8
/- Documents: the walk of what counts something of each comp. -/
namespace Go.Proofs.YtlcdbangmbdlcaaGreat
open Go Go.RowKit E
attribute [local irreducible] XRun XOps XCode XCal XLoop XQ SemCall
set_option linter.unusedSimpArgs false
set_option linter.unusedVariables false
theorem dintC_len (l : List Int) : (intC l).length = l.length := by simp [intC]
theorem dzrep_int : ∀ n : Nat, zrep [.int .i64 0] n = intC (List.replicate n 0)
  | 0 => rfl
  | n + 1 => by
    rw [List.replicate_succ]
    show _ ++ zrep [.int .i64 0] n = [.int .i64 0] ++ intC (List.replicate n 0)
    rw [dzrep_int n]
theorem damkI (n : Nat) (h : n ≤ 1000) : amake Tryz.prog 27 (.int .i64 (n : Int)) (.int .i64 (n : Int)) = some (intC (List.replicate n 0), 1, n) := by
  have hb : tby Tryz.prog 3 = some 8 := by kernel_rfl
  unfold amake
  (refine sg hb ?_; try exact ⟨⟩)
  rw [if_pos (by simp; omega), Int.toNat_natCast, dzrep_int]
theorem dintC_set (l : List Int) (i : Nat) (v : Int) : (intC l).set i (.int .i64 v) = intC (l.set i v) := by
  simp only [intC, List.map_set]
theorem dint_ast (H : AH) (l : List Int) {d : Nat} (hd : d < l.length) (v : Int) (b g : Nat) : ast H (some ⟨intC l, g, true⟩) (some [.int .i64 v]) (some 1) b d g = some (H.set b ⟨intC (l.set d v), g, true⟩, b) := by
  have := dintC_len l
  have e : (intC l).set d (.int .i64 v) = (intC l).take d ++ .int .i64 v :: (intC l).drop (d + 1) := by rw [List.set_eq_take_append_cons_drop, if_pos (by omega)]
  rw [ast_some (s := 1) rfl (by omega), ← dintC_set, e, splice_def]
  simp
theorem dint_get {l : List Int} {i : Nat} {x : Int} (h : l[i]? = some x) : (intC l)[i]? = some (.int .i64 x) := by
  unfold intC; rw [List.getElem?_map, h]; rfl
def innF (r : List Int) (c n : Nat) (l : Ly) : Int := if l.kind = 1 ∧ (c : Int) < l.comp ∧ l.comp < c + 1 + (n : Int) then ((r[(l.comp - (c + 1)).toNat]?).getD 0) else 0
theorem cntGo_cons (f : Int → Ly → Int → Int) (z : Int) (c : Nat) (ls : List Ly) (rest : List (List Ly)) : cntGo f z c (ls :: rest) = ls.foldl (fun n l => f n l (innF (cntGo f z (c + 1) rest) c rest.length l)) z :: cntGo f z (c + 1) rest := rfl
theorem cntGo_len (f : Int → Ly → Int → Int) (z : Int) : ∀ (cs : List (List Ly)) (c : Nat), (cntGo f z c cs).length = cs.length
  | [], c => rfl
  | ls :: rest, c => by rw [cntGo_cons, List.length_cons, List.length_cons, cntGo_len f z rest]
/-- Bounds: of what is counted by a suffix of s comps. -/
structure CB (f : Int → Ly → Int → Int) (z : Int) (X : Nat → Int) (N : Nat) : Prop where
  z0 : ∀ s, s < N → 0 ≤ z ∧ z ≤ X (s + 1)
  step : ∀ s n i l, s < N → 0 ≤ n → n ≤ X (s + 1) → 0 ≤ i → i ≤ X s → 0 ≤ f n l i ∧ f n l i ≤ X (s + 1)
  up : ∀ s, s < N → X s ≤ X (s + 1)
  x0 : 0 ≤ X 0
  top : ∀ s, s ≤ N → X s ≤ 1000000
theorem CB.mono {f : Int → Ly → Int → Int} {z : Int} {X : Nat → Int} {N : Nat} (h : CB f z X N) : ∀ (s t : Nat), s + t ≤ N → X s ≤ X (s + t)
  | s, 0, _ => by rw [Nat.add_zero]; exact Int.le_refl _
  | s, t + 1, ht => by have := h.mono s t (by omega); have := h.up (s + t) (by omega); rw [← Nat.add_assoc]; omega
theorem foldl_b {f : Int → Ly → Int → Int} {hi hi' : Int} {inn : Ly → Int} (h : ∀ n i l, 0 ≤ n → n ≤ hi → 0 ≤ i → i ≤ hi' → 0 ≤ f n l i ∧ f n l i ≤ hi) (hinn : ∀ l, 0 ≤ inn l ∧ inn l ≤ hi') : ∀ (ls : List Ly) (n : Int), 0 ≤ n → n ≤ hi → 0 ≤ ls.foldl (fun n l => f n l (inn l)) n ∧ ls.foldl (fun n l => f n l (inn l)) n ≤ hi
  | [], n, h0, h1 => ⟨h0, h1⟩
  | l :: t, n, h0, h1 => by
    have := h n (inn l) l h0 h1 (hinn l).1 (hinn l).2
    exact foldl_b h hinn t _ this.1 this.2
theorem innF_b {r : List Int} {M : Int} (h : ∀ x ∈ r, 0 ≤ x ∧ x ≤ M) (hM : 0 ≤ M) (c n : Nat) (l : Ly) : 0 ≤ innF r c n l ∧ innF r c n l ≤ M := by
  unfold innF
  split
  · cases hg : r[(l.comp - (c + 1)).toNat]? with
    | none => exact ⟨Int.le_refl _, hM⟩
    | some x => exact h x (List.mem_of_getElem? hg)
  · exact ⟨Int.le_refl _, hM⟩
theorem cntGo_b {f : Int → Ly → Int → Int} {z : Int} {X : Nat → Int} {N : Nat} (h : CB f z X N) : ∀ (cs : List (List Ly)) (c : Nat), cs.length ≤ N → ∀ x ∈ cntGo f z c cs, 0 ≤ x ∧ x ≤ X cs.length
  | [], c, _, x, hx => by cases hx
  | ls :: rest, c, hl, x, hx => by
    rw [List.length_cons] at hl ⊢
    have ih := cntGo_b h rest (c + 1) (by omega)
    rw [cntGo_cons] at hx
    have hX : 0 ≤ X rest.length := by
      have := h.mono 0 rest.length (by omega); rw [Nat.zero_add] at this; have := h.x0; omega
    rcases List.mem_cons.1 hx with rfl | hx
    · have z0 := h.z0 rest.length (by omega)
      exact foldl_b (fun n i l a b c d => h.step rest.length n i l (by omega) a b c d) (fun l => innF_b ih hX _ _ l) ls z z0.1 z0.2
    · have := ih x hx; have := h.up rest.length (by omega); omega
set_option maxHeartbeats 4000000 in
theorem counts_ (fid : FuncId) (f : Int → Ly → Int → Int) (z : Int) (X : Nat → Int) (d : Dc) (v : Value) (H : AH) (h : Cos H v d.comps) (hl : d.comps.length ≤ 1000) (hB : CB f z X d.comps.length)
    (hf : ∀ (n i : Int) (l : Ly) (K : AH) v0 v1 v2 v3 v4 v5 v6 v7 v8 pm vw vh vp vc vd vda vf vt, 0 ≤ n → n ≤ 1000000 → 0 ≤ i → i ≤ 1000000 → SemCall Tryz.prog fid [.int .i64 n, .agg (lyVs l v0 v1 v2 v3 v4 v5 v6 v7 v8 pm vw vh vp vc vd vda vf vt).toArray, .int .i64 i] K (.int .i64 (f n l i)) K []) :
    Cal Tryz.prog 58 [dcV d v, .int .i64 z, .func (.func fid) [].toArray [].toArray] H fun v' H' W => W = [] ∧ (∃ L, H' = H ++ L) ∧ ∃ b, v' = sl b 0 0 d.comps.length 1 ∧ H'[b]? = some ⟨intC (cntGo f z 0 d.comps), 0, true⟩ := by
  refine adds_of ?_
  obtain ⟨va, ve, hv⟩ := h.form
  subst hv
  have w0 : IntKind.i64.wrap ((d.comps.length : Int) - 1) = (d.comps.length : Int) - 1 := wi (by omega) (by omega)
  refine XCal.of hm Tryz.func58 rfl (fun xs w => Tryz.call58 xs w) Tryz.ntmps58 Tryz.results58 rfl ?_
  (refine sg (et (damkI d.comps.length hl) w0) ?_; try exact ⟨⟩)
  have hK0l : H.length + 2 ≤ (H ++ [(⟨[.int .i64 d.in_, .int .i64 d.out, .slice va d.comps.length ve], 0, true⟩ : Blk), ⟨intC (List.replicate d.comps.length 0), 0, true⟩]).length := by simp
  have g0 : (H ++ [(⟨[.int .i64 d.in_, .int .i64 d.out, .slice va d.comps.length ve], 0, true⟩ : Blk), ⟨intC (List.replicate d.comps.length 0), 0, true⟩])[H.length]? = some ⟨[.int .i64 d.in_, .int .i64 d.out, .slice va d.comps.length ve], 0, true⟩ := by rw [hget_app0]; rfl
  have g1 : (H ++ [(⟨[.int .i64 d.in_, .int .i64 d.out, .slice va d.comps.length ve], 0, true⟩ : Blk), ⟨intC (List.replicate d.comps.length 0), 0, true⟩])[H.length + 1]? = some ⟨intC (List.replicate d.comps.length 0), 0, true⟩ := by rw [hget_app]; rfl
  have oH : Old H (H ++ [(⟨[.int .i64 d.in_, .int .i64 d.out, .slice va d.comps.length ve], 0, true⟩ : Blk), ⟨intC (List.replicate d.comps.length 0), 0, true⟩]) := Old.app' _ _
  generalize H ++ [(⟨[.int .i64 d.in_, .int .i64 d.out, .slice va d.comps.length ve], 0, true⟩ : Blk), ⟨intC (List.replicate d.comps.length 0), 0, true⟩] = K0 at *
  refine keep (fun r T K D => D = [] ∧ r ≤ d.comps.length ∧ ∃ cur : List Int, cur.length = d.comps.length ∧ cur.drop r = cntGo f z r (d.comps.drop r) ∧ Olx (H.length + 1) K0 K ∧ K0.length ≤ K.length ∧ K[H.length + 1]? = some ⟨intC cur, 0, true⟩ ∧ T 1 = .int .i64 z ∧ T 2 = .func (.func fid) [].toArray [].toArray ∧ T 3 = ap H.length 0 0 ∧ T 7 = sl (H.length + 1) 0 0 d.comps.length 1 ∧ T 8 = .int .i64 ((r : Int) - 1)) d.comps.length
    ⟨rfl, Nat.le_refl _, List.replicate d.comps.length 0, by simp, by rw [List.drop_eq_nil_of_le (by simp), List.drop_eq_nil_of_le (by omega)]; rfl, Olx.refl _ _, by omega, g1, by (refine sg trivial ?_; try exact ⟨⟩), by (refine sg trivial ?_; try exact ⟨⟩), by (refine sg trivial ?_; try exact ⟨⟩), by (refine sg trivial ?_; try exact ⟨⟩), by (refine sg trivial ?_; try exact ⟨⟩) <;> rfl⟩ ?_
  clear g1
  rintro r T K D ⟨rfl, hrl, cur, hcl, hcur, hold, hKl, hmk, t1, t2, t3, t7, t8⟩
  have kd : ∀ n, decide (K.length + n < H.length) = false := fun n => df (by omega)
  have kd0 : decide (K.length < H.length) = false := df (by omega)
  have dkm : decide (H.length + 1 < H.length) = false := df (by omega)
  by_cases hr0 : r = 0
  · subst hr0
    rw [List.drop_zero, List.drop_zero] at hcur
    subst hcur
    (refine sg (et t1 (et t2 (et t3 (et t7 (et t8 (df (show ¬ (0 : Int) ≤ ((0 : Nat) : Int) - 1 by omega))))))) ?_; try exact ⟨⟩)
    exact ⟨H.length + 1, rfl, hmk⟩
  · obtain ⟨c, rfl⟩ : ∃ c, r = c + 1 := ⟨r - 1, by omega⟩
    have e8 : (((c + 1 : Nat) : Int) - 1) = (c : Int) := by omega
    rw [e8] at t8
    obtain ⟨ls, hls⟩ : ∃ ls, d.comps[c]? = some ls := ⟨_, List.getElem?_eq_getElem (by omega)⟩
    obtain ⟨b, g, cells, rw_, cs, hve, hb, ⟨w, rfl, hw⟩, hcl1, hle, hld, hgt⟩ := h.at hls
    have hwlen := hw.len
    obtain ⟨wa, we, hwf⟩ := hw.form
    subst hwf
    have hbl := (List.getElem?_eq_some_iff.1 hb).1
    have kb := hold _ _ (by omega) (oH _ _ hb)
    have kg := hold _ _ (by omega) g0
    rw [hve] at kg
    have hg := hgt 0 (by omega)
    rw [Nat.mul_one, Nat.add_zero] at hg
    have hg : cells[c]? = some (.slice wa ls.length we) := hg
    have q0 : ∀ n : Nat, (0 : Int) ≤ (n : Int) := fun n => by omega
    have q1 : (c : Int) < (d.comps.length : Int) := by omega
    have w1 : IntKind.i64.wrap ((c : Int) - 1) = ((c : Nat) : Int) - 1 := wi (by omega) (by omega)
    have hrest : (d.comps.drop (c + 1)).length = d.comps.length - (c + 1) := List.length_drop ..
    have hcb := cntGo_b hB (d.comps.drop (c + 1)) (c + 1) (by omega)
    have hXle := hB.top (d.comps.length - (c + 1)) (by omega)
    have hXle1 := hB.top (d.comps.length - (c + 1) + 1) (by omega)
    have hX0 : 0 ≤ X (d.comps.length - (c + 1)) := by
      have := hB.mono 0 (d.comps.length - (c + 1)) (by omega); rw [Nat.zero_add] at this; have := hB.x0; omega
    have hz0 := hB.z0 (d.comps.length - (c + 1)) (by omega)
    rw [hrest] at hcb
    (refine sg (et t1 (et t2 (et t3 (et t7 (et t8 (et (dt (show (0 : Int) ≤ (c : Int) by omega)) (et kg (et q0 (et q1 (et Int.toNat_natCast (et Nat.zero_add (et Nat.mul_one (et Nat.add_zero (et kb hg)))))))))))))) ?_; try exact ⟨⟩)
    refine keep (fun r' T K' D => D = [] ∧ ∃ (k : Nat) (n : Int), k + r' = ls.length ∧ Old K K' ∧ K.length ≤ K'.length ∧ 0 ≤ n ∧ n ≤ X (d.comps.length - (c + 1) + 1) ∧ ls.foldl (fun n l => f n l (innF (cntGo f z (c + 1) (d.comps.drop (c + 1))) c (d.comps.drop (c + 1)).length l)) z = (ls.drop k).foldl (fun n l => f n l (innF (cntGo f z (c + 1) (d.comps.drop (c + 1))) c (d.comps.drop (c + 1)).length l)) n ∧ T 1 = .int .i64 z ∧ T 2 = .func (.func fid) [].toArray [].toArray ∧ T 3 = ap H.length 0 0 ∧ T 7 = sl (H.length + 1) 0 0 d.comps.length 1 ∧ T 8 = .int .i64 (c : Int) ∧ T 9 = .int .i64 n ∧ T 31 = .slice wa ls.length we ∧ T 32 = .int .i64 (ls.length : Int) ∧ T 33 = .int .i64 (k : Int)) ls.length
      ⟨rfl, 0, z, by omega, Old.refl _, by omega, hz0.1, hz0.2, rfl, by (refine sg t1 ?_; try exact ⟨⟩), by (refine sg t2 ?_; try exact ⟨⟩), by (refine sg t3 ?_; try exact ⟨⟩), by (refine sg t7 ?_; try exact ⟨⟩), by (refine sg t8 ?_; try exact ⟨⟩), by (refine sg trivial ?_; try exact ⟨⟩), by (refine sg trivial ?_; try exact ⟨⟩), by (refine sg trivial ?_; try exact ⟨⟩), by (refine sg trivial ?_; try exact ⟨⟩) <;> rfl⟩ ?_
    clear t1 t2 t3 t7 t8 kd kd0
    rintro r' T K' D ⟨rfl, k, n, hkr, hold', hKl', hn0, hn1, hfold, t1, t2, t3, t7, t8, t9, t31, t32, t33⟩
    have kd : ∀ n, decide (K'.length + n < H.length) = false := fun n => df (by omega)
    have kd0 : decide (K'.length < H.length) = false := df (by omega)
    by_cases hk : k < ls.length
    · obtain ⟨l, hl'⟩ : ∃ l, ls[k]? = some l := ⟨_, List.getElem?_eq_getElem hk⟩
      obtain ⟨b2, g2, cells2, rw2, cs2, hwe, hb2, hLy, hcl2, hle2, hld2, hgt2⟩ := hw.at hl'
      obtain ⟨v0, v1, v2, v3, v4, v5, v6, v7, v8, pm, vw, vh, vp, vc, vd, vda, vf, vt, rfl, hLV, hSV⟩ := hLy
      have hbl2 := (List.getElem?_eq_some_iff.1 hb2).1
      have kb2 := hold' _ _ (hold _ _ (by omega) (oH _ _ hb2))
      have kg2 := hold' _ _ kg
      have km2 := hold' _ _ hmk
      rw [drop_at hl', List.foldl_cons] at hfold
      rw [hwe] at t31
      have q2 : (k : Int) < (ls.length : Int) := by omega
      have w2 : IntKind.i64.wrap ((k : Int) + 1) = ((k + 1 : Nat) : Int) := by rw [wi (by omega) (by omega)]; rfl
      have hib := innF_b hcb hX0 c (d.comps.drop (c + 1)).length l
      have hst := hB.step (d.comps.length - (c + 1)) n (innF (cntGo f z (c + 1) (d.comps.drop (c + 1))) c (d.comps.drop (c + 1)).length l) l (by omega) hn0 hn1 hib.1 hib.2
      have hcall := fun K => hf n (innF (cntGo f z (c + 1) (d.comps.drop (c + 1))) c (d.comps.drop (c + 1)).length l) l K v0 v1 v2 v3 v4 v5 v6 v7 v8 pm vw vh vp vc vd vda vf vt hn0 (by omega) hib.1 (by omega)
      have fin : ∀ (L : AH) (T' : Env), T' 1 = .int .i64 z → True := fun _ _ _ => trivial
      clear fin
      have e1 : l.kind = 1 ∧ (c : Int) < l.comp ∧ l.comp < (d.comps.length : Int) → ∃ m : Nat, l.comp = (m : Int) ∧ cur[m]? = some (innF (cntGo f z (c + 1) (d.comps.drop (c + 1))) c (d.comps.drop (c + 1)).length l) := fun ⟨x1, x2, x3⟩ => by
        obtain ⟨m, hm'⟩ : ∃ m : Nat, l.comp = (m : Int) := ⟨l.comp.toNat, by omega⟩
        refine ⟨m, hm', ?_⟩
        have e2 : cur[m]? = (cntGo f z (c + 1) (d.comps.drop (c + 1)))[m - (c + 1)]? := by
          rw [← hcur, List.getElem?_drop]; congr 1; omega
        have hlt : m - (c + 1) < (cntGo f z (c + 1) (d.comps.drop (c + 1))).length := by rw [cntGo_len, hrest]; omega
        rw [e2]
        unfold innF
        rw [if_pos ⟨x1, x2, by omega⟩, show (l.comp - ((c : Int) + 1)).toNat = m - (c + 1) by omega, List.getElem?_eq_getElem hlt]; rfl
      have e3 : ¬ (l.kind = 1 ∧ (c : Int) < l.comp ∧ l.comp < (d.comps.length : Int)) → innF (cntGo f z (c + 1) (d.comps.drop (c + 1))) c (d.comps.drop (c + 1)).length l = 0 := fun hne => by
        unfold innF
        rw [if_neg (fun hh => hne ⟨hh.1, hh.2.1, by omega⟩)]
      generalize innF (cntGo f z (c + 1) (d.comps.drop (c + 1))) c (d.comps.drop (c + 1)).length l = inn at *
      generalize f n l inn = n' at *
      by_cases x1 : l.kind = 1
      · by_cases x2 : (c : Int) < l.comp
        · by_cases x3 : l.comp < (d.comps.length : Int)
          · obtain ⟨m, hm', hcm⟩ := e1 ⟨x1, x2, x3⟩
            have hcg := dint_get hcm
            have hmt : l.comp.toNat = m := by omega
            have x0 : 0 ≤ l.comp := by omega
            (refine sg (et t1 (et t2 (et t3 (et t7 (et t8 (et t9 (et t31 (et t32 (et t33 (et (dt q2) (et q0 (et q2 (et Int.toNat_natCast (et Nat.zero_add (et kb2 (et hld2 (et kd (et kd0 (et (bt x1) (et hmt (et x0 (et (dt x2) (et (dt x3) (et x3 (et (old_get kg2) (et (old_get km2) (et Nat.mul_one hcg))))))))))))))))))))))))))) ?_; try exact ⟨⟩)
            refine (hcall _).x ?_
            (refine sg (et t1 (et t2 (et t3 (et t7 (et t8 (et t9 (et t31 (et t32 (et t33 (et kd (et kd0 w2))))))))))) ?_; try exact ⟨⟩)
            exact ⟨r' - 1, by omega, k + 1, n', by omega, hold'.app _, by omega, hst.1, hst.2, hfold, rfl, hwe.symm, rfl⟩
          · have hi0 := e3 (fun hh => x3 hh.2.2)
            subst hi0
            (refine sg (et t1 (et t2 (et t3 (et t7 (et t8 (et t9 (et t31 (et t32 (et t33 (et (dt q2) (et q0 (et q2 (et Int.toNat_natCast (et Nat.zero_add (et kb2 (et hld2 (et kd (et kd0 (et (bt x1) (et (dt x2) (et (df x3) (old_get kg2)))))))))))))))))))))) ?_; try exact ⟨⟩)
            refine (hcall _).x ?_
            (refine sg (et t1 (et t2 (et t3 (et t7 (et t8 (et t9 (et t31 (et t32 (et t33 (et kd (et kd0 w2))))))))))) ?_; try exact ⟨⟩)
            exact ⟨r' - 1, by omega, k + 1, n', by omega, hold'.app _, by omega, hst.1, hst.2, hfold, rfl, hwe.symm, rfl⟩
        · have hi0 := e3 (fun hh => x2 hh.2.1)
          subst hi0
          (refine sg (et t1 (et t2 (et t3 (et t7 (et t8 (et t9 (et t31 (et t32 (et t33 (et (dt q2) (et q0 (et q2 (et Int.toNat_natCast (et Nat.zero_add (et kb2 (et hld2 (et kd (et kd0 (et (bt x1) (et (df x2) (old_get kg2))))))))))))))))))))) ?_; try exact ⟨⟩)
          refine (hcall _).x ?_
          (refine sg (et t1 (et t2 (et t3 (et t7 (et t8 (et t9 (et t31 (et t32 (et t33 (et kd (et kd0 w2))))))))))) ?_; try exact ⟨⟩)
          exact ⟨r' - 1, by omega, k + 1, n', by omega, hold'.app _, by omega, hst.1, hst.2, hfold, rfl, hwe.symm, rfl⟩
      · have hi0 := e3 (fun hh => x1 hh.1)
        subst hi0
        (refine sg (et t1 (et t2 (et t3 (et t7 (et t8 (et t9 (et t31 (et t32 (et t33 (et (dt q2) (et q0 (et q2 (et Int.toNat_natCast (et Nat.zero_add (et kb2 (et hld2 (et kd (et kd0 (et (bf x1) (old_get kg2)))))))))))))))))))) ?_; try exact ⟨⟩)
        refine (hcall _).x ?_
        (refine sg (et t1 (et t2 (et t3 (et t7 (et t8 (et t9 (et t31 (et t32 (et t33 (et kd (et kd0 w2))))))))))) ?_; try exact ⟨⟩)
        exact ⟨r' - 1, by omega, k + 1, n', by omega, hold'.app _, by omega, hst.1, hst.2, hfold, rfl, hwe.symm, rfl⟩
    · rw [List.drop_eq_nil_of_le (show ls.length ≤ k by omega)] at hfold
      have hfold : ls.foldl (fun n l => f n l (innF (cntGo f z (c + 1) (d.comps.drop (c + 1))) c (d.comps.drop (c + 1)).length l)) z = n := hfold
      have km2 := hold' _ _ hmk
      have hia := dint_ast K' cur (d := c) (by omega) n (H.length + 1) 0
      have hml := (List.getElem?_eq_some_iff.1 km2).1
      (refine sg (et t1 (et t2 (et t3 (et t7 (et t8 (et t9 (et t31 (et t32 (et t33 (et (df (show ¬ (k : Int) < (ls.length : Int) by omega)) (et q0 (et q1 (et Int.toNat_natCast (et Nat.zero_add (et Nat.mul_one (et km2 (et hia (et dkm w1)))))))))))))))))) ?_; try exact ⟨⟩)
      refine ⟨c, by omega, by omega, cur.set c n, by simpa using hcl, ?_, (hold.trans (Olx.old hold')).trans (Olx.set0 _ _ _), by omega, List.getElem?_set_self hml, rfl⟩
      rw [drop_at hls, cntGo_cons, hfold, ← hcur]
      refine List.ext_getElem? fun j => ?_
      rw [List.getElem?_drop]
      cases j with
      | zero => rw [Nat.add_zero, List.getElem?_set_self (by omega)]; rfl
      | succ j => rw [List.getElem?_set_ne (by omega), List.getElem?_cons_succ, List.getElem?_drop]; congr 1; omega
end Go.Proofs.YtlcdbangmbdlcaaGreat
/- Documents: the walk of what judges a document. -/
namespace Go.Proofs.YtlcdbangmbdlcaaGreat
open Go Go.RowKit E
attribute [local irreducible] XRun XOps XCode XCal XLoop XQ SemCall
set_option linter.unusedSimpArgs false
set_option linter.unusedVariables false
theorem deep1_ (n i : Int) (l : Ly) (K : AH) (v0 v1 v2 v3 v4 v5 v6 v7 v8 pm vw vh vp vc vd vda vf vt : Value) (h0 : 0 ≤ n) (h1 : n ≤ 1000000) (h2 : 0 ≤ i) (h3 : i ≤ 1000000) : SemCall Tryz.prog 59 [.int .i64 n, .agg (lyVs l v0 v1 v2 v3 v4 v5 v6 v7 v8 pm vw vh vp vc vd vda vf vt).toArray, .int .i64 i] K (.int .i64 (depF n l i)) K [] := by
  refine pure_of ?_ rfl
  have w1 : IntKind.i64.wrap (1 + i) = 1 + i := wi (by omega) (by omega)
  refine XCal.of hm Tryz.func59 rfl (fun xs w => Tryz.call59 xs w) Tryz.ntmps59 Tryz.results59 rfl ?_
  (refine sg w1 ?_; try exact ⟨⟩)
  rfl
theorem nodes1_ (n i : Int) (l : Ly) (K : AH) (v0 v1 v2 v3 v4 v5 v6 v7 v8 pm vw vh vp vc vd vda vf vt : Value) (h0 : 0 ≤ n) (h1 : n ≤ 1000000) (h2 : 0 ≤ i) (h3 : i ≤ 1000000) : SemCall Tryz.prog 60 [.int .i64 n, .agg (lyVs l v0 v1 v2 v3 v4 v5 v6 v7 v8 pm vw vh vp vc vd vda vf vt).toArray, .int .i64 i] K (.int .i64 (nodF n l i)) K [] := by
  refine pure_of ?_ rfl
  have w1 : IntKind.i64.wrap (1 + i) = 1 + i := wi (by omega) (by omega)
  have w2 : IntKind.i64.wrap (n + (1 + i)) = n + (1 + i) := wi (by omega) (by omega)
  have w3 : IntKind.i64.wrap (n + 2) = n + 2 := wi (by omega) (by omega)
  unfold nodF
  by_cases k0 : l.kind = 0
  · rw [if_pos k0]
    refine XCal.of hm Tryz.func60 rfl (fun xs w => Tryz.call60 xs w) Tryz.ntmps60 Tryz.results60 rfl ?_
    (refine sg (et w1 (et w2 (et w3 (bt k0)))) ?_; try exact ⟨⟩)
    rfl
  · rw [if_neg k0]
    by_cases k1 : l.kind = 1
    · rw [if_pos k1]
      refine XCal.of hm Tryz.func60 rfl (fun xs w => Tryz.call60 xs w) Tryz.ntmps60 Tryz.results60 rfl ?_
      (refine sg (et w1 (et w2 (et w3 (et (bf k0) (bt k1))))) ?_; try exact ⟨⟩)
      rfl
    · rw [if_neg k1]
      refine XCal.of hm Tryz.func60 rfl (fun xs w => Tryz.call60 xs w) Tryz.ntmps60 Tryz.results60 rfl ?_
      (refine sg (et w1 (et w2 (et w3 (et (bf k0) (bf k1))))) ?_; try exact ⟨⟩)
      rfl
theorem cb_dep (N : Nat) (h : N ≤ 1000) : CB depF 1 (fun s => (s : Int)) N :=
  ⟨fun s _ => ⟨by omega, by show (1 : Int) ≤ ((s + 1 : Nat) : Int); omega⟩, fun s n i l _ a b c d => by
    have b : n ≤ ((s + 1 : Nat) : Int) := b
    have d : i ≤ (s : Int) := d
    unfold depF mxI
    split
    · exact ⟨by omega, by show 1 + i ≤ ((s + 1 : Nat) : Int); omega⟩
    · exact ⟨a, b⟩, fun s _ => by show (s : Int) ≤ ((s + 1 : Nat) : Int); omega, Int.le_refl _, fun s hs => by show (s : Int) ≤ 1000000; omega⟩
theorem cb_nod (N : Nat) : CB nodF 0 (fun _ => 257) N :=
  ⟨fun s _ => ⟨by omega, by omega⟩, fun s n i l _ a b c d => by
    unfold nodF mnI
    have key : ∀ x : Int, 0 ≤ x → 0 ≤ (if 257 < x then 257 else x) ∧ (if 257 < x then 257 else x) ≤ 257 := fun x hx => by split <;> omega
    apply key
    split
    · omega
    · split <;> omega, fun s _ => Int.le_refl _, by omega, fun s hs => by omega⟩
theorem deep_ (d : Dc) (v : Value) (c : Int) (H : AH) (h : Cos H v d.comps) (hl : d.comps.length ≤ 1000) : SemCall Tryz.prog 33 [dcV d v, .int .i64 c] H (.int .i64 (deepE d.comps c)) H [] := by
  refine pure_of ?_ rfl
  obtain ⟨va, ve, hv⟩ := h.form
  subst hv
  have th := fun H => dthere_ c (d.comps.length : Int) H
  unfold deepE
  cases ht : (decide (0 ≤ c) && decide (c < (d.comps.length : Int))) with
  | false =>
    rw [ht] at th
    rw [if_neg (by decide)]
    refine XCal.of hm Tryz.func33 rfl (fun xs w => Tryz.call33 xs w) Tryz.ntmps33 Tryz.results33 rfl ?_
    (refine sg trivial ?_; try exact ⟨⟩)
    repeat ((first | refine (th _).x ?_ | refine drawnF ?_ (by decide +kernel)); (refine sg trivial ?_; try exact ⟨⟩))
  | true =>
    rw [ht] at th
    rw [if_pos rfl]
    simp only [Bool.and_eq_true, decide_eq_true_eq] at ht
    obtain ⟨m, rfl⟩ : ∃ m : Nat, c = (m : Int) := ⟨c.toNat, by omega⟩
    refine XCal.of hm Tryz.func33 rfl (fun xs w => Tryz.call33 xs w) Tryz.ntmps33 Tryz.results33 rfl ?_
    (refine sg trivial ?_; try exact ⟨⟩)
    repeat ((first | refine (th _).x ?_ | refine drawnF ?_ (by decide +kernel)); (refine sg trivial ?_; try exact ⟨⟩))
    refine (counts_ _ depF 1 _ d _ _ (h.old CoE.m (Old.app' _ _)) hl (cb_dep _ hl) (fun n i l K v0 v1 v2 v3 v4 v5 v6 v7 v8 pm vw vh vp vc vd vda vf vt a b c d => deep1_ n i l K v0 v1 v2 v3 v4 v5 v6 v7 v8 pm vw vh vp vc vd vda vf vt a b c d)).x ?_
    rintro v' H1 W1 ⟨rfl, ⟨L, rfl⟩, b, rfl, hb⟩
    obtain ⟨x, hx⟩ : ∃ x, (cntGo depF 1 0 d.comps)[m]? = some x := ⟨_, List.getElem?_eq_getElem (by rw [cntGo_len]; omega)⟩
    rw [Int.toNat_natCast, hx]
    (refine sg (et (show (0 : Int) ≤ (m : Int) by omega) (et ht.2 (et Int.toNat_natCast (et Nat.zero_add (et Nat.mul_one (et hb (dint_get hx))))))) ?_; try exact ⟨⟩)
    rfl
theorem nodes_ (d : Dc) (v : Value) (c : Int) (H : AH) (h : Cos H v d.comps) (hl : d.comps.length ≤ 1000) : SemCall Tryz.prog 34 [dcV d v, .int .i64 c] H (.int .i64 (nodesE d.comps c)) H [] := by
  refine pure_of ?_ rfl
  obtain ⟨va, ve, hv⟩ := h.form
  subst hv
  have th := fun H => dthere_ c (d.comps.length : Int) H
  unfold nodesE
  cases ht : (decide (0 ≤ c) && decide (c < (d.comps.length : Int))) with
  | false =>
    rw [ht] at th
    rw [if_neg (by decide)]
    refine XCal.of hm Tryz.func34 rfl (fun xs w => Tryz.call34 xs w) Tryz.ntmps34 Tryz.results34 rfl ?_
    (refine sg trivial ?_; try exact ⟨⟩)
    repeat ((first | refine (th _).x ?_ | refine drawnF ?_ (by decide +kernel)); (refine sg trivial ?_; try exact ⟨⟩))
  | true =>
    rw [ht] at th
    rw [if_pos rfl]
    simp only [Bool.and_eq_true, decide_eq_true_eq] at ht
    obtain ⟨m, rfl⟩ : ∃ m : Nat, c = (m : Int) := ⟨c.toNat, by omega⟩
    refine XCal.of hm Tryz.func34 rfl (fun xs w => Tryz.call34 xs w) Tryz.ntmps34 Tryz.results34 rfl ?_
    (refine sg trivial ?_; try exact ⟨⟩)
    repeat ((first | refine (th _).x ?_ | refine drawnF ?_ (by decide +kernel)); (refine sg trivial ?_; try exact ⟨⟩))
    refine (counts_ _ nodF 0 _ d _ _ (h.old CoE.m (Old.app' _ _)) hl (cb_nod _) (fun n i l K v0 v1 v2 v3 v4 v5 v6 v7 v8 pm vw vh vp vc vd vda vf vt a b c d => nodes1_ n i l K v0 v1 v2 v3 v4 v5 v6 v7 v8 pm vw vh vp vc vd vda vf vt a b c d)).x ?_
    rintro v' H1 W1 ⟨rfl, ⟨L, rfl⟩, b, rfl, hb⟩
    obtain ⟨x, hx⟩ : ∃ x, (cntGo nodF 0 0 d.comps)[m]? = some x := ⟨_, List.getElem?_eq_getElem (by rw [cntGo_len]; omega)⟩
    rw [Int.toNat_natCast, hx]
    (refine sg (et (show (0 : Int) ≤ (m : Int) by omega) (et ht.2 (et Int.toNat_natCast (et Nat.zero_add (et Nat.mul_one (et hb (dint_get hx))))))) ?_; try exact ⟨⟩)
    rfl
def manyB (c : List Ly) : Bool := decide (16 < (c.length : Int))
theorem right1_ (c : List Ly) (v : Value) (H : AH) (h : Lys H v c) : SemCall Tryz.prog 30 [.agg [v].toArray] H (.bool (manyB c)) H [] := by
  refine pure_of ?_ rfl
  obtain ⟨va, ve, hv⟩ := h.form
  subst hv
  unfold manyB
  refine XCal.of hm Tryz.func30 rfl (fun xs w => Tryz.call30 xs w) Tryz.ntmps30 Tryz.results30 rfl ?_
  (refine sg trivial ?_; try exact ⟨⟩)
theorem cIndex_ (l : List (List Ly)) (v : Value) (H : AH) (h : Cos H v l) : SemCall Tryz.prog 54 [v, .func (.func 30) [].toArray [].toArray] H (.int .i64 (idxG manyB l 0)) H [] := by
  refine pure_of ?_ rfl
  have hlen := h.len
  obtain ⟨va, ve, hv⟩ := h.form
  subst hv
  refine XCal.of hm Tryz.func54 rfl (fun xs w => Tryz.call54 xs w) Tryz.ntmps54 Tryz.results54 rfl ?_
  (refine sg trivial ?_; try exact ⟨⟩)
  refine keep (fun k T H' D => H = H' ∧ D = [] ∧ T 0 = .slice va l.length ve ∧ T 1 = .func (.func 30) [].toArray [].toArray ∧ T 7 = .int .i64 (l.length : Int) ∧ ∃ i : Nat, i + k = l.length ∧ T 8 = .int .i64 (i : Int) ∧ idxG manyB (l.drop i) i = idxG manyB l 0) l.length ⟨rfl, rfl, rfl, rfl, rfl, 0, by omega, rfl, rfl⟩ ?_
  rintro k T H' D ⟨rfl, rfl, h0, h1, h7, i, hi, h8, hr⟩
  by_cases hk : i < l.length
  · obtain ⟨x, hx⟩ : ∃ x, l[i]? = some x := ⟨_, List.getElem?_eq_getElem hk⟩
    obtain ⟨b, g, cells, rw_, c, hve, hb, ⟨kv, hc, hkv⟩, hcl, hle, hld, hgt⟩ := h.at hx
    subst hc
    rw [hve] at h0
    rw [drop_at hx, idxG] at hr
    have w1 : IntKind.i64.wrap ((i : Int) + 1) = ((i + 1 : Nat) : Int) := by rw [wi (by omega) (by omega)]; rfl
    have c1 := right1_ x kv H hkv
    cases hd : manyB x with
    | true =>
      rw [hd] at c1
      rw [if_pos hd] at hr
      (refine sg (et h0 (et h1 (et h7 (et h8 (et (dt (show (i : Int) < (l.length : Int) by omega)) (et hb (et (show (0 : Int) ≤ (i : Int) by omega) (et (show (i : Int) < (l.length : Int) by omega) (et Int.toNat_natCast (et Nat.zero_add hld)))))))))) ?_; try exact ⟨⟩)
      refine c1.x ?_
      (refine sg (et h0 (et h1 (et h7 h8))) ?_; try exact ⟨⟩)
      rw [← hr]
    | false =>
      rw [hd] at c1
      rw [if_neg (by rw [hd]; decide)] at hr
      (refine sg (et h0 (et h1 (et h7 (et h8 (et (dt (show (i : Int) < (l.length : Int) by omega)) (et hb (et (show (0 : Int) ≤ (i : Int) by omega) (et (show (i : Int) < (l.length : Int) by omega) (et Int.toNat_natCast (et Nat.zero_add hld)))))))))) ?_; try exact ⟨⟩)
      refine c1.x ?_
      simp only [go_sem, Nat.reduceEqDiff, Nat.reduceAdd, Nat.reduceSub, Nat.reduceMul, Nat.reduceLT, Nat.reduceLeDiff, Int.reducePow, Int.reduceBEq, Int.reduceBNe, Int.reduceDiv, Int.reduceMod, Int.reduceEq, Int.reduceLT, Int.reduceLE, Int.reduceAdd, Int.reduceSub, Int.reduceMul, Int.reduceNeg, Int.reduceToNat, Int.reduceTDiv, Int.reduceTMod, ↓reduceIte, h0, h1, h7, h8, w1]
      exact ⟨k - 1, by omega, hve.symm, i + 1, by omega, rfl, hr⟩
  · rw [List.drop_eq_nil_of_le (by omega)] at hr
    simp only [go_sem, Nat.reduceEqDiff, Nat.reduceAdd, Nat.reduceSub, Nat.reduceMul, Nat.reduceLT, Nat.reduceLeDiff, Int.reducePow, Int.reduceBEq, Int.reduceBNe, Int.reduceDiv, Int.reduceMod, Int.reduceEq, Int.reduceLT, Int.reduceLE, Int.reduceAdd, Int.reduceSub, Int.reduceMul, Int.reduceNeg, Int.reduceToNat, Int.reduceTDiv, Int.reduceTMod, ↓reduceIte, h0, h1, h7, h8, df (show ¬ (i : Int) < (l.length : Int) by omega)]
    rw [← hr]; rfl
theorem cContains_ (l : List (List Ly)) (v : Value) (H : AH) (h : Cos H v l) : SemCall Tryz.prog 29 [v, .func (.func 30) [].toArray [].toArray] H (.bool (l.any manyB)) H [] := by
  refine pure_of ?_ rfl
  refine XCal.of hm Tryz.func29 rfl (fun xs w => Tryz.call29 xs w) Tryz.ntmps29 Tryz.results29 rfl ?_
  simp only [go_sem, Nat.reduceEqDiff, Nat.reduceAdd, Nat.reduceSub, Nat.reduceMul, Nat.reduceLT, Nat.reduceLeDiff, Int.reducePow, Int.reduceBEq, Int.reduceBNe, Int.reduceDiv, Int.reduceMod, Int.reduceEq, Int.reduceLT, Int.reduceLE, Int.reduceAdd, Int.reduceSub, Int.reduceMul, Int.reduceNeg, Int.reduceToNat, Int.reduceTDiv, Int.reduceTMod, ↓reduceIte]
  repeat ((first | refine (cIndex_ l v _ h).x ?_ | refine drawnF ?_ (by decide +kernel)); simp only [go_sem, Nat.reduceEqDiff, Nat.reduceAdd, Nat.reduceSub, Nat.reduceMul, Nat.reduceLT, Nat.reduceLeDiff, Int.reducePow, Int.reduceBEq, Int.reduceBNe, Int.reduceDiv, Int.reduceMod, Int.reduceEq, Int.reduceLT, Int.reduceLE, Int.reduceAdd, Int.reduceSub, Int.reduceMul, Int.reduceNeg, Int.reduceToNat, Int.reduceTDiv, Int.reduceTMod, ↓reduceIte, idxG_ge])
set_option maxHeartbeats 4000000 in
theorem dright_ (d : Dc) (v : Value) (H : AH) (h : Cos H v d.comps) : SemCall Tryz.prog 17 [dcV d v] H (.int .i64 (rightE d)) H [] := by
  refine pure_of ?_ rfl
  have hlen := h.len
  obtain ⟨va, ve, hv⟩ := h.form
  subst hv
  have cc := fun L => cContains_ d.comps _ (H ++ L) (h.old CoE.m (Old.app' H L))
  have cl := fun L => layers_ d _ (H ++ L) (h.old CoE.m (Old.app' H L))
  have tk := fun t H => tick_ t H
  obtain ⟨q, hq⟩ : ∃ q, rightE d = q := ⟨_, rfl⟩
  rw [hq]
  unfold rightE sizeB at hq
  have hm : (d.comps.any fun c => decide (16 < (c.length : Int))) = d.comps.any manyB := rfl
  rw [hm] at hq
  clear hm
  refine XCal.of hm Tryz.func17 rfl (fun xs w => Tryz.call17 xs w) Tryz.ntmps17 Tryz.results17 rfl ?_
  (refine sg trivial ?_; try exact ⟨⟩)
  repeat ((first | refine (cc _).x ?_ | refine drawnF ?_ (by decide +kernel)); (refine sg trivial ?_; try exact ⟨⟩))
  cases h1 : decide ((d.comps.length : Int) < 1) with
  | true =>
    rw [h1, Bool.true_or, Bool.true_or, if_pos rfl] at hq
    (refine sg h1 ?_; try exact ⟨⟩)
    rw [hq]
  | false =>
    cases h2 : decide (8 < (d.comps.length : Int)) with
    | true =>
      rw [h1, h2, Bool.false_or, Bool.true_or, if_pos rfl] at hq
      (refine sg (et h1 h2) ?_; try exact ⟨⟩)
      rw [hq]
    | false =>
      rw [h1, h2, Bool.false_or, Bool.false_or] at hq
      cases h3 : d.comps.any manyB with
      | true =>
        rw [h3, if_pos rfl] at hq
        (refine sg (et h1 (et h2 h3)) ?_; try exact ⟨⟩)
        rw [hq]
      | false =>
        rw [h3, if_neg (by decide)] at hq
        have hl : d.comps.length ≤ 1000 := by simp at h2; omega
        have cd := fun L => deep_ d _ 0 (H ++ L) (h.old CoE.m (Old.app' H L)) hl
        have cn := fun L => nodes_ d _ 0 (H ++ L) (h.old CoE.m (Old.app' H L)) hl
        (refine sg (et h1 (et h2 h3)) ?_; try exact ⟨⟩)
        cases t1 : tickB d.in_ with
        | false =>
          rw [t1, Bool.not_false, Bool.true_or, Bool.true_or, if_pos rfl] at hq
          repeat ((first | refine (tk _ _).x ?_ | refine drawnF ?_ (by decide +kernel)); (refine sg t1 ?_; try exact ⟨⟩))
          rw [hq]
        | true =>
          cases t2 : tickB d.out with
          | false =>
            rw [t1, t2, Bool.not_true, Bool.not_false, Bool.false_or, Bool.true_or, if_pos rfl] at hq
            repeat ((first | refine (tk _ _).x ?_ | refine drawnF ?_ (by decide +kernel)); (refine sg (et t1 t2) ?_; try exact ⟨⟩))
            rw [hq]
          | true =>
            cases t3 : decide (d.out ≤ d.in_) with
            | true =>
              rw [t1, t2, t3, Bool.not_true, Bool.or_true, if_pos rfl] at hq
              repeat ((first | refine (tk _ _).x ?_ | refine drawnF ?_ (by decide +kernel)); (refine sg (et t1 (et t2 t3)) ?_; try exact ⟨⟩))
              rw [hq]
            | false =>
              rw [t1, t2, t3, Bool.not_true, Bool.or_self, Bool.or_self, if_neg (by decide)] at hq
              repeat ((first | refine (tk _ _).x ?_ | refine (cl _).x ?_ | refine drawnF ?_ (by decide +kernel)); (refine sg (et t1 (et t2 t3)) ?_; try exact ⟨⟩))
              by_cases he : cosE d.comps 0 d.comps = 0
              · rw [if_neg (fun hh => hh he)] at hq
                (refine sg (nt he) ?_; try exact ⟨⟩)
                by_cases e1 : 4 < deepE d.comps 0
                · rw [if_pos (.inl e1)] at hq
                  repeat ((first | refine (cd _).x ?_ | refine (cn _).x ?_ | refine drawnF ?_ (by decide +kernel)); (refine sg (dt e1) ?_; try exact ⟨⟩))
                  rw [hq]
                · by_cases e2 : 256 < nodesE d.comps 0
                  · rw [if_pos (.inr e2)] at hq
                    repeat ((first | refine (cd _).x ?_ | refine (cn _).x ?_ | refine drawnF ?_ (by decide +kernel)); (refine sg (et (df e1) (dt e2)) ?_; try exact ⟨⟩))
                    rw [hq]
                  · rw [if_neg (by omega)] at hq
                    repeat ((first | refine (cd _).x ?_ | refine (cn _).x ?_ | refine drawnF ?_ (by decide +kernel)); (refine sg (et (df e1) (df e2)) ?_; try exact ⟨⟩))
                    rw [hq]
              · rw [if_pos he] at hq
                (refine sg (nf he) ?_; try exact ⟨⟩)
                rw [hq]
end Go.Proofs.YtlcdbangmbdlcaaGreat
/- Documents: the walks of what compares documents. -/
namespace Go.Proofs.YtlcdbangmbdlcaaGreat
open Go Go.RowKit E
attribute [local irreducible] XRun XOps XCode XCal XLoop XQ SemCall
set_option linter.unusedSimpArgs false
set_option linter.unusedVariables false
def lyP (x y : Ly) : Bool := (x.kind == y.kind) && (x.parent == y.parent) && (x.comp == y.comp) && (x.matte == y.matte) && (x.in_ == y.in_) && (x.out == y.out) && (x.start == y.start)
def lyQ (x y : Ly) : Bool := lyP x y && eqG (eqG kyQ) x.keys y.keys && plQ x.mask y.mask && shQ x.shape y.shape
def dcQ (x y : Dc) : Bool := (x.in_ == y.in_) && (x.out == y.out) && eqG (eqG lyQ) x.comps y.comps
end Go.Proofs.YtlcdbangmbdlcaaGreat
/- Documents: the walks of what the document's own answer compares. -/
namespace Go.Proofs.YtlcdbangmbdlcaaGreat
open Go Go.RowKit E
attribute [local irreducible] XRun XOps XCode XCal XLoop XQ SemCall
set_option linter.unusedSimpArgs false
set_option linter.unusedVariables false
/-- What of a shape is compared last. -/
def shR (x y : Sh) : Bool := (x.form == y.form) && ((x.n == y.n) && (eqG kyQ x.w y.w && (eqG kyQ x.h y.h && ((x.fill == y.fill) && ((x.rule == y.rule) && (pntQ x.paint y.paint && ((x.stroke == y.stroke) && (eqG kyQ x.width y.width && (c4Q x.line y.line && ((x.cap == y.cap) && (eqG kyQ x.frm y.frm && eqG kyQ x.to y.to)))))))))))
end Go.Proofs.YtlcdbangmbdlcaaGreat
/- Documents: the walk of mutoscoperef18.Same. -/
namespace Go.Proofs.YtlcdbangmbdlcaaGreat
open Go Go.RowKit E
attribute [local irreducible] XRun XOps XCode XCal XLoop XQ SemCall
set_option linter.unusedSimpArgs false
set_option linter.unusedVariables false
theorem rkeysR_ (l : Ly) (v0 v1 v2 v3 v4 v5 v6 v7 v8 pm vw vh vp vc vd vda vf vt : Value) (H : AH) (h : LyV H l v0 v1 v2 v3 v4 v5 v6 v7 v8 pm) : Cal Tryz.prog 45 [.agg (lyVs l v0 v1 v2 v3 v4 v5 v6 v7 v8 pm vw vh vp vc vd vda vf vt).toArray] H fun v' H' W => W = [] ∧ (∃ L, H' = H ++ L) ∧ RowOf 1 KsE H' v' l.keys := by
  refine adds_of ?_
  obtain ⟨a0, e0, rfl⟩ := h.x.form
  obtain ⟨a1, e1, rfl⟩ := h.y.form
  obtain ⟨a2, e2, rfl⟩ := h.ax.form
  obtain ⟨a3, e3, rfl⟩ := h.ay.form
  obtain ⟨a4, e4, rfl⟩ := h.sx.form
  obtain ⟨a5, e5, rfl⟩ := h.sy.form
  obtain ⟨a6, e6, rfl⟩ := h.turn.form
  obtain ⟨a7, e7, rfl⟩ := h.opac.form
  obtain ⟨a8, e8, rfl⟩ := h.remap.form
  refine XCal.of hm Tryz.func45 rfl (fun xs w => Tryz.call45 xs w) Tryz.ntmps45 Tryz.results45 rfl ?_
  (refine sg trivial ?_; try exact ⟨⟩)
  refine .inr ⟨H.length + 1, 0, [], true, [[.slice a0 l.x.length e0], [.slice a1 l.y.length e1], [.slice a2 l.ax.length e2], [.slice a3 l.ay.length e3], [.slice a4 l.sx.length e4], [.slice a5 l.sy.length e5], [.slice a6 l.turn.length e6], [.slice a7 l.opac.length e7], [.slice a8 l.remap.length e8]], rfl, by rw [hget_app]; rfl, rfl, by simp [Ly.keys], fun i x hx => ?_⟩
  have o := fun L => Old.app' H L
  match i, hx with
  | 0, hx => simp [Ly.keys] at hx; subst hx; exact ⟨_, rfl, rfl, _, rfl, h.x.old KyE.m (o _)⟩
  | 1, hx => simp [Ly.keys] at hx; subst hx; exact ⟨_, rfl, rfl, _, rfl, h.y.old KyE.m (o _)⟩
  | 2, hx => simp [Ly.keys] at hx; subst hx; exact ⟨_, rfl, rfl, _, rfl, h.ax.old KyE.m (o _)⟩
  | 3, hx => simp [Ly.keys] at hx; subst hx; exact ⟨_, rfl, rfl, _, rfl, h.ay.old KyE.m (o _)⟩
  | 4, hx => simp [Ly.keys] at hx; subst hx; exact ⟨_, rfl, rfl, _, rfl, h.sx.old KyE.m (o _)⟩
  | 5, hx => simp [Ly.keys] at hx; subst hx; exact ⟨_, rfl, rfl, _, rfl, h.sy.old KyE.m (o _)⟩
  | 6, hx => simp [Ly.keys] at hx; subst hx; exact ⟨_, rfl, rfl, _, rfl, h.turn.old KyE.m (o _)⟩
  | 7, hx => simp [Ly.keys] at hx; subst hx; exact ⟨_, rfl, rfl, _, rfl, h.opac.old KyE.m (o _)⟩
  | 8, hx => simp [Ly.keys] at hx; subst hx; exact ⟨_, rfl, rfl, _, rfl, h.remap.old KyE.m (o _)⟩
  | i + 9, hx => simp [Ly.keys] at hx

def lyR (x y : Ly) : Bool := (x.kind == y.kind) && ((x.parent == y.parent) && ((x.comp == y.comp) && ((x.matte == y.matte) && ((x.in_ == y.in_) && ((x.out == y.out) && ((x.start == y.start) && (plQ x.mask y.mask && shQ x.shape y.shape)))))))
end Go.Proofs.YtlcdbangmbdlcaaGreat
/- Documents: the walks of what the document's own answer judges: keys, colours, paths of keys. -/
namespace Go.Proofs.YtlcdbangmbdlcaaGreat
open Go Go.RowKit E
attribute [local irreducible] XRun XOps XCode XCal XLoop XQ SemCall
set_option linter.unusedSimpArgs false
set_option linter.unusedVariables false
theorem ald_mid {cells c : List Value} {i s j n g : Nat} {rw_ : Bool} (hl : c.length = s) (hb : (i + 1) * s ≤ cells.length) (h : ∀ q, q < s → cells[i * s + q]? = c[q]?) (hj : j + n ≤ s) (b : Nat) : ald (some true) (some n) (some ⟨cells, g, rw_⟩) b (i * s + j) g = some (.agg ((c.drop j).take n).toArray, b) := by
  have h1 : i * s + j + n ≤ cells.length := by rw [Nat.add_mul, Nat.one_mul] at hb; omega
  simp only [ald, true_and, h1, if_true]
  have e : (cells.drop (i * s + j)).take n = (c.drop j).take n := by
    refine List.ext_getElem? fun k => ?_
    by_cases hk : k < n
    · rw [List.getElem?_take_of_lt hk, List.getElem?_take_of_lt hk, List.getElem?_drop, List.getElem?_drop, ← h (j + k) (by omega)]
      congr 1; omega
    · rw [List.getElem?_eq_none (by rw [List.length_take]; omega), List.getElem?_eq_none (by rw [List.length_take]; omega)]
  rw [e]
theorem rwithin5_ (n lo hi : Int) (H : AH) : SemCall Tryz.prog 84 [.int .i64 n, .int .i64 lo, .int .i64 hi] H (.bool (decide (lo ≤ n) && decide (n ≤ hi))) H [] := by
  refine pure_of ?_ rfl
  cases h1 : decide (lo ≤ n) with
  | false =>
    refine XCal.of hm Tryz.func84 rfl (fun xs w => Tryz.call84 xs w) Tryz.ntmps84 Tryz.results84 rfl ?_
    (refine sg h1 ?_; try exact ⟨⟩)
  | true =>
    refine XCal.of hm Tryz.func84 rfl (fun xs w => Tryz.call84 xs w) Tryz.ntmps84 Tryz.results84 rfl ?_
    (refine sg h1 ?_; try exact ⟨⟩)
theorem rease_ (e : Ez) (H : AH) : SemCall Tryz.prog 104 [ezV e] H (.bool (easeB e)) H [] := by
  refine pure_of ?_ rfl
  have c1 := fun H => rwithin5_ e.x1 0 65536 H
  have c2 := fun H => rwithin5_ e.x2 0 65536 H
  have c3 := fun H => rwithin5_ e.y1 (-131072) 196608 H
  have c4 := fun H => rwithin5_ e.y2 (-131072) 196608 H
  unfold easeB
  generalize (decide (0 ≤ e.x1) && decide (e.x1 ≤ 65536)) = p1 at *
  generalize (decide (0 ≤ e.x2) && decide (e.x2 ≤ 65536)) = p2 at *
  generalize (decide (-131072 ≤ e.y1) && decide (e.y1 ≤ 196608)) = p3 at *
  generalize (decide (-131072 ≤ e.y2) && decide (e.y2 ≤ 196608)) = p4 at *
  cases p1
  case' true => cases p2
  case' true.true => cases p3
  all_goals
    refine XCal.of hm Tryz.func104 rfl (fun xs w => Tryz.call104 xs w) Tryz.ntmps104 Tryz.results104 rfl ?_
    (refine sg trivial ?_; try exact ⟨⟩)
    repeat ((first | refine (c1 _).x ?_ | refine (c2 _).x ?_ | refine (c3 _).x ?_ | refine (c4 _).x ?_ | refine drawnF ?_ (by decide +kernel)); (refine sg trivial ?_; try exact ⟨⟩))
theorem rmoves_ (t how : Int) (e : Ez) (H : AH) : SemCall Tryz.prog 83 [.int .i64 t, .int .i64 how, ezV e] H (.bool (movesB t how e)) H [] := by
  refine pure_of ?_ rfl
  have c0 : ∀ H, SemCall Tryz.prog 84 [.int .i64 t, .int .i64 (-1073741824), .int .i64 1073741824] H (.bool (tickB t)) H [] := fun H => rwithin5_ t (-1073741824) 1073741824 H
  have c1 := fun H => rease_ e H
  unfold movesB howB
  generalize tickB t = p0 at *
  cases p0
  case false =>
    refine XCal.of hm Tryz.func83 rfl (fun xs w => Tryz.call83 xs w) Tryz.ntmps83 Tryz.results83 rfl ?_
    (refine sg trivial ?_; try exact ⟨⟩)
    repeat ((first | refine (c0 _).x ?_ | refine drawnF ?_ (by decide +kernel)); (refine sg trivial ?_; try exact ⟨⟩))
  rw [Bool.true_and]
  by_cases h2 : how = 2
  · rw [if_pos h2]
    refine XCal.of hm Tryz.func83 rfl (fun xs w => Tryz.call83 xs w) Tryz.ntmps83 Tryz.results83 rfl ?_
    (refine sg trivial ?_; try exact ⟨⟩)
    repeat ((first | refine (c0 _).x ?_ | refine (c1 _).x ?_ | refine drawnF ?_ (by decide +kernel)); (refine sg (bt h2) ?_; try exact ⟨⟩))
  · rw [if_neg h2]
    by_cases w0 : how = 0
    · rw [bt w0, Bool.true_or, Bool.true_and]
      refine XCal.of hm Tryz.func83 rfl (fun xs w => Tryz.call83 xs w) Tryz.ntmps83 Tryz.results83 rfl ?_
      (refine sg trivial ?_; try exact ⟨⟩)
      repeat ((first | refine (c0 _).x ?_ | refine drawnF ?_ (by decide +kernel)); simp only [go_sem, Nat.reduceEqDiff, Nat.reduceAdd, Nat.reduceSub, Nat.reduceMul, Nat.reduceLT, Nat.reduceLeDiff, Int.reducePow, Int.reduceBEq, Int.reduceBNe, Int.reduceDiv, Int.reduceMod, Int.reduceEq, Int.reduceLT, Int.reduceLE, Int.reduceAdd, Int.reduceSub, Int.reduceMul, Int.reduceNeg, Int.reduceToNat, Int.reduceTDiv, Int.reduceTMod, ↓reduceIte, bf h2, bt w0, ez0])
    · by_cases w1 : how = 1
      · rw [bf w0, bt w1, Bool.false_or, Bool.true_and]
        refine XCal.of hm Tryz.func83 rfl (fun xs w => Tryz.call83 xs w) Tryz.ntmps83 Tryz.results83 rfl ?_
        (refine sg trivial ?_; try exact ⟨⟩)
        repeat ((first | refine (c0 _).x ?_ | refine drawnF ?_ (by decide +kernel)); simp only [go_sem, Nat.reduceEqDiff, Nat.reduceAdd, Nat.reduceSub, Nat.reduceMul, Nat.reduceLT, Nat.reduceLeDiff, Int.reducePow, Int.reduceBEq, Int.reduceBNe, Int.reduceDiv, Int.reduceMod, Int.reduceEq, Int.reduceLT, Int.reduceLE, Int.reduceAdd, Int.reduceSub, Int.reduceMul, Int.reduceNeg, Int.reduceToNat, Int.reduceTDiv, Int.reduceTMod, ↓reduceIte, bf h2, bf w0, bt w1, ez0])
      · rw [bf w0, bf w1, Bool.false_or, Bool.false_and]
        refine XCal.of hm Tryz.func83 rfl (fun xs w => Tryz.call83 xs w) Tryz.ntmps83 Tryz.results83 rfl ?_
        (refine sg trivial ?_; try exact ⟨⟩)
        repeat ((first | refine (c0 _).x ?_ | refine drawnF ?_ (by decide +kernel)); (refine sg (et (bf h2) (et (bf w0) (bf w1))) ?_; try exact ⟨⟩))
theorem kst_moves (f : Bool) (a t how : Int) (e : Ez) : kstB f a t how e = (movesB t how e && (f || decide (a < t))) := by
  unfold kstB movesB
  cases tickB t <;> cases howB how e <;> cases (f || decide (a < t)) <;> rfl
set_option maxHeartbeats 4000000 in
theorem rkeyR_ (l : List Ky) (v : Value) (H : AH) (h : Kys H v l) : SemCall Tryz.prog 64 [v] H (.bool (keysB l)) H [] := by
  refine pure_of ?_ rfl
  have hlen := h.len
  obtain ⟨va, ve, hv⟩ := h.form
  subst hv
  obtain ⟨Q, hQ⟩ : ∃ Q, keysB l = Q := ⟨_, rfl⟩
  rw [hQ]
  refine XCal.of hm Tryz.func64 rfl (fun xs w => Tryz.call64 xs w) Tryz.ntmps64 Tryz.results64 rfl ?_
  (refine sg trivial ?_; try exact ⟨⟩)
  refine keep (fun k T K D => D = [] ∧ K = H ∧ ∃ (i : Nat) (a : Int), i + k = l.length ∧ (∀ y, ¬ i = 0 → l[i - 1]? = some y → y.t = a) ∧ (keysGo (decide (i = 0)) a (l.drop i) && decide ((l.length : Int) ≤ 32)) = Q ∧ T 0 = .slice va l.length ve ∧ T 3 = .int .i64 (i : Int)) l.length
    ⟨rfl, rfl, 0, 0, by omega, (fun y h => absurd rfl h), hQ, by (refine sg trivial ?_; try exact ⟨⟩), by (refine sg trivial ?_; try exact ⟨⟩) <;> rfl⟩ ?_
  clear hQ
  rintro k T K D ⟨rfl, rfl, i, a, hik, hpr, hr, t0, t3⟩
  by_cases hk : i < l.length
  · obtain ⟨x, hx⟩ : ∃ x, l[i]? = some x := ⟨_, List.getElem?_eq_getElem hk⟩
    obtain ⟨b, g, cells, rw_, c, hve, hb, hc, hcl, hle, hld, hgt⟩ := h.at hx
    have hc : c = kyC x := hc
    subst hc
    rw [drop_at hx] at hr
    simp only [keysGo, kst_moves] at hr
    rw [hve] at t0
    have q0 : (0 : Int) ≤ (i : Int) := by omega
    have q1 : (i : Int) < (l.length : Int) := by omega
    have w1 : IntKind.i64.wrap ((i : Int) + 1) = ((i + 1 : Nat) : Int) := by rw [wi (by omega) (by omega)]; rfl
    have ks := fun H => rmoves_ x.t x.how x.e H
    have kn : ∀ H, SemCall Tryz.prog 84 [.int .i64 x.v, .int .i64 (-67108864), .int .i64 67108864] H (.bool (nearB x.v)) H [] := fun H => rwithin5_ x.v (-67108864) 67108864 H
    have f0 := hgt 0 (by omega)
    have f1 := hgt 1 (by omega)
    have f2 := hgt 2 (by omega)
    rw [Nat.add_zero] at f0
    have f0 : cells[i * 7]? = some (.int .i64 x.t) := f0
    have f1 : cells[i * 7 + 1]? = some (.int .i64 x.v) := f1
    have f2 : cells[i * 7 + 2]? = some (.int .i64 x.how) := f2
    have f3 := fun b' => ald_mid (g := g) (rw_ := rw_) (n := 4) (j := 3) hcl (by have := Nat.mul_le_mul_right 7 hk; omega) hgt (by omega) b'
    simp only [List.drop_succ_cons, List.drop_zero, List.take_succ_cons, List.take_zero] at f3
    generalize movesB x.t x.how x.e = E1 at *
    generalize nearB x.v = E2 at *
    by_cases hi0 : i = 0
    · rw [dt hi0, Bool.true_or, Bool.and_true] at hr
      cases E1
      case' true => cases E2
      all_goals
        simp only [Bool.true_and, Bool.false_and] at hr
        (refine sg (et t0 (et t3 (dt q1))) ?_; try exact ⟨⟩)
        repeat ((first | refine (ks _).x ?_ | refine (kn _).x ?_ | refine drawnF ?_ (by decide +kernel)); (refine sg (et t0 (et t3 (et q0 (et q1 (et Int.toNat_natCast (et Nat.zero_add (et Nat.add_zero (et hb (et f0 (et f1 (et f2 (et f3 (et w1 (df (show ¬ (0 : Int) < (i : Int) by omega))))))))))))))) ?_; try exact ⟨⟩))
        first | (subst hr; done) | (rw [← hr]; done) | exact ⟨k - 1, by omega, i + 1, x.t, by omega, (fun y _ hy => by rw [Nat.add_sub_cancel, hx] at hy; cases hy; rfl), hr, hve.symm, rfl⟩
    · obtain ⟨y, hy⟩ : ∃ y, l[i - 1]? = some y := ⟨_, List.getElem?_eq_getElem (by omega)⟩
      have hya := hpr y hi0 hy
      obtain ⟨b', g', cells', rw', c', hve', hb', hc', hcl', hle', hld', hgt'⟩ := h.at hy
      have hc' : c' = kyC y := hc'
      subst hc'
      rw [hve] at hve'
      cases hve'
      rw [hb] at hb'
      cases hb'
      have e0 := hgt' 0 (by omega)
      rw [Nat.add_zero] at e0
      have e0 : cells[(i - 1) * 7]? = some (.int .i64 y.t) := e0
      rw [hya] at e0
      have wm : IntKind.i64.wrap ((i : Int) - 1) = ((i - 1 : Nat) : Int) := by rw [wi (by omega) (by omega)]; omega
      have p0 : (0 : Int) ≤ ((i - 1 : Nat) : Int) := by omega
      have p1 : ((i - 1 : Nat) : Int) < (l.length : Int) := by omega
      rw [df (show ¬ i = 0 from hi0), Bool.false_or] at hr
      have hc3 : decide (x.t ≤ a) = !decide (a < x.t) := by
        by_cases h : a < x.t
        · rw [dt h, df (show ¬ x.t ≤ a by omega)]; rfl
        · rw [df h, dt (show x.t ≤ a by omega)]; rfl
      generalize decide (a < x.t) = E3 at *
      cases E1
      case' true => cases E2
      case' true.true => cases E3
      all_goals
        simp only [Bool.true_and, Bool.false_and, Bool.and_false, Bool.and_true] at hr
        (refine sg (et t0 (et t3 (dt q1))) ?_; try exact ⟨⟩)
        repeat ((first | refine (ks _).x ?_ | refine (kn _).x ?_ | refine drawnF ?_ (by decide +kernel)); (refine sg (et t0 (et t3 (et q0 (et q1 (et Int.toNat_natCast (et Nat.zero_add (et Nat.add_zero (et hb (et f0 (et f1 (et f2 (et f3 (et w1 (et (dt (show (0 : Int) < (i : Int) by omega)) (et wm (et p0 (et p1 (et e0 hc3)))))))))))))))))) ?_; try exact ⟨⟩))
        first | (subst hr; done) | (rw [← hr]; done) | exact ⟨k - 1, by omega, i + 1, x.t, by omega, (fun y _ hy => by rw [Nat.add_sub_cancel, hx] at hy; cases hy; rfl), hr, hve.symm, rfl⟩
  · have hi : i = l.length := by omega
    subst hi
    rw [List.drop_eq_nil_of_le (by omega)] at hr
    have hr : (true && decide ((l.length : Int) ≤ 32)) = Q := hr
    rw [Bool.true_and] at hr
    (refine sg (et t0 (et t3 (et (df (show ¬ ((l.length : Nat) : Int) < (l.length : Int) by omega)) hr))) ?_; try exact ⟨⟩)
set_option maxHeartbeats 4000000 in
theorem rcolors_ (l : List Ck) (v : Value) (H : AH) (h : Cks H v l) : SemCall Tryz.prog 88 [v] H (.bool (cksB l)) H [] := by
  refine pure_of ?_ rfl
  have hlen := h.len
  obtain ⟨va, ve, hv⟩ := h.form
  subst hv
  obtain ⟨Q, hQ⟩ : ∃ Q, cksB l = Q := ⟨_, rfl⟩
  rw [hQ]
  refine XCal.of hm Tryz.func88 rfl (fun xs w => Tryz.call88 xs w) Tryz.ntmps88 Tryz.results88 rfl ?_
  (refine sg trivial ?_; try exact ⟨⟩)
  refine keep (fun k T K D => D = [] ∧ K = H ∧ ∃ (i : Nat) (a : Int), i + k = l.length ∧ (∀ y, ¬ i = 0 → l[i - 1]? = some y → y.t = a) ∧ (cksGo (decide (i = 0)) a (l.drop i) && decide ((l.length : Int) ≤ 32)) = Q ∧ T 0 = .slice va l.length ve ∧ T 3 = .int .i64 (i : Int)) l.length
    ⟨rfl, rfl, 0, 0, by omega, (fun y h => absurd rfl h), hQ, by (refine sg trivial ?_; try exact ⟨⟩), by (refine sg trivial ?_; try exact ⟨⟩) <;> rfl⟩ ?_
  clear hQ
  rintro k T K D ⟨rfl, rfl, i, a, hik, hpr, hr, t0, t3⟩
  by_cases hk : i < l.length
  · obtain ⟨x, hx⟩ : ∃ x, l[i]? = some x := ⟨_, List.getElem?_eq_getElem hk⟩
    obtain ⟨b, g, cells, rw_, c, hve, hb, hc, hcl, hle, hld, hgt⟩ := h.at hx
    have hc : c = ckC x := hc
    subst hc
    rw [drop_at hx] at hr
    simp only [cksGo, kst_moves] at hr
    rw [hve] at t0
    have q0 : (0 : Int) ≤ (i : Int) := by omega
    have q1 : (i : Int) < (l.length : Int) := by omega
    have w1 : IntKind.i64.wrap ((i : Int) + 1) = ((i + 1 : Nat) : Int) := by rw [wi (by omega) (by omega)]; rfl
    have ks := fun H => rmoves_ x.t x.how x.e H
    have f0 := hgt 0 (by omega)
    have f2 := hgt 5 (by omega)
    rw [Nat.add_zero] at f0
    have f0 : cells[i * 10]? = some (.int .i64 x.t) := f0
    have f2 : cells[i * 10 + 5]? = some (.int .i64 x.how) := f2
    have f3 := fun b' => ald_mid (g := g) (rw_ := rw_) (n := 4) (j := 6) hcl (by have := Nat.mul_le_mul_right 10 hk; omega) hgt (by omega) b'
    simp only [List.drop_succ_cons, List.drop_zero, List.take_succ_cons, List.take_zero] at f3
    generalize movesB x.t x.how x.e = E1 at *
    by_cases hi0 : i = 0
    · rw [dt hi0, Bool.true_or, Bool.and_true] at hr
      cases E1
      all_goals
        simp only [Bool.true_and, Bool.false_and] at hr
        (refine sg (et t0 (et t3 (dt q1))) ?_; try exact ⟨⟩)
        repeat ((first | refine (ks _).x ?_ | refine drawnF ?_ (by decide +kernel)); (refine sg (et t0 (et t3 (et q0 (et q1 (et Int.toNat_natCast (et Nat.zero_add (et Nat.add_zero (et hb (et f0 (et f2 (et f3 (et w1 (df (show ¬ (0 : Int) < (i : Int) by omega)))))))))))))) ?_; try exact ⟨⟩))
        first | (subst hr; done) | (rw [← hr]; done) | exact ⟨k - 1, by omega, i + 1, x.t, by omega, (fun y _ hy => by rw [Nat.add_sub_cancel, hx] at hy; cases hy; rfl), hr, hve.symm, rfl⟩
    · obtain ⟨y, hy⟩ : ∃ y, l[i - 1]? = some y := ⟨_, List.getElem?_eq_getElem (by omega)⟩
      have hya := hpr y hi0 hy
      obtain ⟨b', g', cells', rw', c', hve', hb', hc', hcl', hle', hld', hgt'⟩ := h.at hy
      have hc' : c' = ckC y := hc'
      subst hc'
      rw [hve] at hve'
      cases hve'
      rw [hb] at hb'
      cases hb'
      have e0 := hgt' 0 (by omega)
      rw [Nat.add_zero] at e0
      have e0 : cells[(i - 1) * 10]? = some (.int .i64 y.t) := e0
      rw [hya] at e0
      have wm : IntKind.i64.wrap ((i : Int) - 1) = ((i - 1 : Nat) : Int) := by rw [wi (by omega) (by omega)]; omega
      have p0 : (0 : Int) ≤ ((i - 1 : Nat) : Int) := by omega
      have p1 : ((i - 1 : Nat) : Int) < (l.length : Int) := by omega
      rw [df (show ¬ i = 0 from hi0), Bool.false_or] at hr
      have hc3 : decide (x.t ≤ a) = !decide (a < x.t) := by
        by_cases h : a < x.t
        · rw [dt h, df (show ¬ x.t ≤ a by omega)]; rfl
        · rw [df h, dt (show x.t ≤ a by omega)]; rfl
      generalize decide (a < x.t) = E3 at *
      cases E1
      case' true => cases E3
      all_goals
        simp only [Bool.true_and, Bool.false_and, Bool.and_false, Bool.and_true] at hr
        (refine sg (et t0 (et t3 (dt q1))) ?_; try exact ⟨⟩)
        repeat ((first | refine (ks _).x ?_ | refine drawnF ?_ (by decide +kernel)); (refine sg (et t0 (et t3 (et q0 (et q1 (et Int.toNat_natCast (et Nat.zero_add (et Nat.add_zero (et hb (et f0 (et f2 (et f3 (et w1 (et (dt (show (0 : Int) < (i : Int) by omega)) (et wm (et p0 (et p1 (et e0 hc3))))))))))))))))) ?_; try exact ⟨⟩))
        first | (subst hr; done) | (rw [← hr]; done) | exact ⟨k - 1, by omega, i + 1, x.t, by omega, (fun y _ hy => by rw [Nat.add_sub_cancel, hx] at hy; cases hy; rfl), hr, hve.symm, rfl⟩
  · have hi : i = l.length := by omega
    subst hi
    rw [List.drop_eq_nil_of_le (by omega)] at hr
    have hr : (true && decide ((l.length : Int) ≤ 32)) = Q := hr
    rw [Bool.true_and] at hr
    (refine sg (et t0 (et t3 (et (df (show ¬ ((l.length : Nat) : Int) < (l.length : Int) by omega)) hr))) ?_; try exact ⟨⟩)
theorem rdashes_ (l : List Int) (v : Value) (H : AH) (h : Ins H v l) : SemCall Tryz.prog 89 [v] H (.bool (dashB l)) H [] := by
  refine pure_of ?_ rfl
  have hlen := h.len
  obtain ⟨va, ve, hv⟩ := h.form
  subst hv
  obtain ⟨Q, hQ⟩ : ∃ Q, dashB l = Q := ⟨_, rfl⟩
  rw [hQ]
  unfold dashB at hQ
  rw [Bool.and_comm] at hQ
  refine XCal.of hm Tryz.func89 rfl (fun xs w => Tryz.call89 xs w) Tryz.ntmps89 Tryz.results89 rfl ?_
  (refine sg trivial ?_; try exact ⟨⟩)
  refine keep (fun k T K D => D = [] ∧ K = H ∧ ∃ (i : Nat), i + k = l.length ∧ (((l.drop i).all fun n => decide (65536 ≤ n) && decide (n ≤ 67108864)) && decide ((l.length : Int) ≤ 8)) = Q ∧ T 0 = .slice va l.length ve ∧ T 3 = .int .i64 (i : Int)) l.length
    ⟨rfl, rfl, 0, by omega, hQ, by (refine sg trivial ?_; try exact ⟨⟩), by (refine sg trivial ?_; try exact ⟨⟩) <;> rfl⟩ ?_
  clear hQ
  rintro k T K D ⟨rfl, rfl, i, hik, hr, t0, t3⟩
  by_cases hk : i < l.length
  · obtain ⟨x, hx⟩ : ∃ x, l[i]? = some x := ⟨_, List.getElem?_eq_getElem hk⟩
    obtain ⟨b, g, cells, rw_, c, hve, hb, hc, hcl, hle, hld, hgt⟩ := h.at hx
    have hc : c = [.int .i64 x] := hc
    subst hc
    have f0 := hgt 0 (by omega)
    rw [Nat.add_zero, Nat.mul_one] at f0
    have f0 : cells[i]? = some (.int .i64 x) := f0
    rw [drop_at hx, List.all_cons] at hr
    rw [hve] at t0
    have q0 : (0 : Int) ≤ (i : Int) := by omega
    have q1 : (i : Int) < (l.length : Int) := by omega
    have w1 : IntKind.i64.wrap ((i : Int) + 1) = ((i + 1 : Nat) : Int) := by rw [wi (by omega) (by omega)]; rfl
    by_cases h1 : x < 65536
    · rw [df (show ¬ 65536 ≤ x by omega), Bool.false_and, Bool.false_and, Bool.false_and] at hr
      subst hr
      (refine sg (et t0 (et t3 (et (dt q1) (et q0 (et q1 (et Int.toNat_natCast (et Nat.zero_add (et Nat.mul_one (et hb (et f0 (dt h1))))))))))) ?_; try exact ⟨⟩)
    · by_cases h2 : 67108864 < x
      · rw [df (show ¬ x ≤ 67108864 by omega), Bool.and_false, Bool.false_and, Bool.false_and] at hr
        subst hr
        (refine sg (et t0 (et t3 (et (dt q1) (et q0 (et q1 (et Int.toNat_natCast (et Nat.zero_add (et Nat.mul_one (et hb (et f0 (et (df h1) (dt h2)))))))))))) ?_; try exact ⟨⟩)
      · rw [dt (show 65536 ≤ x by omega), dt (show x ≤ 67108864 by omega), Bool.true_and, Bool.true_and] at hr
        (refine sg (et t0 (et t3 (et (dt q1) (et q0 (et q1 (et Int.toNat_natCast (et Nat.zero_add (et Nat.mul_one (et hb (et f0 (et (df h1) (et (df h2) w1)))))))))))) ?_; try exact ⟨⟩)
        exact ⟨k - 1, by omega, i + 1, by omega, hr, hve.symm, rfl⟩
  · have hi : i = l.length := by omega
    subst hi
    rw [List.drop_eq_nil_of_le (by omega)] at hr
    have hr : (true && decide ((l.length : Int) ≤ 8)) = Q := hr
    rw [Bool.true_and] at hr
    (refine sg (et t0 (et t3 (et (df (show ¬ ((l.length : Nat) : Int) < (l.length : Int) by omega)) hr))) ?_; try exact ⟨⟩)
theorem rfits_ (p q : PL) (pv qv : Value) (H : AH) (hp : Pts H pv p.2) (hq : Pts H qv q.2) : SemCall Tryz.prog 105 [.agg [.bool p.1, pv].toArray, .agg [.bool q.1, qv].toArray] H (.bool (fitsB p q)) H [] := by
  refine pure_of ?_ rfl
  obtain ⟨a1, e1, rfl⟩ := hp.form
  obtain ⟨a2, e2, rfl⟩ := hq.form
  unfold fitsB
  by_cases hl : (p.2.length : Int) = (q.2.length : Int)
  · rw [dt hl, Bool.true_and]
    refine XCal.of hm Tryz.func105 rfl (fun xs w => Tryz.call105 xs w) Tryz.ntmps105 Tryz.results105 rfl ?_
    (refine sg (bt hl) ?_; try exact ⟨⟩)
  · rw [df hl, Bool.false_and]
    refine XCal.of hm Tryz.func105 rfl (fun xs w => Tryz.call105 xs w) Tryz.ntmps105 Tryz.results105 rfl ?_
    (refine sg (bf hl) ?_; try exact ⟨⟩)
set_option maxHeartbeats 4000000 in
theorem rpkeys_ (l : List Pk) (v : Value) (H : AH) (h : Pks H v l) : SemCall Tryz.prog 86 [v] H (.bool (pksB l)) H [] := by
  refine pure_of ?_ rfl
  have hlen := h.len
  obtain ⟨va, ve, hv⟩ := h.form
  subst hv
  obtain ⟨Q, hQ⟩ : ∃ Q, pksB l = Q := ⟨_, rfl⟩
  rw [hQ]
  obtain ⟨z, hz⟩ : ∃ z, (l[0]?).elim (false, []) (·.p) = z := ⟨_, rfl⟩
  unfold pksB at hQ
  rw [hz] at hQ
  refine XCal.of hm Tryz.func86 rfl (fun xs w => Tryz.call86 xs w) Tryz.ntmps86 Tryz.results86 rfl ?_
  (refine sg trivial ?_; try exact ⟨⟩)
  refine keep (fun k T K D => D = [] ∧ K = H ∧ ∃ (i : Nat) (a : Int), i + k = l.length ∧ (∀ y, ¬ i = 0 → l[i - 1]? = some y → y.t = a) ∧ (pksGo z (decide (i = 0)) a (l.drop i) && decide ((l.length : Int) ≤ 32)) = Q ∧ T 0 = .slice va l.length ve ∧ T 3 = .int .i64 (i : Int)) l.length
    ⟨rfl, rfl, 0, 0, by omega, (fun y h => absurd rfl h), hQ, by (refine sg trivial ?_; try exact ⟨⟩), by (refine sg trivial ?_; try exact ⟨⟩) <;> rfl⟩ ?_
  clear hQ
  rintro k T K D ⟨rfl, rfl, i, a, hik, hpr, hr, t0, t3⟩
  by_cases hk : i < l.length
  · obtain ⟨x, hx⟩ : ∃ x, l[i]? = some x := ⟨_, List.getElem?_eq_getElem hk⟩
    obtain ⟨b, g, cells, rw_, c, hve, hb, ⟨pv, hc, hp⟩, hcl, hle, hld, hgt⟩ := h.at hx
    subst hc
    obtain ⟨z0, hz0⟩ : ∃ z0, l[0]? = some z0 := ⟨_, List.getElem?_eq_getElem (by omega)⟩
    obtain ⟨b0, g0, cells0, rw0, c0, hve0, hb0, ⟨qv, hc0, hq⟩, hcl0, hle0, hld0, hgt0⟩ := h.at hz0
    subst hc0
    rw [hve] at hve0
    cases hve0
    rw [hb] at hb0
    cases hb0
    rw [hz0] at hz
    have hz : z0.p = z := hz
    have l12 := fun b' => ald_mid (g := g) (rw_ := rw_) (n := 2) (j := 1) hcl (by have := Nat.mul_le_mul_right 8 hk; omega) hgt (by omega) b'
    have z12 := fun b' => ald_mid (g := g) (rw_ := rw_) (n := 2) (j := 1) hcl0 (by have := Nat.mul_le_mul_right 8 (show 0 < l.length by omega); omega) hgt0 (by omega) b'
    simp only [List.drop_succ_cons, List.drop_zero, List.take_succ_cons, List.take_zero] at l12 z12
    rw [Nat.zero_mul, Nat.zero_add] at z12
    have f5 := hgt 2 (by omega)
    have f5 : cells[i * 8 + 2]? = some pv := f5
    have k2 := rright_ x.p.1 x.p.2 pv K hp
    have k3 := rfits_ x.p z0.p pv qv K hp hq
    rw [show fitsB x.p z0.p = fitsB x.p z by rw [hz]] at k3
    obtain ⟨pa, pe, hpf⟩ := hp.form
    have q2 : (0 : Int) < (l.length : Int) := by omega
    rw [drop_at hx] at hr
    simp only [pksGo, kst_moves] at hr
    rw [hve] at t0
    have q0 : (0 : Int) ≤ (i : Int) := by omega
    have q1 : (i : Int) < (l.length : Int) := by omega
    have w1 : IntKind.i64.wrap ((i : Int) + 1) = ((i + 1 : Nat) : Int) := by rw [wi (by omega) (by omega)]; rfl
    have ks := fun H => rmoves_ x.t x.how x.e H
    have f0 := hgt 0 (by omega)
    have f2 := hgt 3 (by omega)
    rw [Nat.add_zero] at f0
    have f0 : cells[i * 8]? = some (.int .i64 x.t) := f0
    have f2 : cells[i * 8 + 3]? = some (.int .i64 x.how) := f2
    have f3 := fun b' => ald_mid (g := g) (rw_ := rw_) (n := 4) (j := 4) hcl (by have := Nat.mul_le_mul_right 8 hk; omega) hgt (by omega) b'
    simp only [List.drop_succ_cons, List.drop_zero, List.take_succ_cons, List.take_zero] at f3
    generalize movesB x.t x.how x.e = E1 at *
    subst hpf
    have hl0 : ((x.p.2.length : Int) == 0) = decide ((x.p.2.length : Int) = 0) := rfl
    generalize decide ((x.p.2.length : Int) = 0) = E4 at *
    generalize rightB x.p.1 x.p.2 = E2 at *
    generalize fitsB x.p z = E5 at *
    by_cases hi0 : i = 0
    · rw [dt hi0, Bool.true_or, Bool.and_true] at hr
      cases E1
      case' true => cases E2
      case' true.true => cases E4
      case' true.true.false => cases E5
      all_goals
        simp only [Bool.true_and, Bool.false_and, Bool.and_false, Bool.and_true, Bool.not_true, Bool.not_false] at hr
        (refine sg (et t0 (et t3 (dt q1))) ?_; try exact ⟨⟩)
        repeat ((first | refine (ks _).x ?_ | refine (k2).x ?_ | refine (k3).x ?_ | refine drawnF ?_ (by decide +kernel)); simp only [go_sem, Nat.reduceEqDiff, Nat.reduceAdd, Nat.reduceSub, Nat.reduceMul, Nat.reduceLT, Nat.reduceLeDiff, Int.reducePow, Int.reduceBEq, Int.reduceBNe, Int.reduceDiv, Int.reduceMod, Int.reduceEq, Int.reduceLT, Int.reduceLE, Int.reduceAdd, Int.reduceSub, Int.reduceMul, Int.reduceNeg, Int.reduceToNat, Int.reduceTDiv, Int.reduceTMod, ↓reduceIte, t0, t3, q0, q1, Int.toNat_natCast, Nat.zero_add, Nat.add_zero, hb, f0, f2, f3, f5, l12, z12, hl0, q2, Nat.zero_mul, Int.reduceToNat, Bool.not_true, Bool.not_false, w1, df (show ¬ (0 : Int) < (i : Int) by omega)])
        first | (subst hr; done) | (rw [← hr]; done) | exact ⟨k - 1, by omega, i + 1, x.t, by omega, (fun y _ hy => by rw [Nat.add_sub_cancel, hx] at hy; cases hy; rfl), hr, hve.symm, rfl⟩
    · obtain ⟨y, hy⟩ : ∃ y, l[i - 1]? = some y := ⟨_, List.getElem?_eq_getElem (by omega)⟩
      have hya := hpr y hi0 hy
      obtain ⟨b', g', cells', rw', c', hve', hb', ⟨pv', hc', _⟩, hcl', hle', hld', hgt'⟩ := h.at hy
      subst hc'
      rw [hve] at hve'
      cases hve'
      rw [hb] at hb'
      cases hb'
      have e0 := hgt' 0 (by omega)
      rw [Nat.add_zero] at e0
      have e0 : cells[(i - 1) * 8]? = some (.int .i64 y.t) := e0
      rw [hya] at e0
      have wm : IntKind.i64.wrap ((i : Int) - 1) = ((i - 1 : Nat) : Int) := by rw [wi (by omega) (by omega)]; omega
      have p0 : (0 : Int) ≤ ((i - 1 : Nat) : Int) := by omega
      have p1 : ((i - 1 : Nat) : Int) < (l.length : Int) := by omega
      rw [df (show ¬ i = 0 from hi0), Bool.false_or] at hr
      have hc3 : decide (x.t ≤ a) = !decide (a < x.t) := by
        by_cases h : a < x.t
        · rw [dt h, df (show ¬ x.t ≤ a by omega)]; rfl
        · rw [df h, dt (show x.t ≤ a by omega)]; rfl
      generalize decide (a < x.t) = E3 at *
      cases E1
      case' true => cases E3
      case' true.true => cases E2
      case' true.true.true => cases E4
      case' true.true.true.false => cases E5
      all_goals
        simp only [Bool.true_and, Bool.false_and, Bool.and_false, Bool.and_true, Bool.not_true, Bool.not_false] at hr
        simp only [go_sem, Nat.reduceEqDiff, Nat.reduceAdd, Nat.reduceSub, Nat.reduceMul, Nat.reduceLT, Nat.reduceLeDiff, Int.reducePow, Int.reduceBEq, Int.reduceBNe, Int.reduceDiv, Int.reduceMod, Int.reduceEq, Int.reduceLT, Int.reduceLE, Int.reduceAdd, Int.reduceSub, Int.reduceMul, Int.reduceNeg, Int.reduceToNat, Int.reduceTDiv, Int.reduceTMod, ↓reduceIte, t0, t3, dt q1]
        repeat ((first | refine (ks _).x ?_ | refine (k2).x ?_ | refine (k3).x ?_ | refine drawnF ?_ (by decide +kernel)); simp only [go_sem, Nat.reduceEqDiff, Nat.reduceAdd, Nat.reduceSub, Nat.reduceMul, Nat.reduceLT, Nat.reduceLeDiff, Int.reducePow, Int.reduceBEq, Int.reduceBNe, Int.reduceDiv, Int.reduceMod, Int.reduceEq, Int.reduceLT, Int.reduceLE, Int.reduceAdd, Int.reduceSub, Int.reduceMul, Int.reduceNeg, Int.reduceToNat, Int.reduceTDiv, Int.reduceTMod, ↓reduceIte, t0, t3, q0, q1, Int.toNat_natCast, Nat.zero_add, Nat.add_zero, hb, f0, f2, f3, f5, l12, z12, hl0, q2, Nat.zero_mul, Int.reduceToNat, Bool.not_true, Bool.not_false, w1, dt (show (0 : Int) < (i : Int) by omega), wm, p0, p1, e0, hc3])
        first | (subst hr; done) | (rw [← hr]; done) | exact ⟨k - 1, by omega, i + 1, x.t, by omega, (fun y _ hy => by rw [Nat.add_sub_cancel, hx] at hy; cases hy; rfl), hr, hve.symm, rfl⟩
  · have hi : i = l.length := by omega
    subst hi
    rw [List.drop_eq_nil_of_le (by omega)] at hr
    have hr : (true && decide ((l.length : Int) ≤ 32)) = Q := hr
    rw [Bool.true_and] at hr
    simp only [go_sem, Nat.reduceEqDiff, Nat.reduceAdd, Nat.reduceSub, Nat.reduceMul, Nat.reduceLT, Nat.reduceLeDiff, Int.reducePow, Int.reduceBEq, Int.reduceBNe, Int.reduceDiv, Int.reduceMod, Int.reduceEq, Int.reduceLT, Int.reduceLE, Int.reduceAdd, Int.reduceSub, Int.reduceMul, Int.reduceNeg, Int.reduceToNat, Int.reduceTDiv, Int.reduceTMod, ↓reduceIte, t0, t3, df (show ¬ ((l.length : Nat) : Int) < (l.length : Int) by omega), hr]
theorem rnear13_ (x : Int) (H : AH) : SemCall Tryz.prog 106 [.int .i64 x] H (.bool (nearB x)) H [] := by
  refine pure_of ?_ rfl
  unfold nearB
  cases h1 : decide (-67108864 ≤ x) with
  | false =>
    refine XCal.of hm Tryz.func106 rfl (fun xs w => Tryz.call106 xs w) Tryz.ntmps106 Tryz.results106 rfl ?_
    (refine sg h1 ?_; try exact ⟨⟩)
  | true =>
    refine XCal.of hm Tryz.func106 rfl (fun xs w => Tryz.call106 xs w) Tryz.ntmps106 Tryz.results106 rfl ?_
    (refine sg h1 ?_; try exact ⟨⟩)
theorem rpaint13_ (p : Pnt) (H : AH) : SemCall Tryz.prog 87 [pntV p] H (.bool (paintB p)) H [] := by
  refine pure_of ?_ rfl
  have k1 := fun H => rnear13_ p.p.1 H
  have k2 := fun H => rnear13_ p.p.2 H
  have k3 := fun H => rnear13_ p.q.1 H
  have k4 := fun H => rnear13_ p.q.2 H
  have k5 := fun H => rnear13_ p.r H
  unfold paintB
  generalize nearB p.p.1 = p1 at *
  generalize nearB p.p.2 = p2 at *
  generalize nearB p.q.1 = p3 at *
  generalize nearB p.q.2 = p4 at *
  generalize nearB p.r = p5 at *
  cases h1 : decide (0 ≤ p.kind) with
  | false =>
    refine XCal.of hm Tryz.func87 rfl (fun xs w => Tryz.call87 xs w) Tryz.ntmps87 Tryz.results87 rfl ?_
    (refine sg h1 ?_; try exact ⟨⟩)
    repeat ((first | refine (k1 _).x ?_ | refine (k2 _).x ?_ | refine (k3 _).x ?_ | refine (k4 _).x ?_ | refine (k5 _).x ?_ | refine drawnF ?_ (by decide +kernel)); (refine sg h1 ?_; try exact ⟨⟩))
  | true =>
    cases h2 : decide (p.kind ≤ 2) with
    | false =>
      refine XCal.of hm Tryz.func87 rfl (fun xs w => Tryz.call87 xs w) Tryz.ntmps87 Tryz.results87 rfl ?_
      (refine sg (et h1 h2) ?_; try exact ⟨⟩)
      repeat ((first | refine (k1 _).x ?_ | refine (k2 _).x ?_ | refine (k3 _).x ?_ | refine (k4 _).x ?_ | refine (k5 _).x ?_ | refine drawnF ?_ (by decide +kernel)); (refine sg (et h1 h2) ?_; try exact ⟨⟩))
    | true =>
      cases h3 : p1 with
      | false =>
        refine XCal.of hm Tryz.func87 rfl (fun xs w => Tryz.call87 xs w) Tryz.ntmps87 Tryz.results87 rfl ?_
        (refine sg (et h1 (et h2 h3)) ?_; try exact ⟨⟩)
        repeat ((first | refine (k1 _).x ?_ | refine (k2 _).x ?_ | refine (k3 _).x ?_ | refine (k4 _).x ?_ | refine (k5 _).x ?_ | refine drawnF ?_ (by decide +kernel)); (refine sg (et h1 (et h2 h3)) ?_; try exact ⟨⟩))
      | true =>
        cases h4 : p2 with
        | false =>
          refine XCal.of hm Tryz.func87 rfl (fun xs w => Tryz.call87 xs w) Tryz.ntmps87 Tryz.results87 rfl ?_
          (refine sg (et h1 (et h2 (et h3 h4))) ?_; try exact ⟨⟩)
          repeat ((first | refine (k1 _).x ?_ | refine (k2 _).x ?_ | refine (k3 _).x ?_ | refine (k4 _).x ?_ | refine (k5 _).x ?_ | refine drawnF ?_ (by decide +kernel)); (refine sg (et h1 (et h2 (et h3 h4))) ?_; try exact ⟨⟩))
        | true =>
          cases h5 : p3 with
          | false =>
            refine XCal.of hm Tryz.func87 rfl (fun xs w => Tryz.call87 xs w) Tryz.ntmps87 Tryz.results87 rfl ?_
            (refine sg (et h1 (et h2 (et h3 (et h4 h5)))) ?_; try exact ⟨⟩)
            repeat ((first | refine (k1 _).x ?_ | refine (k2 _).x ?_ | refine (k3 _).x ?_ | refine (k4 _).x ?_ | refine (k5 _).x ?_ | refine drawnF ?_ (by decide +kernel)); (refine sg (et h1 (et h2 (et h3 (et h4 h5)))) ?_; try exact ⟨⟩))
          | true =>
            cases h6 : p4 with
            | false =>
              refine XCal.of hm Tryz.func87 rfl (fun xs w => Tryz.call87 xs w) Tryz.ntmps87 Tryz.results87 rfl ?_
              (refine sg (et h1 (et h2 (et h3 (et h4 (et h5 h6))))) ?_; try exact ⟨⟩)
              repeat ((first | refine (k1 _).x ?_ | refine (k2 _).x ?_ | refine (k3 _).x ?_ | refine (k4 _).x ?_ | refine (k5 _).x ?_ | refine drawnF ?_ (by decide +kernel)); (refine sg (et h1 (et h2 (et h3 (et h4 (et h5 h6))))) ?_; try exact ⟨⟩))
            | true =>
              refine XCal.of hm Tryz.func87 rfl (fun xs w => Tryz.call87 xs w) Tryz.ntmps87 Tryz.results87 rfl ?_
              (refine sg (et h1 (et h2 (et h3 (et h4 (et h5 h6))))) ?_; try exact ⟨⟩)
              repeat ((first | refine (k1 _).x ?_ | refine (k2 _).x ?_ | refine (k3 _).x ?_ | refine (k4 _).x ?_ | refine (k5 _).x ?_ | refine drawnF ?_ (by decide +kernel)); (refine sg (et h1 (et h2 (et h3 (et h4 (et h5 h6))))) ?_; try exact ⟨⟩))
end Go.Proofs.YtlcdbangmbdlcaaGreat
