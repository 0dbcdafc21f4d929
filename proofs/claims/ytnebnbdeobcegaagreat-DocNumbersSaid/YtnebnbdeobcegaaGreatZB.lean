/- Merged texts: Odd2 Tells1 Tells2 RdDoc. -/
import Derived.Test.YtnebnbdeobcegaaGreatZA
/- Documents: the walks of what turns a document. -/
namespace Go.Proofs.YtnebnbdeobcegaaGreat
open Go Go.RowKit E
attribute [local irreducible] XRun XOps XCode XCal XLoop XQ SemCall
set_option linter.unusedSimpArgs false
set_option linter.unusedVariables false
/-- A row that doesn't hang on block q. -/
theorem row_apart {α : Type} {s : Nat} {E : AH → List Value → α → Prop} {p : Nat → Prop} {K : AH} {v : Value} {l : List α} (h : ∀ J, OlP p K J → RowOf s E J v l) :
    (l = [] ∧ ((∃ e, v = .slice (some ⟨0, 0, none⟩) 0 e) ∨ v = .slice none 0 0)) ∨
    ∃ b g rest rw_, ∃ cs : List (List Value), ¬ p b ∧ v = sl b 0 g l.length s ∧ K[b]? = some ⟨cs.flatten ++ rest, g, rw_⟩ ∧ cs.length = l.length ∧ l.length ≤ 9223372036854775807 ∧
      ∀ (i : Nat) x, l[i]? = some x → ∃ c, cs[i]? = some c ∧ c.length = s ∧ ∀ J, OlP p K J → E J c x := by
  rcases h K (OlP.refl _ _) with h0 | ⟨b, g, rest, rw_, cs, h1, h2, h3, h4, h5⟩
  · exact .inl h0
  · have hb : ¬ p b := fun hbq => by
      have hl := (List.getElem?_eq_some_iff.1 h2).1
      rcases h (K.set b ⟨[], g + 1, false⟩) (fun c k hc e => by rw [List.getElem?_set_ne (fun (h : b = c) => hc (h ▸ hbq))]; exact e) with ⟨_, ⟨e, h6⟩ | h6⟩ | ⟨b', g', r', w', cs', h6, h7, _⟩
      · rw [h1] at h6; cases h6
      · rw [h1] at h6; cases h6
      · rw [h1] at h6
        obtain ⟨rfl, rfl⟩ := sl_inj h6
        rw [List.getElem?_set_self hl] at h7
        simp at h7
    refine .inr ⟨b, g, rest, rw_, cs, hb, h1, h2, h3, h4, fun i x hx => ?_⟩
    obtain ⟨c, e1, e2, _⟩ := h5 i x hx
    refine ⟨c, e1, e2, fun J hJ => ?_⟩
    rcases h J hJ with ⟨h6, _⟩ | ⟨b', g', r', w', cs', h6, h7, h8, _, h9⟩
    · rw [h6] at hx; simp at hx
    · rw [h1] at h6
      obtain ⟨rfl, rfl⟩ := sl_inj h6
      rw [hJ _ _ hb h2] at h7
      have h10 : cs.flatten ++ rest = cs'.flatten ++ r' := by injection h7 with h7; injection h7
      have h11 := flat_inj (by rw [h3, h8]) (RowOf.all h3 h5) (RowOf.all h8 h9) h10
      subst h11
      obtain ⟨c', f1, _, f3⟩ := h9 i x hx
      rw [e1] at f1
      cases f1
      exact f3
theorem asrc_row {α : Type} {s : Nat} {E : AH → List Value → α → Prop} {p : Nat → Prop} {H : AH} {v : Value} {l : List α} (h : ∀ J, OlP p H J → RowOf s E J v l) : ∃ (cs : List (List Value)) (bs : List Nat), cs.length = l.length ∧ cs.flatten.length = l.length * s ∧ (∀ (i : Nat) x, l[i]? = some x → ∃ c, cs[i]? = some c ∧ c.length = s ∧ ∀ J, OlP p H J → E J c x) ∧ (∀ b ∈ bs, b < H.length) ∧ ∀ J, Old H J → asrc J s v = some (cs.flatten, l.length, bs) := by
  rcases row_apart h with ⟨rfl, ⟨e, rfl⟩ | rfl⟩ | ⟨b, g, rest, rw_, cs, _, rfl, h2, h3, h4, h5⟩
  · exact ⟨[], [], rfl, by simp, fun i x hx => by simp at hx, fun b hb => by simp at hb, fun J _ => asrc_zs⟩
  · exact ⟨[], [], rfl, by simp, fun i x hx => by simp at hx, fun b hb => by simp at hb, fun J _ => asrc_nil⟩
  · have hfl := flatten_len (RowOf.all (P := fun c x => ∀ J, OlP p H J → E J c x) h3 h5)
    rw [h3] at hfl
    by_cases hn : l.length = 0
    · have hl : l = [] := List.eq_nil_of_length_eq_zero hn
      subst hl
      have hc : cs = [] := List.eq_nil_of_length_eq_zero (by simpa using h3)
      subst hc
      refine ⟨[], [], rfl, by simp, fun i x hx => by simp at hx, fun b hb => by simp at hb, fun J oJ => ?_⟩
      show asrc J s (sl b 0 g 0 s) = some ([], 0, [])
      rw [asrc_sl, asy_zero]
    · refine ⟨cs, [b], h3, hfl, h5, fun b' hb' => by rw [List.mem_singleton.1 hb']; exact (List.getElem?_eq_some_iff.1 h2).1, fun J oJ => ?_⟩
      rw [asrc_sl, oJ _ _ h2, asy_some (eq_false hn) (by rw [List.length_append, hfl]; omega), List.drop_zero, ← hfl, List.take_left]
/-- How great a document is, that was turned k times. -/
structure DcN (k : Nat) (d : Dc) : Prop where
  n : d.comps.length ≤ 3 + k
  c : ∀ c ∈ d.comps, c.length ≤ 4 * 2 ^ k ∧ ∀ l ∈ c, LyN (100 + k) l
theorem app_mid {H A B L : AH} (hl : A.length = B.length) {c : Nat} (hc : H.length + A.length ≤ c) : (H ++ A ++ L)[c]? = (H ++ B ++ L)[c]? := by
  rw [List.getElem?_append_right (by rw [List.length_append]; omega), List.getElem?_append_right (by rw [List.length_append]; omega), List.length_append, List.length_append, hl]
theorem ald_el {s : Nat} {cs : List (List Value)} {i : Nat} {c : List Value} (h : ∀ c ∈ cs, c.length = s) (hi : cs[i]? = some c) (g : Nat) (rw_ : Bool) (b : Nat) : ald (some true) (some s) (some ⟨cs.flatten, g, rw_⟩) b (i * s) g = some (.agg c.toArray, b) := by
  have h1 := flatten_drop h hi
  have hc := h c (List.mem_of_getElem? hi)
  have hil := (List.getElem?_eq_some_iff.1 hi).1
  have h2 : i * s + s ≤ cs.flatten.length := by
    rw [flatten_len h]
    have : (i + 1) * s ≤ cs.length * s := Nat.mul_le_mul_right s hil
    rw [Nat.add_mul, Nat.one_mul] at this; exact this
  simp only [ald, true_and, h2, if_true]
  rw [h1, ← hc, List.take_left]
theorem pow_le4 {k : Nat} (hk : k ≤ 4) : 2 ^ k ≤ 16 := by
  have : k = 0 ∨ k = 1 ∨ k = 2 ∨ k = 3 ∨ k = 4 := by omega
  rcases this with rfl | rfl | rfl | rfl | rfl <;> decide
theorem DcN.s {k : Nat} {d : Dc} (h : DcN k d) (hk : k ≤ 4) : DcS d :=
  ⟨by have := h.n; omega, fun c hc => ⟨by have := (h.c c hc).1; have := pow_le4 hk; omega, fun l hl => ((h.c c hc).2 l hl).s (by omega)⟩⟩
theorem DcN.up {k : Nat} {d : Dc} (h : DcN k d) : DcN (k + 1) d :=
  ⟨by have := h.n; omega, fun c hc => ⟨by have := (h.c c hc).1; rw [Nat.pow_succ]; omega, fun l hl => ((h.c c hc).2 l hl).up (by omega)⟩⟩
theorem DcB.smallN {d : Dc} (h : DcB d) : DcN 0 d := by
  refine ⟨by have := h.n; omega, fun c hc => ?_⟩
  obtain ⟨i, hi⟩ := List.getElem?_of_mem hc
  obtain ⟨h1, h2, h3⟩ := h.cs i c hi
  refine ⟨by omega, fun l hl => ?_⟩
  obtain ⟨j, hj⟩ := List.getElem?_of_mem hl
  obtain ⟨ah, h4, _⟩ := h1 j l hj
  exact h4.smallN.up (by omega)
theorem DcS.m {d : Dc} (h : DcS d) : DcM d := fun c hc l hl => ((h.c c hc).2 l hl).m
/-- One comp of it another one. -/
theorem DcN.set {k : Nat} {d : Dc} (h : DcN k d) {i : Nat} {ls : List Ly} (h1 : ls.length ≤ 4 * 2 ^ (k + 1)) (h2 : ∀ l ∈ ls, LyN (100 + (k + 1)) l) : DcN (k + 1) { d with comps := d.comps.set i ls } := by
  refine ⟨by have := h.n; show (d.comps.set i ls).length ≤ _; rw [List.length_set]; omega, fun c hc => ?_⟩
  rcases List.mem_or_eq_of_mem_set hc with hc | rfl
  · exact h.up.c c hc
  · exact ⟨h1, h2⟩
set_option maxRecDepth 100000 in
set_option maxHeartbeats 16000000 in
theorem odd_ (k : Nat) (hk : k ≤ 3) (d : Dc) (cv : Value) (a b c N : Int) (p : Nat → Prop) (H : AH) (h : ∀ J, OlP p H J → Cos J cv d.comps) (hN : DcN k d) :
    Cal Tryz.prog 23 [dcV d cv, .agg [.int .i64 a, .int .i64 b, .int .i64 c, .int .i64 N].toArray] H fun v' H' W => W = [] ∧ (∃ L, H' = H ++ L) ∧ ∃ d' cw, v' = dcV d' cw ∧ (∀ J, OlP p H J → (∀ (c : Nat) (k : Blk), H.length ≤ c → H'[c]? = some k → J[c]? = some k) → Cos J cw d'.comps) ∧ DcN (k + 1) d' := by
  refine adds_of ?_
  have kd : ∀ n, decide (H.length + n < H.length) = false := fun n => df (by omega)
  have kd0 : decide (H.length < H.length) = false := df (by omega)
  obtain ⟨cs0, bs, e1, e2, e3, e4, e5⟩ := asrc_row h
  have hn := hN.n
  have hp := pow_le4 (show k ≤ 4 by omega)
  refine XCal.of hm Tryz.func23 rfl (fun xs w => Tryz.call23 xs w) Tryz.ntmps23 Tryz.results23 rfl ?_
  refine wcode_cut (fun T K D => D = [] ∧ T 2 = ap H.length 0 0 ∧ T 3 = ap (H.length + 1) 0 0 ∧ T 4 = ap (H.length + 2) 0 0 ∧ K = H ++ [⟨[.int .i64 d.in_, .int .i64 d.out, cv], 0, true⟩, ⟨[.int .i64 a, .int .i64 b, .int .i64 c, .int .i64 N], 0, true⟩, ⟨[.int .i64 0, .int .i64 0, .slice none 0 0], 0, true⟩]) ?_ ?_
  · (refine sg (et kd kd0) ?_; try exact ⟨⟩)
  rintro T K D ⟨rfl, t2, t3, t4, rfl⟩
  refine wcode_cut (fun T K D => D = [] ∧ T 2 = ap H.length 0 0 ∧ T 3 = ap (H.length + 1) 0 0 ∧ T 4 = ap (H.length + 2) 0 0 ∧ ∃ g, K = H ++ [⟨[.int .i64 d.in_, .int .i64 d.out, sl (H.length + 3) 0 g d.comps.length 1], 0, true⟩, ⟨[.int .i64 a, .int .i64 b, .int .i64 c, .int .i64 N], 0, true⟩, ⟨[.int .i64 0, .int .i64 0, .slice none 0 0], 0, true⟩, ⟨cs0.flatten, g, true⟩]) ?_ ?_
  · obtain ⟨va, ve, hv⟩ := (h H (OlP.refl _ _)).form
    have nb : ∀ k, H.length + k ∉ bs := fun k hb => by have := e4 _ hb; omega
    by_cases h0 : d.comps.length = 0
    · have hc0 : cs0.flatten = [] := List.eq_nil_of_length_eq_zero (by rw [e2, h0])
      have e5' : ∀ L, asrc (H ++ L) 1 cv = some ([], 0, bs) := fun L => by rw [e5 _ (Old.app' _ _), hc0, h0]
      (refine sg (et t2 (et t3 (et t4 (et e5' (et kd (et kd0 Nat.zero_mul)))))) ?_; try exact ⟨⟩)
      exact ⟨0, by rw [h0, hc0]⟩
    · have e5' : ∀ L, asrc (H ++ L) 1 cv = some (cs0.flatten, d.comps.length, bs) := fun L => e5 _ (Old.app' _ _)
      have hp3 : d.comps.length * 24 - 140737488355328 = 0 := Nat.sub_eq_zero_of_le (Nat.le_trans (Nat.mul_le_mul_right 24 (show d.comps.length ≤ 1000 by omega)) (by decide))
      have hp4 : d.comps.length - 140737488355328 = 0 := Nat.sub_eq_zero_of_le (Nat.le_trans (show d.comps.length ≤ 1000 by omega) (by decide))
      (refine sg (et t2 (et t3 (et t4 (et e5' (et kd (et kd0 (et Nat.zero_mul (et Nat.zero_add (et (eq_false h0) (et hp3 hp4)))))))))) ?_; try exact ⟨⟩)
      exact ⟨1, rfl⟩
  clear t2 t3 t4
  rintro T K D ⟨rfl, t2, t3, t4, g, rfl⟩
  have o : ∀ L, Old H (H ++ L) := fun L => Old.app' H L
  have hmod : (a.tmod 9 == 8) = true ∨ (a.tmod 9 == 8) = false := by cases (a.tmod 9 == 8) <;> simp
  have hcp : ∀ J : AH, OlP p H J → J[H.length + 3]? = some ⟨cs0.flatten, g, true⟩ → Cos J (sl (H.length + 3) 0 g d.comps.length 1) d.comps := fun J oJ hJ =>
    .inr ⟨H.length + 3, g, [], true, cs0, rfl, by rw [List.append_nil]; exact hJ, e1, by omega, fun i x hx => by obtain ⟨c, g1, g2, g3⟩ := e3 i x hx; exact ⟨c, g1, g2, g3 J oJ⟩⟩
  by_cases hbr : (a.tmod 9 == 8) = true ∨ d.comps.length = 0
  · obtain ⟨w, hw, ka⟩ := kat_ (IntKind.i64.wrap (a.tdiv 9)) 4 (by omega) (by omega)
    have ka : ∀ H, SemCall Tryz.prog 61 [.int .i64 (IntKind.i64.wrap (a.tdiv 9)), .int .i64 4] H (.int .i64 (w : Int)) H [] := ka
    have hl0 : (a.tmod 9 == 8) = false → ((d.comps.length : Int) == 0) = true := fun e => by
      rcases hbr with hb | hb
      · rw [hb] at e; cases e
      · exact bt (by omega)
    have hcase : w = 0 ∨ w = 1 ∨ w = 2 ∨ w = 3 := by omega
    have hp5 : (d.comps.length + 1) * 24 - 140737488355328 = 0 := Nat.sub_eq_zero_of_le (Nat.le_trans (Nat.mul_le_mul_right 24 (show d.comps.length + 1 ≤ 1001 by omega)) (by decide))
    have hp6 : d.comps.length + 1 - 140737488355328 = 0 := Nat.sub_eq_zero_of_le (Nat.le_trans (show d.comps.length + 1 ≤ 1001 by omega) (by decide))
    have fin : ∀ (x1 x2 : Int), DcN (k + 1) ⟨x1, x2, d.comps⟩ := fun x1 x2 => ⟨hN.up.n, hN.up.c⟩
    rcases hmod with hm8 | hm8
    case' inr => have hl0 := hl0 hm8
    case' inl => have hl0 := True.intro
    all_goals
      rcases hcase with rfl | rfl | rfl | rfl
      · (refine sg (et t2 (et t3 (et t4 (et hm8 hl0)))) ?_; try exact ⟨⟩)
        refine (ka _).x ?_
        (refine sg (et t2 (et t3 (et t4 (et kd kd0)))) ?_; try exact ⟨⟩)
        exact ⟨⟨N, d.out, d.comps⟩, _, rfl, fun J oJ hJ => hcp J oJ (hJ _ _ (by omega) (by first | rfl | (rw [hget_app]; rfl))), fin _ _⟩
      · (refine sg (et t2 (et t3 (et t4 (et hm8 hl0)))) ?_; try exact ⟨⟩)
        refine (ka _).x ?_
        (refine sg (et t2 (et t3 (et t4 (et kd kd0)))) ?_; try exact ⟨⟩)
        exact ⟨⟨d.in_, N, d.comps⟩, _, rfl, fun J oJ hJ => hcp J oJ (hJ _ _ (by omega) (by first | rfl | (rw [hget_app]; rfl))), fin _ _⟩
      · (refine sg (et t2 (et t3 (et t4 (et hm8 hl0)))) ?_; try exact ⟨⟩)
        refine (ka _).x ?_
        (refine sg (et t2 (et t3 (et t4 (et kd (et kd0 (et e2 (et Nat.mul_one (et hp5 hp6)))))))) ?_; try exact ⟨⟩)
        refine ⟨⟨d.in_, d.out, d.comps ++ [[]]⟩, _, rfl, ?_, ?_⟩
        · intro J oJ hJ
          show Cos J (sl (H.length + 3) 0 (g + 1) (d.comps.length + 1) 1) (d.comps ++ [[]])
          have : (d.comps ++ [[]]).length = d.comps.length + 1 := by rw [List.length_append]; rfl
          rw [← this]
          refine .inr ⟨H.length + 3, g + 1, [], true, cs0 ++ [[.slice none 0 0]], rfl, ?_, ?_, by omega, fun i x hx => ?_⟩
          · rw [List.append_nil, List.flatten_append, List.flatten_singleton]; exact hJ _ _ (by omega) (by first | rfl | (rw [hget_app]; rfl))
          · rw [List.length_append, List.length_append, e1]; rfl
          · by_cases hi : i < d.comps.length
            · rw [List.getElem?_append_left hi] at hx
              rw [List.getElem?_append_left (by omega)]
              obtain ⟨c, g1, g2, g3⟩ := e3 i x hx
              exact ⟨c, g1, g2, g3 J oJ⟩
            · have hi2 : i = d.comps.length := by have hh := (List.getElem?_eq_some_iff.1 hx).1; rw [List.length_append] at hh; simp at hh; omega
              subst hi2
              rw [List.getElem?_append_right (by omega), Nat.sub_self] at hx
              simp at hx; subst hx
              exact ⟨_, by rw [List.getElem?_append_right (by omega), e1, Nat.sub_self]; rfl, rfl, _, rfl, RowOf.none⟩
        · refine ⟨by show (d.comps ++ [[]]).length ≤ _; rw [List.length_append]; simp; omega, fun x hx => ?_⟩
          rcases List.mem_append.1 hx with hx | hx
          · exact hN.up.c x hx
          · rw [List.mem_singleton.1 hx]; exact ⟨by simp, fun l hl => by cases hl⟩
      · (refine sg (et t2 (et t3 (et t4 (et hm8 hl0)))) ?_; try exact ⟨⟩)
        refine (ka _).x ?_
        (refine sg (et t2 (et t3 (et t4 (et kd kd0)))) ?_; try exact ⟨⟩)
        exact ⟨⟨d.in_, d.out, []⟩, _, rfl, fun J _ _ => RowOf.none, ⟨by show [].length ≤ _; simp, fun x hx => by cases hx⟩⟩
  have hm8 : (a.tmod 9 == 8) = false := by
    rcases hmod with h | h
    · exact absurd (.inl h) hbr
    · exact h
  have h0 : ¬ d.comps.length = 0 := fun e => hbr (.inr e)
  have hl0 : ((d.comps.length : Int) == 0) = false := bf (by omega)
  obtain ⟨ic, hic, kc⟩ := kat_ b d.comps.length (by omega) (by omega)
  obtain ⟨x, hx⟩ : ∃ x, d.comps[ic]? = some x := ⟨_, List.getElem?_eq_getElem hic⟩
  obtain ⟨cc, hcc, hcl, hcx⟩ := e3 ic x hx
  obtain ⟨lv, rfl, _⟩ := hcx H (OlP.refl _ _)
  have hlv : ∀ J, OlP p H J → Lys J lv x := fun J oJ => by
    obtain ⟨lv', he, hr⟩ := hcx J oJ
    simp only [List.cons.injEq, and_true] at he
    rw [he]; exact hr
  have hxb := hN.c x (List.mem_of_getElem? hx)
  obtain ⟨cs1, bs1, f1, f2, f3, f4, f5⟩ := asrc_row hlv
  have hall0 : ∀ c ∈ cs0, c.length = 1 := RowOf.all (P := fun c x => ∀ J, OlP p H J → CoE J c x) e1 e3
  have hall1 : ∀ c ∈ cs1, c.length = 50 := RowOf.all (P := fun c x => ∀ J, OlP p H J → LyE J c x) f1 f3
  have hg0 : cs0.flatten[ic]? = some lv := by
    have := flatten_get (s := 1) 0 hall0 hcc (by omega)
    rw [Nat.mul_one, Nat.add_zero] at this; exact this
  have q0 : (0 : Int) ≤ (ic : Int) := by omega
  have q1 : (ic : Int) < (d.comps.length : Int) := by omega
  by_cases hq : x.length = 0
  · have hc0 : cs1.flatten = [] := List.eq_nil_of_length_eq_zero (by rw [f2, hq])
    have f5' : ∀ L, asrc (H ++ L) 50 lv = some ([], 0, bs1) := fun L => by rw [f5 _ (Old.app' _ _), hc0, hq]
    (refine sg (et t2 (et t3 (et t4 (et hm8 hl0)))) ?_; try exact ⟨⟩)
    refine (kc _).x ?_
    (refine sg (et t2 (et t3 (et t4 (et kd (et kd0 (et q0 (et q1 (et Int.toNat_natCast (et Nat.zero_add (et Nat.zero_mul (et Nat.mul_one (et Nat.add_zero (et hg0 f5'))))))))))))) ?_; try exact ⟨⟩)
    exact ⟨d, _, rfl, fun J oJ hJ => hcp J oJ (hJ _ _ (by omega) (by first | rfl | (rw [hget_app]; rfl))), hN.up⟩
  obtain ⟨kk, hkk, kc2⟩ := kat_ c x.length (by omega) (by omega)
  obtain ⟨w3, hw3, kc3⟩ := kat_ a 23 (by omega) (by omega)
  have kc3 : ∀ H, SemCall Tryz.prog 61 [.int .i64 a, .int .i64 23] H (.int .i64 (w3 : Int)) H [] := kc3
  obtain ⟨l, hl⟩ : ∃ l, x[kk]? = some l := ⟨_, List.getElem?_eq_getElem hkk⟩
  obtain ⟨lc, hlc, hlcl, hlx⟩ := f3 kk l hl
  obtain ⟨v0, v1, v2, v3, v4, v5, v6, v7, v8, pm, vw, vh, vp, vc, vd, vda, vf, vt, rfl, _, _⟩ := hlx H (OlP.refl _ _)
  have hLS : ∀ J, OlP p H J → LyV J l v0 v1 v2 v3 v4 v5 v6 v7 v8 pm ∧ ShV J l.shape vw vh vp vc vd vda vf vt := fun J oJ => by
    obtain ⟨v0', v1', v2', v3', v4', v5', v6', v7', v8', pm', vw', vh', vp', vc', vd', vda', vf', vt', hc', h1, h2⟩ := hlx J oJ
    simp only [List.cons.injEq, true_and, and_true] at hc'
    obtain ⟨rfl, rfl, rfl, rfl, rfl, rfl, rfl, rfl, rfl, rfl, rfl, rfl, rfl, rfl, rfl, rfl, rfl, rfl⟩ := hc'
    exact ⟨h1, h2⟩
  have f5' : ∀ L, asrc (H ++ L) 50 lv = some (cs1.flatten, x.length, bs1) := fun L => f5 _ (Old.app' _ _)
  have hp3 : x.length * 608 - 140737488355328 = 0 := Nat.sub_eq_zero_of_le (Nat.le_trans (Nat.mul_le_mul_right 608 (show x.length ≤ 1000 by omega)) (by decide))
  have hp4 : x.length - 140737488355328 = 0 := Nat.sub_eq_zero_of_le (Nat.le_trans (show x.length ≤ 1000 by omega) (by decide))
  have hp5 : (x.length + x.length) * 608 - 140737488355328 = 0 := Nat.sub_eq_zero_of_le (Nat.le_trans (Nat.mul_le_mul_right 608 (show x.length + x.length ≤ 2000 by omega)) (by decide))
  have hp6 : x.length + x.length - 140737488355328 = 0 := Nat.sub_eq_zero_of_le (Nat.le_trans (show x.length + x.length ≤ 2000 by omega) (by decide))
  have p0 : (0 : Int) ≤ (kk : Int) := by omega
  have p1 : (kk : Int) < (x.length : Int) := by omega
  have hel := fun g rw_ b => ald_el hall1 hlc g rw_ b
  have kdk : ∀ n, decide (H.length + n < H.length) = false := kd
  (refine sg (et t2 (et t3 (et t4 (et hm8 hl0)))) ?_; try exact ⟨⟩)
  refine (kc _).x ?_
  (refine sg (et t2 (et t3 (et t4 (et kd (et kd0 (et q0 (et q1 (et Int.toNat_natCast (et Nat.zero_add (et Nat.zero_mul (et Nat.mul_one (et Nat.add_zero (et hg0 (et f5' (et (eq_false hq) (et hp3 (et hp4 (bf (show ¬ ((x.length : Nat) : Int) = 0 by omega))))))))))))))))))) ?_; try exact ⟨⟩)
  refine (kc2 _).x ?_
  (refine sg (et t2 (et t3 (et t4 (et kd kd0)))) ?_; try exact ⟨⟩)
  refine drawnU [(0, 7), (1, 7)] (by decide +kernel) ?_
  (refine sg (et t2 (et t3 (et t4 (et kd (et kd0 (et p0 (et p1 (et Int.toNat_natCast (et Nat.zero_add hel))))))))) ?_; try exact ⟨⟩)
  have hO5 := o [⟨[.int .i64 d.in_, .int .i64 d.out, sl (H.length + 3) 0 g d.comps.length 1], 0, true⟩, ⟨[.int .i64 a, .int .i64 b, .int .i64 c, .int .i64 N], 0, true⟩, ⟨[.int .i64 0, .int .i64 0, .slice none 0 0], 0, true⟩, ⟨cs0.flatten, g, true⟩, ⟨cs1.flatten, 1, true⟩]
  refine (oddlayer_ (100 + k) l v0 v1 v2 v3 v4 v5 v6 v7 v8 pm vw vh vp vc vd vda vf vt a b c N p H _ hO5 (fun J oJ => (hLS J oJ).1) (fun J oJ => (hLS J oJ).2) (hxb.2 l (List.mem_of_getElem? hl)) (by omega)).x ?_
  rintro v H1 W1 ⟨rfl, ⟨L, rfl⟩, l', cs', rfl, hJ, hcs', hN'⟩
  have hls' : ∀ y ∈ x.set kk l', LyN (100 + (k + 1)) y := fun y hy => by
    rcases List.mem_or_eq_of_mem_set hy with hy | rfl
    · exact (hxb.2 y hy).up (by omega)
    · exact hN'
  have hall2 : ∀ c ∈ cs1.set kk cs', c.length = 50 := fun c hc => by
    rcases List.mem_or_eq_of_mem_set hc with hc | rfl
    · exact hall1 c hc
    · exact hcs'
  have hsp : splice cs1.flatten (kk * 50) cs' = (cs1.set kk cs').flatten := by
    have := flatten_splice (s := 50) (cs := cs1) (i := kk) 0 cs' hall1 hlc (by omega)
    rw [Nat.add_zero] at this
    rw [this, splice_def, List.take_zero, List.nil_append, List.drop_eq_nil_of_le (by rw [hcs']; simp), List.append_nil]
  have hfl2 : (cs1.set kk cs').flatten.length = x.length * 50 := by rw [flatten_len hall2, List.length_set, f1]
  have hast : ∀ (J : AH) b', ast J (some ⟨cs1.flatten, 1, true⟩) (some cs') (some 50) b' (kk * 50) 1 = some (J.set b' ⟨(cs1.set kk cs').flatten, 1, true⟩, b') := fun J b' => by
    rw [ast_some (s := 50) hcs' (by rw [f2]; have := Nat.mul_le_mul_right 50 hkk; omega), hsp]
  have hast0 : ∀ (J : AH) v b', ast J (some ⟨cs0.flatten, g, true⟩) (some [v]) (some 1) b' ic g = some (J.set b' ⟨(cs0.set ic [v]).flatten, g, true⟩, b') := fun J v b' => by
    have := flatten_splice (s := 1) (cs := cs0) (i := ic) 0 [v] hall0 hcc (by simp)
    rw [Nat.mul_one, Nat.add_zero] at this
    rw [ast_some (s := 1) rfl (by rw [e2]; omega), this, splice_def]
    rfl
  have row : ∀ (J : AH) (gl : Nat) (ls' : List Ly) (ds : List (List Value)), OlP p H J → J[H.length + 3]? = some ⟨(cs0.set ic [sl (H.length + 4) 0 gl ls'.length 50]).flatten, g, true⟩ → RowOf 50 LyE J (sl (H.length + 4) 0 gl ls'.length 50) ls' → Cos J (sl (H.length + 3) 0 g d.comps.length 1) (d.comps.set ic ls') := fun J gl ls' ds oJ hb hr => by
    refine .inr ⟨H.length + 3, g, [], true, cs0.set ic [sl (H.length + 4) 0 gl ls'.length 50], by rw [List.length_set], by rw [List.append_nil]; exact hb, by rw [List.length_set, List.length_set, e1], by rw [List.length_set]; omega, fun i y hy => ?_⟩
    by_cases hi : ic = i
    · subst hi
      rw [List.getElem?_set_self (by omega)] at hy
      cases hy
      exact ⟨_, List.getElem?_set_self (by omega), rfl, _, rfl, hr⟩
    · rw [List.getElem?_set_ne hi] at hy
      obtain ⟨c, g1, g2, g3⟩ := e3 i y hy
      exact ⟨c, by rw [List.getElem?_set_ne hi]; exact g1, g2, g3 J oJ⟩
  have one : ∀ (J : AH), OlP p H J → LyE J cs' l' → ∀ (i : Nat) y, (x.set kk l')[i]? = some y → ∃ c, (cs1.set kk cs')[i]? = some c ∧ c.length = 50 ∧ LyE J c y := fun J oJ hE i y hy => by
    by_cases hi : kk = i
    · subst hi
      rw [List.getElem?_set_self (by omega)] at hy
      cases hy
      exact ⟨_, List.getElem?_set_self (by omega), hcs', hE⟩
    · rw [List.getElem?_set_ne hi] at hy
      obtain ⟨c, g1, g2, g3⟩ := f3 i y hy
      exact ⟨c, by rw [List.getElem?_set_ne hi]; exact g1, g2, g3 J oJ⟩
  simp only [go_sem, Nat.reduceEqDiff, Nat.reduceAdd, Nat.reduceSub, Nat.reduceMul, Nat.reduceLT, Nat.reduceLeDiff, Int.reducePow, Int.reduceBEq, Int.reduceBNe, Int.reduceDiv, Int.reduceMod, Int.reduceEq, Int.reduceLT, Int.reduceLE, Int.reduceAdd, Int.reduceSub, Int.reduceMul, Int.reduceNeg, Int.reduceToNat, Int.reduceTDiv, Int.reduceTMod, ↓reduceIte, t2, t3, t4, kd, kd0, p0, p1, Int.toNat_natCast, Nat.zero_add, List.append_assoc, hast]
  refine (kc3 _).x ?_
  have hE : ∀ (B : AH), B.length = 5 → ∀ J, OlP p H J → (∀ (c : Nat) (k : Blk), H.length ≤ c → (H ++ (B ++ L))[c]? = some k → J[c]? = some k) → LyE J cs' l' := fun B hB J oJ hJJ => by
    refine hJ J oJ fun c k h1 h2 => hJJ c k (by simp at h1; omega) ?_
    rw [← List.append_assoc, ← h2]
    exact app_mid (by rw [hB]; rfl) (by rw [hB]; simpa using h1)
  by_cases hw22 : w3 = 22
  · subst hw22
    have htk : (cs1.set kk cs').flatten.take (x.length * 50) = (cs1.set kk cs').flatten := List.take_of_length_le (by omega)
    have hxl : (x.set kk l' ++ x.set kk l').length = x.length + x.length := by rw [List.length_append, List.length_set]
    simp only [go_sem, Nat.reduceEqDiff, Nat.reduceAdd, Nat.reduceSub, Nat.reduceMul, Nat.reduceLT, Nat.reduceLeDiff, Int.reducePow, Int.reduceBEq, Int.reduceBNe, Int.reduceDiv, Int.reduceMod, Int.reduceEq, Int.reduceLT, Int.reduceLE, Int.reduceAdd, Int.reduceSub, Int.reduceMul, Int.reduceNeg, Int.reduceToNat, Int.reduceTDiv, Int.reduceTMod, ↓reduceIte, t2, t3, t4, kd, kd0, eq_false hq, hfl2, Nat.zero_add, List.drop_zero, Nat.sub_self, htk, hp5, hp6, q0, q1, Int.toNat_natCast, Nat.mul_one, Nat.add_zero, hast0, show ((((22 : Nat) : Int)) == 22) = true from rfl]
    have hrow := fun J => row J 2 (x.set kk l' ++ x.set kk l') []
    simp only [hxl] at hrow
    refine ⟨⟨d.in_, d.out, d.comps.set ic (x.set kk l' ++ x.set kk l')⟩, _, rfl, fun J oJ hJJ => hrow J oJ (hJJ _ _ (by omega) (by first | rfl | (rw [hget_app]; rfl))) ?_, hN.set ?_ ?_⟩
    · have hone := one J oJ (hE [⟨[.int .i64 d.in_, .int .i64 d.out, sl (H.length + 3) 0 g d.comps.length 1], 0, true⟩, ⟨[.int .i64 a, .int .i64 b, .int .i64 c, .int .i64 N], 0, true⟩, ⟨[.int .i64 d.in_, .int .i64 d.out, sl (H.length + 3) 0 g d.comps.length 1], 0, true⟩, ⟨(cs0.set ic [sl (H.length + 4) 0 2 (x.length + x.length) 50]).flatten, g, true⟩, ⟨(cs1.set kk cs').flatten ++ (cs1.set kk cs').flatten, 2, true⟩] rfl J oJ hJJ)
      refine .inr ⟨H.length + 4, 2, [], true, cs1.set kk cs' ++ cs1.set kk cs', by rw [hxl], by rw [List.append_nil, List.flatten_append]; exact hJJ _ _ (by omega) (by first | rfl | (rw [hget_app]; rfl)), by rw [hxl, List.length_append, List.length_set, f1], by omega, fun i y hy => ?_⟩
      by_cases hi : i < x.length
      · rw [List.getElem?_append_left (by rw [List.length_set]; exact hi)] at hy
        rw [List.getElem?_append_left (by rw [List.length_set, f1]; exact hi)]
        exact hone i y hy
      · rw [List.getElem?_append_right (by rw [List.length_set]; omega), List.length_set] at hy
        rw [List.getElem?_append_right (by rw [List.length_set, f1]; omega), List.length_set, f1]
        exact hone _ y hy
    · rw [hxl, Nat.pow_succ]; omega
    · intro y hy
      rcases List.mem_append.1 hy with hy | hy <;> exact hls' y hy
  · (refine sg (et t2 (et t3 (et t4 (et kd (et kd0 (et q0 (et q1 (et Int.toNat_natCast (et Nat.zero_add (et Nat.mul_one (et Nat.add_zero (et hast0 (bf (show ¬ (w3 : Int) = 22 by omega)))))))))))))) ?_; try exact ⟨⟩)
    have hxl : (x.set kk l').length = x.length := List.length_set ..
    have hrow := fun J => row J 1 (x.set kk l') []
    simp only [hxl] at hrow
    refine ⟨⟨d.in_, d.out, d.comps.set ic (x.set kk l')⟩, _, rfl, fun J oJ hJJ => hrow J oJ (hJJ _ _ (by omega) (by first | rfl | (rw [hget_app]; rfl))) ?_, hN.set ?_ ?_⟩
    · have hone := one J oJ (hE [⟨[.int .i64 d.in_, .int .i64 d.out, sl (H.length + 3) 0 g d.comps.length 1], 0, true⟩, ⟨[.int .i64 a, .int .i64 b, .int .i64 c, .int .i64 N], 0, true⟩, ⟨[.int .i64 d.in_, .int .i64 d.out, sl (H.length + 3) 0 g d.comps.length 1], 0, true⟩, ⟨(cs0.set ic [sl (H.length + 4) 0 1 x.length 50]).flatten, g, true⟩, ⟨(cs1.set kk cs').flatten, 1, true⟩] rfl J oJ hJJ)
      exact .inr ⟨H.length + 4, 1, [], true, cs1.set kk cs', by rw [hxl], by rw [List.append_nil]; exact hJJ _ _ (by omega) (by first | rfl | (rw [hget_app]; rfl)), by rw [hxl, List.length_set, f1], by omega, hone⟩
    · rw [hxl, Nat.pow_succ]; omega
    · exact hls'
end Go.Proofs.YtnebnbdeobcegaaGreat
/- Documents: the walks of Odd, of same. -/
namespace Go.Proofs.YtnebnbdeobcegaaGreat
open Go Go.RowKit E
attribute [local irreducible] XRun XOps XCode XCal XLoop XQ SemCall
set_option linter.unusedSimpArgs false
set_option linter.unusedVariables false
structure Tn where
  what : Int
  comp : Int
  lay : Int
  n : Int
abbrev tnC (t : Tn) : List Value := [.int .i64 t.what, .int .i64 t.comp, .int .i64 t.lay, .int .i64 t.n]
def TnE (_ : AH) (c : List Value) (t : Tn) : Prop := c = tnC t
abbrev Tns (K : AH) (v : Value) (l : List Tn) : Prop := RowOf 4 TnE K v l
theorem DcN.four {i : Nat} {d : Dc} (h : DcN i d) (hi : i ≤ 4) : DcN 4 d := by
  have : i = 0 ∨ i = 1 ∨ i = 2 ∨ i = 3 ∨ i = 4 := by omega
  rcases this with rfl | rfl | rfl | rfl | rfl
  · exact h.up.up.up.up
  · exact h.up.up.up
  · exact h.up.up
  · exact h.up
  · exact h
set_option maxHeartbeats 8000000 in
theorem Odd_ (d : Dc) (cv tv : Value) (ts : List Tn) (p0 : Nat → Prop) (H : AH) (h : ∀ J, OlP p0 H J → Cos J cv d.comps) (hN : DcN 0 d) (ht : Tns H tv ts) :
    Cal Tryz.prog 8 [dcV d cv, tv] H fun v' H' W => W = [] ∧ (∃ L, H' = H ++ L) ∧ ∃ d' cw, v' = dcV d' cw ∧ (∀ J, OlP p0 H J → (∀ (c : Nat) (k : Blk), H.length ≤ c → H'[c]? = some k → J[c]? = some k) → Cos J cw d'.comps) ∧ DcN 4 d' := by
  refine adds_of ?_
  have kd : ∀ n, decide (H.length + n < H.length) = false := fun n => df (by omega)
  have kd0 : decide (H.length < H.length) = false := df (by omega)
  have htl := ht.len
  obtain ⟨ta, te, htf⟩ := ht.form
  subst htf
  obtain ⟨p, hp⟩ : ∃ p : Nat → Prop, p = fun c => (p0 c ∧ c < H.length) ∨ c = H.length ∨ c = H.length + 1 := ⟨_, rfl⟩
  have hpn : ∀ c, (c < H.length ∧ ¬ p0 c) ∨ H.length + 2 ≤ c → ¬ p c := fun c hc hh => by
    rw [hp] at hh
    rcases hh with ⟨h1, h2⟩ | hh | hh
    · rcases hc with hc | hc
      · exact hc.2 h1
      · omega
    · omega
    · omega
  have hpy : ∀ c, ¬ p c → c ≠ H.length ∧ c ≠ H.length + 1 := fun c hc => ⟨fun e => hc (by rw [hp]; exact .inr (.inl e)), fun e => hc (by rw [hp]; exact .inr (.inr e))⟩
  refine XCal.of hm Tryz.func8 rfl (fun xs w => Tryz.call8 xs w) Tryz.ntmps8 Tryz.results8 rfl ?_
  (refine sg (et kd kd0) ?_; try exact ⟨⟩)
  refine keep (fun r T K D => D = [] ∧ ∃ (i : Nat) (d' : Dc) (cw : Value), i + r = 4 ∧ Old H K ∧ H.length + 2 ≤ K.length ∧ K[H.length]? = some ⟨[.int .i64 d'.in_, .int .i64 d'.out, cw], 0, true⟩ ∧ K[H.length + 1]? = some ⟨[.int .i64 0, .int .i64 0, .slice none 0 0], 0, true⟩ ∧ (∀ J, OlP p K J → Cos J cw d'.comps) ∧ DcN i d' ∧ T 1 = .slice ta ts.length te ∧ T 2 = ap H.length 0 0 ∧ T 4 = ap (H.length + 1) 0 0 ∧ T 5 = .int .i64 (i : Int)) 4
    ⟨rfl, 0, d, cv, by omega, Old.app' _ _, by simp, by rw [hget_app0]; rfl, by rw [hget_app]; rfl, fun J oJ => h J (fun c k hc e => oJ c k (hpn c (.inl ⟨(List.getElem?_eq_some_iff.1 e).1, hc⟩)) (old_get e _)), hN, by (refine sg trivial ?_; try exact ⟨⟩), by (refine sg trivial ?_; try exact ⟨⟩), by (refine sg trivial ?_; try exact ⟨⟩), by (refine sg trivial ?_; try exact ⟨⟩) <;> rfl⟩ ?_
  rintro r T K D ⟨rfl, i, d', cw, hir, o, hKl, g0, g1, hC, hD, t1, t2, t4, t5⟩
  have kdK : ∀ n, decide (K.length + n < H.length) = false := fun n => df (by omega)
  have kdK0 : decide (K.length < H.length) = false := df (by omega)
  by_cases hi : i < ts.length ∧ i < 4
  · obtain ⟨hi1, hi4⟩ := hi
    obtain ⟨t, hx⟩ : ∃ t, ts[i]? = some t := ⟨_, List.getElem?_eq_getElem hi1⟩
    obtain ⟨b, g, cells, rw_, c, hve, hb, hc, hcl, hle, hld, hgt⟩ := ht.at hx
    have hc : c = tnC t := hc
    subst hc
    have kb := o _ _ hb
    rw [hve] at t1
    have q0 : (0 : Int) ≤ (i : Int) := by omega
    have q1 : (i : Int) < (ts.length : Int) := by omega
    have q2 : (i : Int) < 4 := by omega
    have w1 : IntKind.i64.wrap ((i : Int) + 1) = ((i + 1 : Nat) : Int) := by rw [wi (by omega) (by omega)]; rfl
    (refine sg (et t1 (et t2 (et t4 (et t5 (et (dt q1) (dt q2)))))) ?_; try exact ⟨⟩)
    first | refine drawnF ?_ (by decide +kernel) | refine drawnU [] (by decide +kernel) ?_
    (refine sg (et t1 (et t2 (et t4 (et t5 (et q0 (et q1 (et Int.toNat_natCast (et Nat.zero_add (et g0 (et kb hld)))))))))) ?_; try exact ⟨⟩)
    refine (odd_ i (by omega) d' cw t.what t.comp t.lay t.n p K hC hD).x ?_
    rintro v H1 W1 ⟨rfl, ⟨L, rfl⟩, d2, cw2, rfl, hC2, hD2⟩
    have gK := old_get g0 L
    have hlt : H.length < (K ++ L).length := by rw [List.length_append]; omega
    have hO2 : ∀ X, Old H ((K ++ L).set H.length X) := fun X c k e => by
      have := (List.getElem?_eq_some_iff.1 e).1
      exact Olx.set0 _ _ _ c k (by omega) (old_get (o _ _ e) L)
    obtain ⟨wa, we, hwf⟩ := (hC2 (K ++ L) (OlP.old (Old.app' K L)) (fun c k _ e => e)).form
    subst hwf
    (refine sg (et t1 (et t2 (et t4 (et t5 (et gK (et kd0 w1)))))) ?_; try exact ⟨⟩)
    refine ⟨r - 1, by omega, i + 1, d2, _, by omega, hO2 _, by omega, List.getElem?_set_self hlt, Olx.set0 _ _ _ _ _ (by omega) (old_get g1 L), fun J oJ => ?_, hD2, hve.symm, rfl⟩
    refine hC2 J (fun c k hc e => oJ c k hc (Olx.set0 _ _ _ _ _ (hpy c hc).1 (old_get e L))) fun c k hc e => oJ c k (hpn c (.inr (by omega))) (Olx.set0 _ _ _ _ _ (by omega) e)
  · have fin : ∀ X J, OlP p0 H J → (∀ (c : Nat) (k : Blk), H.length ≤ c → (K.set (H.length + 1) X)[c]? = some k → J[c]? = some k) → Cos J cw d'.comps := fun X J oJ hJ => hC J fun c k hc e => by
      by_cases hcl : c < H.length
      · obtain ⟨k', hk'⟩ : ∃ k', H[c]? = some k' := ⟨_, List.getElem?_eq_getElem hcl⟩
        have := o c k' hk'
        rw [e] at this; cases this
        exact oJ c k (fun hh => hc (by rw [hp]; exact .inl ⟨hh, hcl⟩)) hk'
      · exact hJ c k (by omega) (by rw [List.getElem?_set_ne (fun h => (hpy c hc).2 h.symm)]; exact e)
    have hD4 := hD.four (by omega)
    have g9 : ∀ X, (K.set (H.length + 1) X)[H.length + 1]? = some X := fun X => List.getElem?_set_self (by omega)
    have kd1 : decide (H.length + 1 < H.length) = false := df (by omega)
    by_cases h1 : i < ts.length
    · (refine sg (et t1 (et t2 (et t4 (et t5 (et (dt (show (i : Int) < (ts.length : Int) by omega)) (et (df (show ¬ (i : Int) < 4 by omega)) (et g0 (et g1 (et g9 kd1))))))))) ?_; try exact ⟨⟩)
      exact ⟨d', cw, rfl, fin _, hD4⟩
    · (refine sg (et t1 (et t2 (et t4 (et t5 (et (df (show ¬ (i : Int) < (ts.length : Int) by omega)) (et g0 (et g1 (et g9 kd1)))))))) ?_; try exact ⟨⟩)
      exact ⟨d', cw, rfl, fin _, hD4⟩
set_option maxRecDepth 100000 in
set_option maxHeartbeats 8000000 in
theorem same18_ (d : Dc) (cv : Value) (H : AH) (h : Cos H cv d.comps) (hz : DcS d) : SemCall Tryz.prog 7 [dcV d cv] H (.bool true) H [] := by
  refine pure_of ?_ rfl
  obtain ⟨ca, ce, hcf⟩ := h.form
  subst hcf
  have kd : ∀ n, decide (H.length + n < H.length) = false := fun n => df (by omega)
  have kd0 : decide (H.length < H.length) = false := df (by omega)
  have hn := hz.n
  have o1 := Old.app' H [(⟨[.int .i64 d.in_, .int .i64 d.out, .slice ca d.comps.length ce], 0, true⟩ : Blk)]
  have g0 : (H ++ [(⟨[.int .i64 d.in_, .int .i64 d.out, .slice ca d.comps.length ce], 0, true⟩ : Blk)])[H.length]? = some ⟨[.int .i64 d.in_, .int .i64 d.out, .slice ca d.comps.length ce], 0, true⟩ := by rw [hget_app0]; rfl
  have hKl : H.length + 1 ≤ (H ++ [(⟨[.int .i64 d.in_, .int .i64 d.out, .slice ca d.comps.length ce], 0, true⟩ : Blk)]).length := by simp
  refine XCal.of hm Tryz.func7 rfl (fun xs w => Tryz.call7 xs w) Tryz.ntmps7 Tryz.results7 rfl ?_
  (refine sg (et kd kd0) ?_; try exact ⟨⟩)
  generalize H ++ [(⟨[.int .i64 d.in_, .int .i64 d.out, .slice ca d.comps.length ce], 0, true⟩ : Blk)] = K at *
  have hK := h.old CoE.m o1
  have c1 := dright_ d _ K hK
  have c2 := rright18_ d _ K hK hz.m
  first | refine drawnF ?_ (by decide +kernel) | refine drawnU [(1, 2)] (by decide +kernel) ?_
  (refine sg g0 ?_; try exact ⟨⟩)
  refine c1.x ?_
  (refine sg g0 ?_; try exact ⟨⟩)
  refine c2.x ?_
  simp only [go_sem, Nat.reduceEqDiff, Nat.reduceAdd, Nat.reduceSub, Nat.reduceMul, Nat.reduceLT, Nat.reduceLeDiff, Int.reducePow, Int.reduceBEq, Int.reduceBNe, Int.reduceDiv, Int.reduceMod, Int.reduceEq, Int.reduceLT, Int.reduceLE, Int.reduceAdd, Int.reduceSub, Int.reduceMul, Int.reduceNeg, Int.reduceToNat, Int.reduceTDiv, Int.reduceTMod, ↓reduceIte, bne_self_eq_false]
  refine keep (fun r T K' D => D = [] ∧ K = K' ∧ ∃ i : Nat, i + r = 11 ∧ T 1 = ap H.length 0 0 ∧ T 3 = .int .i64 ((i : Int) - 1)) 11
    ⟨rfl, rfl, 0, by omega, by (refine sg trivial ?_; try exact ⟨⟩), by (refine sg trivial ?_; try exact ⟨⟩) <;> rfl⟩ ?_
  clear c1 c2
  rintro r T K' D ⟨rfl, rfl, i, hir, t1, t3⟩
  by_cases hi : ((i : Int) - 1 ≤ (d.comps.length : Int)) ∧ (i : Int) - 1 < 9
  · obtain ⟨hi1, hi2⟩ := hi
    have w1 : IntKind.i64.wrap ((i : Int) - 1 + 1) = ((i + 1 : Nat) : Int) - 1 := by rw [wi (by omega) (by omega)]; omega
    have c1 := nodes_ d _ ((i : Int) - 1) K hK hn
    have c2 := rnodes_ d _ ((i : Int) - 1) K hK hn
    have c3 := deep_ d _ ((i : Int) - 1) K hK hn
    have c4 := rdeep_ d _ ((i : Int) - 1) K hK hn
    (refine sg (et t1 (et t3 (et g0 (et (dt hi1) (dt hi2))))) ?_; try exact ⟨⟩)
    first | refine drawnF ?_ (by decide +kernel) | refine drawnU [(2, 3), (2, 4), (10, 11), (10, 12)] (by decide +kernel) ?_
    (refine sg (et t1 (et t3 g0)) ?_; try exact ⟨⟩)
    refine c1.x ?_
    (refine sg (et t1 (et t3 g0)) ?_; try exact ⟨⟩)
    refine c2.x ?_
    simp only [go_sem, Nat.reduceEqDiff, Nat.reduceAdd, Nat.reduceSub, Nat.reduceMul, Nat.reduceLT, Nat.reduceLeDiff, Int.reducePow, Int.reduceBEq, Int.reduceBNe, Int.reduceDiv, Int.reduceMod, Int.reduceEq, Int.reduceLT, Int.reduceLE, Int.reduceAdd, Int.reduceSub, Int.reduceMul, Int.reduceNeg, Int.reduceToNat, Int.reduceTDiv, Int.reduceTMod, ↓reduceIte, t1, t3, g0, bne_self_eq_false]
    refine c3.x ?_
    (refine sg (et t1 (et t3 g0)) ?_; try exact ⟨⟩)
    refine c4.x ?_
    simp only [go_sem, Nat.reduceEqDiff, Nat.reduceAdd, Nat.reduceSub, Nat.reduceMul, Nat.reduceLT, Nat.reduceLeDiff, Int.reducePow, Int.reduceBEq, Int.reduceBNe, Int.reduceDiv, Int.reduceMod, Int.reduceEq, Int.reduceLT, Int.reduceLE, Int.reduceAdd, Int.reduceSub, Int.reduceMul, Int.reduceNeg, Int.reduceToNat, Int.reduceTDiv, Int.reduceTMod, ↓reduceIte, t1, t3, bne_self_eq_false, w1]
    exact ⟨r - 1, by omega, i + 1, by omega, rfl⟩
  have k1 := dsame_ d d _ _ K hK hK
  have k3 := fun L cw (hc : Cos (K ++ L) cw d.comps) => rdsame_ d d cw _ (K ++ L) hc (hK.old CoE.m (Old.app' K L))
  rw [dcQ_refl] at k1
  rcases (show (decide ((i : Int) - 1 ≤ (d.comps.length : Int)) = false ∧ True) ∨ (decide ((i : Int) - 1 ≤ (d.comps.length : Int)) = true ∧ decide ((i : Int) - 1 < 9) = false) by
    by_cases e : (i : Int) - 1 ≤ (d.comps.length : Int)
    · exact .inr ⟨dt e, df (fun e2 => hi ⟨e, e2⟩)⟩
    · exact .inl ⟨df e, trivial⟩) with ⟨e1, e2⟩ | ⟨e1, e2⟩
  all_goals
    (refine sg (et t1 (et t3 (et g0 (et e1 e2)))) ?_; try exact ⟨⟩)
    refine keep (fun r T K' D => D = [] ∧ Old K K' ∧ K.length ≤ K'.length ∧ ∃ i : Nat, i + r = d.comps.length ∧ T 1 = ap H.length 0 0 ∧ T 41 = .slice ca d.comps.length ce ∧ T 42 = .int .i64 (d.comps.length : Int) ∧ T 43 = .int .i64 (i : Int)) d.comps.length
      ⟨rfl, Old.refl _, Nat.le_refl _, 0, by omega, by (refine sg t1 ?_; try exact ⟨⟩), by (refine sg trivial ?_; try exact ⟨⟩), by (refine sg trivial ?_; try exact ⟨⟩), by (refine sg trivial ?_; try exact ⟨⟩) <;> rfl⟩ ?_
    clear t1 t3 e1 e2 hi hir
    rintro r T K' D ⟨rfl, o, hl, j, hjr, t1, t41, t42, t43⟩
    have kdK : ∀ n, decide (K'.length + n < H.length) = false := fun n => df (by omega)
    have kdK0 : decide (K'.length < H.length) = false := df (by omega)
    by_cases hj : j < d.comps.length
    · obtain ⟨c, hx⟩ : ∃ c, d.comps[j]? = some c := ⟨_, List.getElem?_eq_getElem hj⟩
      obtain ⟨b, g, cells, rw_, cc, hve, hb, ⟨lv, hc, hlv⟩, hcl, hle, hld, hgt⟩ := hK.at hx
      subst hc
      obtain ⟨la, le, hlf⟩ := hlv.form
      subst hlf
      have hcz := hz.c c (List.mem_of_getElem? hx)
      have kb := o _ _ hb
      rw [hve] at t41
      have q0 : (0 : Int) ≤ (j : Int) := by omega
      have q1 : (j : Int) < (d.comps.length : Int) := by omega
      have w1 : IntKind.i64.wrap ((j : Int) + 1) = ((j + 1 : Nat) : Int) := by rw [wi (by omega) (by omega)]; rfl
      (refine sg (et t1 (et t41 (et t42 (et t43 (et (dt q1) (et q0 (et q1 (et Int.toNat_natCast (et Nat.zero_add (et kb (et hld (et kdK kdK0)))))))))))) ?_; try exact ⟨⟩)
      refine keep (fun r T K' D => D = [] ∧ Old K K' ∧ K.length ≤ K'.length ∧ ∃ k : Nat, k + r = c.length ∧ T 1 = ap H.length 0 0 ∧ T 41 = sl b 0 g d.comps.length 1 ∧ T 42 = .int .i64 (d.comps.length : Int) ∧ T 43 = .int .i64 (j : Int) ∧ T 48 = .slice la c.length le ∧ T 49 = .int .i64 (c.length : Int) ∧ T 50 = .int .i64 (k : Int)) c.length
        ⟨rfl, o.app _, by rw [List.length_append]; omega, 0, by omega, by (refine sg t1 ?_; try exact ⟨⟩), by (refine sg t41 ?_; try exact ⟨⟩), by (refine sg t42 ?_; try exact ⟨⟩), by (refine sg t43 ?_; try exact ⟨⟩), by (refine sg trivial ?_; try exact ⟨⟩), by (refine sg trivial ?_; try exact ⟨⟩), by (refine sg trivial ?_; try exact ⟨⟩) <;> rfl⟩ ?_
      clear t1 t41 t42 t43 kb kdK kdK0 hl
      rintro r2 T K2 D ⟨rfl, o2, hl2, k, hkr, t1, t41, t42, t43, t48, t49, t50⟩
      have kdK : ∀ n, decide (K2.length + n < H.length) = false := fun n => df (by omega)
      have kdK0 : decide (K2.length < H.length) = false := df (by omega)
      by_cases hk : k < c.length
      · obtain ⟨l, hkl⟩ : ∃ l, c[k]? = some l := ⟨_, List.getElem?_eq_getElem hk⟩
        obtain ⟨b2, g2, cells2, rw2, c2, hve2, hb2, ⟨v0, v1, v2, v3, v4, v5, v6, v7, v8, pm, vw, vh, vp, vc, vd, vda, vf, vt, rfl, hLV, hSV⟩, hcl2, hle2, hld2, hgt2⟩ := hlv.at hkl
        have kb2 := o2 _ _ hb2
        rw [hve2] at t48
        have p0 : (0 : Int) ≤ (k : Int) := by omega
        have p1 : (k : Int) < (c.length : Int) := by omega
        have w2 : IntKind.i64.wrap ((k : Int) + 1) = ((k + 1 : Nat) : Int) := by rw [wi (by omega) (by omega)]; rfl
        have oo := o2.app [⟨lyVs l v0 v1 v2 v3 v4 v5 v6 v7 v8 pm vw vh vp vc vd vda vf vt, 0, true⟩]
        have c1 := layer_ l v0 v1 v2 v3 v4 v5 v6 v7 v8 pm vw vh vp vc vd vda vf vt _ (hLV.old oo) (hSV.old oo)
        have c2 := rlayer18_ l v0 v1 v2 v3 v4 v5 v6 v7 v8 pm vw vh vp vc vd vda vf vt _ (hLV.old oo) (hSV.old oo) (hcz.2 l (List.mem_of_getElem? hkl)).m
        (refine sg (et t1 (et t41 (et t42 (et t43 (et t48 (et t49 (et t50 (et (dt p1) (et p0 (et p1 (et Int.toNat_natCast (et Nat.zero_add (et kb2 (et hld2 (et kdK kdK0))))))))))))))) ?_; try exact ⟨⟩)
        first | refine drawnF ?_ (by decide +kernel) | refine drawnU [(1, 2)] (by decide +kernel) ?_
        (refine sg trivial ?_; try exact ⟨⟩)
        refine c1.x ?_
        (refine sg trivial ?_; try exact ⟨⟩)
        refine c2.x ?_
        simp only [go_sem, Nat.reduceEqDiff, Nat.reduceAdd, Nat.reduceSub, Nat.reduceMul, Nat.reduceLT, Nat.reduceLeDiff, Int.reducePow, Int.reduceBEq, Int.reduceBNe, Int.reduceDiv, Int.reduceMod, Int.reduceEq, Int.reduceLT, Int.reduceLE, Int.reduceAdd, Int.reduceSub, Int.reduceMul, Int.reduceNeg, Int.reduceToNat, Int.reduceTDiv, Int.reduceTMod, ↓reduceIte, t1, t41, t42, t43, t48, t49, t50, bne, beq_self_eq_true, Bool.not_true, w2]
        exact ⟨r2 - 1, by omega, oo, by omega, k + 1, by omega, hve2.symm, rfl⟩
      · (refine sg (et t1 (et t41 (et t42 (et t43 (et t48 (et t49 (et t50 (et (df (show ¬ (k : Int) < (c.length : Int) by omega)) w1)))))))) ?_; try exact ⟨⟩)
        exact ⟨r - 1, by omega, o2, by omega, j + 1, by omega, hve.symm, rfl⟩
    · have g0' := o _ _ g0
      have hK2 := hK.old CoE.m o
      (refine sg (et t1 (et t41 (et t42 (et t43 (df (show ¬ (j : Int) < (d.comps.length : Int) by omega)))))) ?_; try exact ⟨⟩)
      first | refine drawnF ?_ (by decide +kernel) | refine drawnU [(1, 2)] (by decide +kernel) ?_
      (refine sg (et t1 g0') ?_; try exact ⟨⟩)
      refine (copy_ d _ K' hK2 hz).x ?_
      rintro v H1 W1 ⟨rfl, ⟨L, rfl⟩, cw, rfl, hcw⟩
      have hC1 : Cos (K' ++ L) cw d.comps := hcw.here.sub fun _ _ => CoT.e
      have r1 := rdsame_ d d cw (.slice ca d.comps.length ce) (K' ++ L) hC1 (hK2.old CoE.m (Old.app' K' L))
      have r2 := dsame_ d d (.slice ca d.comps.length ce) (.slice ca d.comps.length ce) (K' ++ L) (hK2.old CoE.m (Old.app' K' L)) (hK2.old CoE.m (Old.app' K' L))
      rw [dcQ_refl] at r1 r2
      (refine sg (et t1 (old_get g0')) ?_; try exact ⟨⟩)
      refine r1.x ?_
      (refine sg (et t1 (old_get g0')) ?_; try exact ⟨⟩)
      refine r2.x ?_
      (refine sg trivial ?_; try exact ⟨⟩)
end Go.Proofs.YtnebnbdeobcegaaGreat
/- Documents: the walk of DocTells. -/
/- Documents: the walk of the tapes of DocNumbers. -/
namespace Go.Proofs.YtnebnbdeobcegaaGreat
open Go Go.RowKit E
attribute [local irreducible] XRun XOps XCode XCal XLoop XQ SemCall
set_option linter.unusedSimpArgs false
set_option linter.unusedVariables false
/-- A row of numbers that is being made. -/
def MkInts (n0 : Nat) (K : AH) (v : Value) (ls : List Int) : Prop :=
  (ls = [] ∧ v = .slice none 0 0) ∨ ∃ b g, n0 ≤ b ∧ v = sl b 0 g ls.length 1 ∧ K[b]? = some ⟨intC ls, g, true⟩
theorem intC_len (l : List Int) : (intC l).length = l.length := List.length_map ..
theorem intC_snoc (l : List Int) (x : Int) : intC l ++ [.int .i64 x] = intC (l ++ [x]) := by simp [intC]
def tapx (k i : Int) : Int := (IntKind.i64.wrap (IntKind.i64.wrap (IntKind.i64.wrap (IntKind.i64.wrap (i * i) * 7) + IntKind.i64.wrap (k * 23)) + IntKind.i64.wrap (i * k))).tmod 211
set_option maxHeartbeats 4000000 in
theorem tape18_ (k : Int) (H : AH) : Cal Tryz.prog 6 [.int .i64 k] H fun v H' W => W = [] ∧ (∃ L, H' = H ++ L) ∧ ∃ ls, Ints H' H'.length v ls := by
  refine adds_of ?_
  have kd : ∀ n, decide (H.length + n < H.length) = false := fun n => df (by omega)
  have kd0 : decide (H.length < H.length) = false := df (by omega)
  refine XCal.of hm Tryz.func6 rfl (fun xs w => Tryz.call6 xs w) Tryz.ntmps6 Tryz.results6 rfl ?_
  simp only [go_sem, Nat.reduceEqDiff, Nat.reduceAdd, Nat.reduceSub, Nat.reduceMul, Nat.reduceLT, Nat.reduceLeDiff, Int.reducePow, Int.reduceBEq, Int.reduceBNe, Int.reduceDiv, Int.reduceMod, Int.reduceEq, Int.reduceLT, Int.reduceLE, Int.reduceAdd, Int.reduceSub, Int.reduceMul, Int.reduceNeg, Int.reduceToNat, Int.reduceTDiv, Int.reduceTMod, ↓reduceIte, kd, kd0]
  refine keep (fun r T K D => D = [] ∧ ∃ (i : Nat) (ls : List Int) (v : Value), i + r = 250 ∧ ls.length = i ∧ Old H K ∧ H.length ≤ K.length ∧ T 0 = .int .i64 k ∧ T 3 = v ∧ T 4 = .int .i64 (i : Int) ∧ MkInts H.length K v ls) 250
    ⟨rfl, 0, [], _, by omega, rfl, Old.refl H, by omega, by simp only [go_sem, Nat.reduceEqDiff, Nat.reduceAdd, Nat.reduceSub, Nat.reduceMul, Nat.reduceLT, Nat.reduceLeDiff, Int.reducePow, Int.reduceBEq, Int.reduceBNe, Int.reduceDiv, Int.reduceMod, Int.reduceEq, Int.reduceLT, Int.reduceLE, Int.reduceAdd, Int.reduceSub, Int.reduceMul, Int.reduceNeg, Int.reduceToNat, Int.reduceTDiv, Int.reduceTMod, ↓reduceIte], by simp only [go_sem, Nat.reduceEqDiff, Nat.reduceAdd, Nat.reduceSub, Nat.reduceMul, Nat.reduceLT, Nat.reduceLeDiff, Int.reducePow, Int.reduceBEq, Int.reduceBNe, Int.reduceDiv, Int.reduceMod, Int.reduceEq, Int.reduceLT, Int.reduceLE, Int.reduceAdd, Int.reduceSub, Int.reduceMul, Int.reduceNeg, Int.reduceToNat, Int.reduceTDiv, Int.reduceTMod, ↓reduceIte] <;> rfl, by simp only [go_sem, Nat.reduceEqDiff, Nat.reduceAdd, Nat.reduceSub, Nat.reduceMul, Nat.reduceLT, Nat.reduceLeDiff, Int.reducePow, Int.reduceBEq, Int.reduceBNe, Int.reduceDiv, Int.reduceMod, Int.reduceEq, Int.reduceLT, Int.reduceLE, Int.reduceAdd, Int.reduceSub, Int.reduceMul, Int.reduceNeg, Int.reduceToNat, Int.reduceTDiv, Int.reduceTMod, ↓reduceIte] <;> rfl, .inl ⟨rfl, rfl⟩⟩ ?_
  rintro r T K D ⟨rfl, i, ls, v, hir, hl, o, hKl, t0, t3, t4, hM⟩
  have kdK : ∀ n, decide (K.length + n < H.length) = false := fun n => df (by omega)
  have kdK0 : decide (K.length < H.length) = false := df (by omega)
  by_cases hi : i < 250
  · have w1 : IntKind.i64.wrap ((i : Int) + 1) = ((i + 1 : Nat) : Int) := by rw [wi (by omega) (by omega)]; rfl
    rcases hM with ⟨rfl, rfl⟩ | ⟨b, g, hb, rfl, hk⟩
    · simp only [go_sem, Nat.reduceEqDiff, Nat.reduceAdd, Nat.reduceSub, Nat.reduceMul, Nat.reduceLT, Nat.reduceLeDiff, Int.reducePow, Int.reduceBEq, Int.reduceBNe, Int.reduceDiv, Int.reduceMod, Int.reduceEq, Int.reduceLT, Int.reduceLE, Int.reduceAdd, Int.reduceSub, Int.reduceMul, Int.reduceNeg, Int.reduceToNat, Int.reduceTDiv, Int.reduceTMod, ↓reduceIte, t0, t3, t4, dt (show (i : Int) < 250 by omega), kdK, kdK0, w1]
      exact ⟨r - 1, by omega, i + 1, [tapx k i], _, by omega, by simp at hl; simp [← hl], o.trans (Old.app' _ _), by omega, rfl, rfl, .inr ⟨_, _, by omega, rfl, by rw [hget_app]; rfl⟩⟩
    · have hbl := (List.getElem?_eq_some_iff.1 hk).1
      have hcl := intC_len ls
      have hsm : (ls.length + 1) * 8 - 140737488355328 = 0 := Nat.sub_eq_zero_of_le (Nat.le_trans (Nat.mul_le_mul_right 8 (show ls.length + 1 ≤ 250 by omega)) (by decide))
      have hsm2 : ls.length + 1 - 140737488355328 = 0 := Nat.sub_eq_zero_of_le (Nat.le_trans (show ls.length + 1 ≤ 250 by omega) (by decide))
      have db0 : decide (b < H.length) = false := df (by omega)
      have hmul : ls.length * 1 = (intC ls).length := by rw [hcl, Nat.mul_one]
      simp only [go_sem, Nat.reduceEqDiff, Nat.reduceAdd, Nat.reduceSub, Nat.reduceMul, Nat.reduceLT, Nat.reduceLeDiff, Int.reducePow, Int.reduceBEq, Int.reduceBNe, Int.reduceDiv, Int.reduceMod, Int.reduceEq, Int.reduceLT, Int.reduceLE, Int.reduceAdd, Int.reduceSub, Int.reduceMul, Int.reduceNeg, Int.reduceToNat, Int.reduceTDiv, Int.reduceTMod, ↓reduceIte, t0, t3, t4, dt (show (i : Int) < 250 by omega), kdK, kdK0, w1, old_get hk, old_set hk, hsm, hsm2, db0, hmul]
      refine ⟨r - 1, by omega, i + 1, ls ++ [tapx k i], _, by omega, by rw [List.length_append, hl]; rfl, fun c k' e => Olx.set1 _ _ _ _ c k' (by have := (List.getElem?_eq_some_iff.1 e).1; omega) (o c k' e), by omega, rfl, rfl, .inr ⟨b, g + 1, hb, by rw [List.length_append]; rfl, ?_⟩⟩
      rw [← intC_snoc]
      exact old_sget hk _ _
  · have hi : i = 250 := by omega
    simp only [go_sem, Nat.reduceEqDiff, Nat.reduceAdd, Nat.reduceSub, Nat.reduceMul, Nat.reduceLT, Nat.reduceLeDiff, Int.reducePow, Int.reduceBEq, Int.reduceBNe, Int.reduceDiv, Int.reduceMod, Int.reduceEq, Int.reduceLT, Int.reduceLE, Int.reduceAdd, Int.reduceSub, Int.reduceMul, Int.reduceNeg, Int.reduceToNat, Int.reduceTDiv, Int.reduceTMod, ↓reduceIte, t0, t3, t4, df (show ¬ (i : Int) < 250 by omega), kdK, kdK0]
    rcases hM with ⟨rfl, rfl⟩ | ⟨b, g, hb, rfl, hk⟩
    · exact ⟨[], .inl ⟨rfl, .inr rfl⟩⟩
    · have hbl := (List.getElem?_eq_some_iff.1 hk).1
      exact ⟨ls, .inr ⟨b, g, [], true, rfl, by omega, by rw [List.append_nil]; exact hk, by omega⟩⟩
end Go.Proofs.YtnebnbdeobcegaaGreat
/- Documents: the walk of DocNumbers. -/
namespace Go.Proofs.YtnebnbdeobcegaaGreat
open Go Go.RowKit E
attribute [local irreducible] XRun XOps XCode XCal XLoop XQ SemCall
set_option linter.unusedSimpArgs false
set_option linter.unusedVariables false
/-- A layer without rows. -/
def lyG (k p c o : Int) : Ly := ⟨k, p, c, 0, 0, o, 0, [], [], [], [], [], [], [], [], [], (false, []), sh00⟩
def lyGV (k p c o : Int) : List Value := lyVs (lyG k p c o) nl nl nl nl nl nl nl nl nl nl nl nl nl nl nl nl nl nl
theorem lyG_E (k p c o : Int) (K : AH) : LyE K (lyGV k p c o) (lyG k p c o) :=
  ⟨_, _, _, _, _, _, _, _, _, _, _, _, _, _, _, _, _, _, rfl, ⟨RowOf.none, RowOf.none, RowOf.none, RowOf.none, RowOf.none, RowOf.none, RowOf.none, RowOf.none, RowOf.none, .inl ⟨rfl, .inr rfl⟩⟩, ShV.zero K⟩
theorem lyG_S (k p c o : Int) : LyS (lyG k p c o) := by
  constructor <;> simp [lyG, sh00]
/-- Comps of such layers. -/
structure CsG (cs : List (List Ly)) : Prop where
  c : ∀ c ∈ cs, c.length ≤ 1000 ∧ ∀ l ∈ c, LyS l
theorem CsG.nil : CsG [] := ⟨fun c h => by cases h⟩
theorem CsG.snoc {cs : List (List Ly)} {l : List Ly} (h : CsG cs) (h1 : l.length ≤ 1000) (h2 : ∀ x ∈ l, LyS x) : CsG (cs ++ [l]) := ⟨fun c hc => by
  rcases List.mem_append.1 hc with hc | hc
  · exact h.c c hc
  · cases List.mem_singleton.1 hc; exact ⟨h1, h2⟩⟩
theorem CsG.set {cs : List (List Ly)} {l : List Ly} (h : CsG cs) (h1 : l.length ≤ 1000) (h2 : ∀ x ∈ l, LyS x) (i : Nat) : CsG (cs.set i l) := ⟨fun c hc => by
  rcases List.mem_or_eq_of_mem_set hc with hc | rfl
  · exact h.c c hc
  · exact ⟨h1, h2⟩⟩
theorem mem_snoc {P : Ly → Prop} {l : List Ly} {x : Ly} (h : ∀ y ∈ l, P y) (hx : P x) : ∀ y ∈ l ++ [x], P y := fun y hy => by
  rcases List.mem_append.1 hy with hy | hy
  · exact h y hy
  · cases List.mem_singleton.1 hy; exact hx
/-- The parts of a row that is being made. -/
def El {α : Type} (s : Nat) (E : AH → List Value → α → Prop) (n0 b : Nat) (K : AH) (cs : List (List Value)) (l : List α) : Prop :=
  cs.length = l.length ∧ ∀ (i : Nat) x, l[i]? = some x → ∃ c, cs[i]? = some c ∧ c.length = s ∧ Dex n0 b K (fun J => E J c x)
theorem El.olx {α : Type} {s : Nat} {E : AH → List Value → α → Prop} {n0 b : Nat} {K J : AH} {cs : List (List Value)} {l : List α} (h : El s E n0 b K cs l) (o : Olx b K J) : El s E n0 b J cs l :=
  ⟨h.1, fun i x hx => by obtain ⟨c, e1, e2, e3⟩ := h.2 i x hx; exact ⟨c, e1, e2, e3.olx o⟩⟩
theorem El.put {α : Type} {s : Nat} {E : AH → List Value → α → Prop} {n0 b : Nat} {J : AH} {cs : List (List Value)} {l : List α} (h : El s E n0 b J cs l) {c : List Value} {x : α} (i : Nat) (hc : c.length = s) (hx : Dex n0 b J (fun J => E J c x)) : El s E n0 b J (cs.set i c) (l.set i x) :=
  ⟨by rw [List.length_set, List.length_set, h.1], fun j y hy => by
    by_cases hj : i = j
    · subst hj
      have hl := (List.getElem?_eq_some_iff.1 hy).1
      rw [List.length_set] at hl
      rw [List.getElem?_set_self hl] at hy
      cases hy
      exact ⟨c, List.getElem?_set_self (by rw [h.1]; exact hl), hc, hx⟩
    · rw [List.getElem?_set_ne hj] at hy ⊢
      exact h.2 j y hy⟩
theorem El.row {α : Type} {s : Nat} {E : AH → List Value → α → Prop} {n0 b g : Nat} {J : AH} {cs : List (List Value)} {l : List α} (h : El s E n0 b J cs l) (hb : n0 ≤ b) (hg : J[b]? = some ⟨cs.flatten, g, true⟩) : MkRow s E n0 J (sl b 0 g l.length s) l :=
  .inr ⟨b, g, cs, hb, rfl, hg, h.1, h.2⟩
theorem El.all {α : Type} {s : Nat} {E : AH → List Value → α → Prop} {n0 b : Nat} {K : AH} {cs : List (List Value)} {l : List α} (h : El s E n0 b K cs l) : ∀ c ∈ cs, c.length = s := RowOf.all h.1 h.2
theorem ast_put1 {V : AH} {ces : List (List Value)} {g b i : Nat} {v : Value} (h : ∀ c ∈ ces, c.length = 1) (hi : i < ces.length) : ast V (some ⟨ces.flatten, g, true⟩) (some [v]) (some 1) b (i * 1) g = some (V.set b ⟨(ces.set i [v]).flatten, g, true⟩, b) := by
  have hfl := flatten_len h
  obtain ⟨c, hc⟩ : ∃ c, ces[i]? = some c := ⟨_, List.getElem?_eq_getElem hi⟩
  have h1 := h c (List.mem_of_getElem? hc)
  have h2 := flatten_set (s := 1) 0 v h hc (by omega)
  obtain ⟨w, rfl⟩ : ∃ w, c = [w] := by
    match c, h1 with
    | [w], _ => exact ⟨w, rfl⟩
  have h2 : ces.flatten.set i v = (ces.set i [v]).flatten := by simpa using h2
  rw [ast_some (s := 1) (cs := [v]) rfl (by omega), splice_def, Nat.mul_one, List.append_assoc, List.length_singleton, set_splice _ _ _ (by omega), h2]
set_option maxHeartbeats 8000000 in
theorem docnumbers (H : AH) : SemCall Tryz.prog 3 [] H (.bool true) H [] := by
  refine pure_of ?_ rfl
  refine XCal.of hm Tryz.func3 rfl (fun xs w => Tryz.call3 xs w) Tryz.ntmps3 Tryz.results3 rfl ?_
  simp only [go_sem, Nat.reduceEqDiff, Nat.reduceAdd, Nat.reduceSub, Nat.reduceMul, Nat.reduceLT, Nat.reduceLeDiff, Int.reducePow, Int.reduceBEq, Int.reduceBNe, Int.reduceDiv, Int.reduceMod, Int.reduceEq, Int.reduceLT, Int.reduceLE, Int.reduceAdd, Int.reduceSub, Int.reduceMul, Int.reduceNeg, Int.reduceToNat, Int.reduceTDiv, Int.reduceTMod, ↓reduceIte]
  refine keep (fun r T K D => D = [] ∧ ∃ (i : Nat), i + r = 60 ∧ Old H K ∧ H.length ≤ K.length ∧ T 1 = .int .i64 (i : Int)) 60
    ⟨rfl, 0, by omega, Old.refl H, by omega, by simp only [go_sem, Nat.reduceEqDiff, Nat.reduceAdd, Nat.reduceSub, Nat.reduceMul, Nat.reduceLT, Nat.reduceLeDiff, Int.reducePow, Int.reduceBEq, Int.reduceBNe, Int.reduceDiv, Int.reduceMod, Int.reduceEq, Int.reduceLT, Int.reduceLE, Int.reduceAdd, Int.reduceSub, Int.reduceMul, Int.reduceNeg, Int.reduceToNat, Int.reduceTDiv, Int.reduceTMod, ↓reduceIte] <;> rfl⟩ ?_
  rintro r T K D ⟨rfl, i, hir, o, hKl, t1⟩
  have kdK : ∀ n, decide (K.length + n < H.length) = false := fun n => df (by omega)
  have kdK0 : decide (K.length < H.length) = false := df (by omega)
  by_cases hi : i < 60
  · have w1 : IntKind.i64.wrap ((i : Int) + 1) = ((i + 1 : Nat) : Int) := by rw [wi (by omega) (by omega)]; rfl
    simp only [go_sem, Nat.reduceEqDiff, Nat.reduceAdd, Nat.reduceSub, Nat.reduceMul, Nat.reduceLT, Nat.reduceLeDiff, Int.reducePow, Int.reduceBEq, Int.reduceBNe, Int.reduceDiv, Int.reduceMod, Int.reduceEq, Int.reduceLT, Int.reduceLE, Int.reduceAdd, Int.reduceSub, Int.reduceMul, Int.reduceNeg, Int.reduceToNat, Int.reduceTDiv, Int.reduceTMod, ↓reduceIte, t1, dt (show (i : Int) < 60 by omega), kdK, kdK0]
    refine (tape18_ (i : Int) K).x ?_
    rintro v H1 W1 ⟨rfl, ⟨L, rfl⟩, ls, hI⟩
    simp only [go_sem, Nat.reduceEqDiff, Nat.reduceAdd, Nat.reduceSub, Nat.reduceMul, Nat.reduceLT, Nat.reduceLeDiff, Int.reducePow, Int.reduceBEq, Int.reduceBNe, Int.reduceDiv, Int.reduceMod, Int.reduceEq, Int.reduceLT, Int.reduceLE, Int.reduceAdd, Int.reduceSub, Int.reduceMul, Int.reduceNeg, Int.reduceToNat, Int.reduceTDiv, Int.reduceTMod, ↓reduceIte, t1, kdK, kdK0]
    refine (kdoc_ _ hI).x ?_
    rintro v H1 W1 ⟨rfl, ⟨L2, rfl⟩, d, cv, rfl, hM, hD⟩
    have hC := (hM.dep (by have := hD.n; omega)).here
    have o2 : Old H (K ++ L ++ L2) := (o.trans (Old.app' _ _)).trans (Old.app' _ _)
    have hKl2 : H.length ≤ (K ++ L ++ L2).length := by simp; omega
    clear hM hI
    generalize K ++ L ++ L2 = V at *
    have kdV : ∀ n, decide (V.length + n < H.length) = false := fun n => df (by omega)
    have kdV0 : decide (V.length < H.length) = false := df (by omega)
    simp only [go_sem, Nat.reduceEqDiff, Nat.reduceAdd, Nat.reduceSub, Nat.reduceMul, Nat.reduceLT, Nat.reduceLeDiff, Int.reducePow, Int.reduceBEq, Int.reduceBNe, Int.reduceDiv, Int.reduceMod, Int.reduceEq, Int.reduceLT, Int.reduceLE, Int.reduceAdd, Int.reduceSub, Int.reduceMul, Int.reduceNeg, Int.reduceToNat, Int.reduceTDiv, Int.reduceTMod, ↓reduceIte, t1, kdV, kdV0]
    have oB : Old V (V ++ [(⟨[.int .i64 d.in_, .int .i64 d.out, cv], 0, true⟩ : Blk)]) := Old.app' _ _
    have gB : (V ++ [(⟨[.int .i64 d.in_, .int .i64 d.out, cv], 0, true⟩ : Blk)])[V.length]? = some ⟨[.int .i64 d.in_, .int .i64 d.out, cv], 0, true⟩ := by rw [hget_app0]; rfl
    have lB : V.length + 1 = (V ++ [(⟨[.int .i64 d.in_, .int .i64 d.out, cv], 0, true⟩ : Blk)]).length := by simp
    generalize V ++ [(⟨[.int .i64 d.in_, .int .i64 d.out, cv], 0, true⟩ : Blk)] = B at *
    refine keep (fun r2 T K2 D => D = [] ∧ ∃ (j : Nat), j + r2 = 9 ∧ Old B K2 ∧ B.length ≤ K2.length ∧ T 1 = .int .i64 (i : Int) ∧ T 2 = ap V.length 0 0 ∧ T 3 = .int .i64 ((j : Int) - 1)) 9
      ⟨rfl, 0, by omega, Old.refl _, by omega, by simp only [go_sem, Nat.reduceEqDiff, Nat.reduceAdd, Nat.reduceSub, Nat.reduceMul, Nat.reduceLT, Nat.reduceLeDiff, Int.reducePow, Int.reduceBEq, Int.reduceBNe, Int.reduceDiv, Int.reduceMod, Int.reduceEq, Int.reduceLT, Int.reduceLE, Int.reduceAdd, Int.reduceSub, Int.reduceMul, Int.reduceNeg, Int.reduceToNat, Int.reduceTDiv, Int.reduceTMod, ↓reduceIte, t1], by simp only [go_sem, Nat.reduceEqDiff, Nat.reduceAdd, Nat.reduceSub, Nat.reduceMul, Nat.reduceLT, Nat.reduceLeDiff, Int.reducePow, Int.reduceBEq, Int.reduceBNe, Int.reduceDiv, Int.reduceMod, Int.reduceEq, Int.reduceLT, Int.reduceLE, Int.reduceAdd, Int.reduceSub, Int.reduceMul, Int.reduceNeg, Int.reduceToNat, Int.reduceTDiv, Int.reduceTMod, ↓reduceIte], by simp only [go_sem, Nat.reduceEqDiff, Nat.reduceAdd, Nat.reduceSub, Nat.reduceMul, Nat.reduceLT, Nat.reduceLeDiff, Int.reducePow, Int.reduceBEq, Int.reduceBNe, Int.reduceDiv, Int.reduceMod, Int.reduceEq, Int.reduceLT, Int.reduceLE, Int.reduceAdd, Int.reduceSub, Int.reduceMul, Int.reduceNeg, Int.reduceToNat, Int.reduceTDiv, Int.reduceTMod, ↓reduceIte] <;> rfl⟩ ?_
    rintro r2 T2 K2 D ⟨rfl, j, hjr, oj, hKj, s1, s2, s3⟩
    have kdJ : ∀ n, decide (K2.length + n < H.length) = false := fun n => df (by omega)
    have kdJ0 : decide (K2.length < H.length) = false := df (by omega)
    have hCJ := hC.old CoE.m (oB.trans oj)
    have gJ := oj _ _ gB
    by_cases hj : j < 9
    · have w2 : IntKind.i64.wrap ((j : Int) - 1 + 1) = ((j : Int)) := by rw [wi (by omega) (by omega)]; omega
      have w3 : IntKind.i64.wrap ((j : Int)) = ((j : Int)) := by rw [wi (by omega) (by omega)]
      have w4 : (j : Int) = ((j + 1 : Nat) : Int) - 1 := by omega
      simp only [go_sem, Nat.reduceEqDiff, Nat.reduceAdd, Nat.reduceSub, Nat.reduceMul, Nat.reduceLT, Nat.reduceLeDiff, Int.reducePow, Int.reduceBEq, Int.reduceBNe, Int.reduceDiv, Int.reduceMod, Int.reduceEq, Int.reduceLT, Int.reduceLE, Int.reduceAdd, Int.reduceSub, Int.reduceMul, Int.reduceNeg, Int.reduceToNat, Int.reduceTDiv, Int.reduceTMod, ↓reduceIte, s1, s2, s3, dt (show (j : Int) - 1 < 8 by omega), kdJ, kdJ0, gJ, w2]
      refine (Odd_ d cv _ [⟨_, (j : Int), (i : Int), (j : Int) - 1⟩] (fun _ => False) _ (fun J oJ => hCJ.old CoE.m fun c k e => oJ c k id (old_get e _)) hD.smallN (RowOf.one (c := tnC ⟨_, _, _, _⟩) (by rw [hget_app0]; rfl) rfl rfl)).x ?_
      rintro v H1 W1 ⟨rfl, ⟨L5, rfl⟩, d5, cv5, rfl, hC5, hD5⟩
      have hC5 := hC5 _ (fun c k _ e => old_get e L5) (fun c k _ e => e)
      have o5 : Old K2 (K2 ++ [(⟨[.int .i64 ((IntKind.i64.wrap ((i : Int) * 5)).tmod 23), .int .i64 (j : Int), .int .i64 (i : Int), .int .i64 ((j : Int) - 1)], 0, true⟩ : Blk)] ++ L5) := (Old.app' _ _).trans (Old.app' _ _)
      have l5 : K2.length ≤ (K2 ++ [(⟨[.int .i64 ((IntKind.i64.wrap ((i : Int) * 5)).tmod 23), .int .i64 (j : Int), .int .i64 (i : Int), .int .i64 ((j : Int) - 1)], 0, true⟩ : Blk)] ++ L5).length := by simp
      generalize K2 ++ [(⟨[.int .i64 ((IntKind.i64.wrap ((i : Int) * 5)).tmod 23), .int .i64 (j : Int), .int .i64 (i : Int), .int .i64 ((j : Int) - 1)], 0, true⟩ : Blk)] ++ L5 = K5 at *
      have kd5 : ∀ n, decide (K5.length + n < H.length) = false := fun n => df (by omega)
      have kd50 : decide (K5.length < H.length) = false := df (by omega)
      have g5 := o5 _ _ gJ
      simp only [go_sem, Nat.reduceEqDiff, Nat.reduceAdd, Nat.reduceSub, Nat.reduceMul, Nat.reduceLT, Nat.reduceLeDiff, Int.reducePow, Int.reduceBEq, Int.reduceBNe, Int.reduceDiv, Int.reduceMod, Int.reduceEq, Int.reduceLT, Int.reduceLE, Int.reduceAdd, Int.reduceSub, Int.reduceMul, Int.reduceNeg, Int.reduceToNat, Int.reduceTDiv, Int.reduceTMod, ↓reduceIte, kd5, kd50]
      refine (same18_ d5 cv5 K5 hC5 (hD5.s (by omega))).x ?_
      simp only [go_sem, Nat.reduceEqDiff, Nat.reduceAdd, Nat.reduceSub, Nat.reduceMul, Nat.reduceLT, Nat.reduceLeDiff, Int.reducePow, Int.reduceBEq, Int.reduceBNe, Int.reduceDiv, Int.reduceMod, Int.reduceEq, Int.reduceLT, Int.reduceLE, Int.reduceAdd, Int.reduceSub, Int.reduceMul, Int.reduceNeg, Int.reduceToNat, Int.reduceTDiv, Int.reduceTMod, ↓reduceIte, s1, s2, s3, kd5, kd50, g5]
      have hCJ5 := hCJ.old CoE.m o5
      refine (Odd_ d cv _ [⟨_, 0, (i : Int), 1099511627776⟩] (fun _ => False) _ (fun J oJ => hCJ5.old CoE.m fun c k e => oJ c k id (old_get e _)) hD.smallN (RowOf.one (c := tnC ⟨_, _, _, _⟩) (by rw [hget_app0]; rfl) rfl rfl)).x ?_
      rintro v H1 W1 ⟨rfl, ⟨L6, rfl⟩, d6, cv6, rfl, hC6, hD6⟩
      have hC6 := hC6 _ (fun c k _ e => old_get e L6) (fun c k _ e => e)
      have o6 : Old K5 (K5 ++ [(⟨[.int .i64 ((i : Int).tmod 23), .int .i64 0, .int .i64 (i : Int), .int .i64 1099511627776], 0, true⟩ : Blk)] ++ L6) := (Old.app' _ _).trans (Old.app' _ _)
      have l6 : K5.length ≤ (K5 ++ [(⟨[.int .i64 ((i : Int).tmod 23), .int .i64 0, .int .i64 (i : Int), .int .i64 1099511627776], 0, true⟩ : Blk)] ++ L6).length := by simp
      generalize K5 ++ [(⟨[.int .i64 ((i : Int).tmod 23), .int .i64 0, .int .i64 (i : Int), .int .i64 1099511627776], 0, true⟩ : Blk)] ++ L6 = K6 at *
      have kd6 : ∀ n, decide (K6.length + n < H.length) = false := fun n => df (by omega)
      have kd60 : decide (K6.length < H.length) = false := df (by omega)
      simp only [go_sem, Nat.reduceEqDiff, Nat.reduceAdd, Nat.reduceSub, Nat.reduceMul, Nat.reduceLT, Nat.reduceLeDiff, Int.reducePow, Int.reduceBEq, Int.reduceBNe, Int.reduceDiv, Int.reduceMod, Int.reduceEq, Int.reduceLT, Int.reduceLE, Int.reduceAdd, Int.reduceSub, Int.reduceMul, Int.reduceNeg, Int.reduceToNat, Int.reduceTDiv, Int.reduceTMod, ↓reduceIte, kd6, kd60]
      refine (same18_ d6 cv6 K6 hC6 (hD6.s (by omega))).x ?_
      simp only [go_sem, Nat.reduceEqDiff, Nat.reduceAdd, Nat.reduceSub, Nat.reduceMul, Nat.reduceLT, Nat.reduceLeDiff, Int.reducePow, Int.reduceBEq, Int.reduceBNe, Int.reduceDiv, Int.reduceMod, Int.reduceEq, Int.reduceLT, Int.reduceLE, Int.reduceAdd, Int.reduceSub, Int.reduceMul, Int.reduceNeg, Int.reduceToNat, Int.reduceTDiv, Int.reduceTMod, ↓reduceIte, s1, s2, s3, w2, kd6, kd60]
      exact ⟨r2 - 1, by omega, j + 1, by omega, oj.trans (o5.trans o6), by omega, by rw [← w4]⟩
    · simp only [go_sem, Nat.reduceEqDiff, Nat.reduceAdd, Nat.reduceSub, Nat.reduceMul, Nat.reduceLT, Nat.reduceLeDiff, Int.reducePow, Int.reduceBEq, Int.reduceBNe, Int.reduceDiv, Int.reduceMod, Int.reduceEq, Int.reduceLT, Int.reduceLE, Int.reduceAdd, Int.reduceSub, Int.reduceMul, Int.reduceNeg, Int.reduceToNat, Int.reduceTDiv, Int.reduceTMod, ↓reduceIte, s1, s2, s3, df (show ¬ (j : Int) - 1 < 8 by omega), kdJ, kdJ0, gJ]
      refine (same18_ d cv K2 hCJ (hD.smallN.s (by omega))).x ?_
      simp only [go_sem, Nat.reduceEqDiff, Nat.reduceAdd, Nat.reduceSub, Nat.reduceMul, Nat.reduceLT, Nat.reduceLeDiff, Int.reducePow, Int.reduceBEq, Int.reduceBNe, Int.reduceDiv, Int.reduceMod, Int.reduceEq, Int.reduceLT, Int.reduceLE, Int.reduceAdd, Int.reduceSub, Int.reduceMul, Int.reduceNeg, Int.reduceToNat, Int.reduceTDiv, Int.reduceTMod, ↓reduceIte, s1, s2, s3, w1, kdJ, kdJ0, gJ]
      exact ⟨r - 1, by omega, i + 1, by omega, o2.trans (oB.trans oj), by omega, rfl⟩
  · simp only [go_sem, Nat.reduceEqDiff, Nat.reduceAdd, Nat.reduceSub, Nat.reduceMul, Nat.reduceLT, Nat.reduceLeDiff, Int.reducePow, Int.reduceBEq, Int.reduceBNe, Int.reduceDiv, Int.reduceMod, Int.reduceEq, Int.reduceLT, Int.reduceLE, Int.reduceAdd, Int.reduceSub, Int.reduceMul, Int.reduceNeg, Int.reduceToNat, Int.reduceTDiv, Int.reduceTMod, ↓reduceIte, t1, df (show ¬ (i : Int) < 60 by omega)]
    clear hi hir t1
    refine keep (fun r T K D => D = [] ∧ ∃ (n : Nat), n + r = 10 ∧ 1 ≤ n ∧ Old H K ∧ H.length ≤ K.length ∧ T 4 = .int .i64 (n : Int)) 9
      ⟨rfl, 1, by omega, by omega, o, hKl, by simp only [go_sem, Nat.reduceEqDiff, Nat.reduceAdd, Nat.reduceSub, Nat.reduceMul, Nat.reduceLT, Nat.reduceLeDiff, Int.reducePow, Int.reduceBEq, Int.reduceBNe, Int.reduceDiv, Int.reduceMod, Int.reduceEq, Int.reduceLT, Int.reduceLE, Int.reduceAdd, Int.reduceSub, Int.reduceMul, Int.reduceNeg, Int.reduceToNat, Int.reduceTDiv, Int.reduceTMod, ↓reduceIte] <;> rfl⟩ ?_
    clear o hKl
    rintro r T K D ⟨rfl, n, hnr, hn1, o, hKl, t4⟩
    by_cases hn : n < 10
    · have w1 : IntKind.i64.wrap ((n : Int) + 1) = ((n + 1 : Nat) : Int) := by rw [wi (by omega) (by omega)]; rfl
      simp only [go_sem, Nat.reduceEqDiff, Nat.reduceAdd, Nat.reduceSub, Nat.reduceMul, Nat.reduceLT, Nat.reduceLeDiff, Int.reducePow, Int.reduceBEq, Int.reduceBNe, Int.reduceDiv, Int.reduceMod, Int.reduceEq, Int.reduceLT, Int.reduceLE, Int.reduceAdd, Int.reduceSub, Int.reduceMul, Int.reduceNeg, Int.reduceToNat, Int.reduceTDiv, Int.reduceTMod, ↓reduceIte, t4, dt (show (n : Int) < 10 by omega)]
      refine keep (fun r T K D => D = [] ∧ ∃ (m : Nat), m + r = 22 ∧ Old H K ∧ H.length ≤ K.length ∧ T 4 = .int .i64 (n : Int) ∧ T 5 = .int .i64 (m : Int)) 21
        ⟨rfl, 1, by omega, o, hKl, by simp only [go_sem, Nat.reduceEqDiff, Nat.reduceAdd, Nat.reduceSub, Nat.reduceMul, Nat.reduceLT, Nat.reduceLeDiff, Int.reducePow, Int.reduceBEq, Int.reduceBNe, Int.reduceDiv, Int.reduceMod, Int.reduceEq, Int.reduceLT, Int.reduceLE, Int.reduceAdd, Int.reduceSub, Int.reduceMul, Int.reduceNeg, Int.reduceToNat, Int.reduceTDiv, Int.reduceTMod, ↓reduceIte, t4], by simp only [go_sem, Nat.reduceEqDiff, Nat.reduceAdd, Nat.reduceSub, Nat.reduceMul, Nat.reduceLT, Nat.reduceLeDiff, Int.reducePow, Int.reduceBEq, Int.reduceBNe, Int.reduceDiv, Int.reduceMod, Int.reduceEq, Int.reduceLT, Int.reduceLE, Int.reduceAdd, Int.reduceSub, Int.reduceMul, Int.reduceNeg, Int.reduceToNat, Int.reduceTDiv, Int.reduceTMod, ↓reduceIte] <;> rfl⟩ ?_
      clear o hKl
      rintro r' T K D ⟨rfl, m, hmr, o, hKl, t4, t5⟩
      have kdK : ∀ n, decide (K.length + n < H.length) = false := fun n => df (by omega)
      have kdK0 : decide (K.length < H.length) = false := df (by omega)
      by_cases hml : m < 18
      · simp only [go_sem, Nat.reduceEqDiff, Nat.reduceAdd, Nat.reduceSub, Nat.reduceMul, Nat.reduceLT, Nat.reduceLeDiff, Int.reducePow, Int.reduceBEq, Int.reduceBNe, Int.reduceDiv, Int.reduceMod, Int.reduceEq, Int.reduceLT, Int.reduceLE, Int.reduceAdd, Int.reduceSub, Int.reduceMul, Int.reduceNeg, Int.reduceToNat, Int.reduceTDiv, Int.reduceTMod, ↓reduceIte, t4, t5, dt (show (m : Int) < 18 by omega), kdK, kdK0]
        have oB : Old K (K ++ [(⟨[.int .i64 0, .int .i64 1, nl], 0, true⟩ : Blk)]) := Old.app' _ _
        have gB : (K ++ [(⟨[.int .i64 0, .int .i64 1, nl], 0, true⟩ : Blk)])[K.length]? = some ⟨[.int .i64 0, .int .i64 1, nl], 0, true⟩ := by rw [hget_app0]; rfl
        have lB : (K ++ [(⟨[.int .i64 0, .int .i64 1, nl], 0, true⟩ : Blk)]).length = K.length + 1 := by simp
        generalize K ++ [(⟨[.int .i64 0, .int .i64 1, nl], 0, true⟩ : Blk)] = B at *
        refine keep (fun r T J D => D = [] ∧ ∃ (c : Nat) (cs : List (List Ly)) (cv : Value), c + r = n ∧ cs.length = c ∧ CsG cs ∧ Old K J ∧ K.length + 1 ≤ J.length ∧ J[K.length]? = some ⟨[.int .i64 0, .int .i64 1, cv], 0, true⟩ ∧ MkRow 1 CoE (K.length + 1) J cv cs ∧ T 4 = .int .i64 (n : Int) ∧ T 5 = .int .i64 (m : Int) ∧ T 6 = ap K.length 0 0 ∧ T 7 = .int .i64 (c : Int)) n
          ⟨rfl, 0, [], nl, by omega, rfl, CsG.nil, oB, by omega, gB, .inl ⟨rfl, rfl⟩, by simp only [go_sem, Nat.reduceEqDiff, Nat.reduceAdd, Nat.reduceSub, Nat.reduceMul, Nat.reduceLT, Nat.reduceLeDiff, Int.reducePow, Int.reduceBEq, Int.reduceBNe, Int.reduceDiv, Int.reduceMod, Int.reduceEq, Int.reduceLT, Int.reduceLE, Int.reduceAdd, Int.reduceSub, Int.reduceMul, Int.reduceNeg, Int.reduceToNat, Int.reduceTDiv, Int.reduceTMod, ↓reduceIte, t4], by simp only [go_sem, Nat.reduceEqDiff, Nat.reduceAdd, Nat.reduceSub, Nat.reduceMul, Nat.reduceLT, Nat.reduceLeDiff, Int.reducePow, Int.reduceBEq, Int.reduceBNe, Int.reduceDiv, Int.reduceMod, Int.reduceEq, Int.reduceLT, Int.reduceLE, Int.reduceAdd, Int.reduceSub, Int.reduceMul, Int.reduceNeg, Int.reduceToNat, Int.reduceTDiv, Int.reduceTMod, ↓reduceIte, t5], by simp only [go_sem, Nat.reduceEqDiff, Nat.reduceAdd, Nat.reduceSub, Nat.reduceMul, Nat.reduceLT, Nat.reduceLeDiff, Int.reducePow, Int.reduceBEq, Int.reduceBNe, Int.reduceDiv, Int.reduceMod, Int.reduceEq, Int.reduceLT, Int.reduceLE, Int.reduceAdd, Int.reduceSub, Int.reduceMul, Int.reduceNeg, Int.reduceToNat, Int.reduceTDiv, Int.reduceTMod, ↓reduceIte], by simp only [go_sem, Nat.reduceEqDiff, Nat.reduceAdd, Nat.reduceSub, Nat.reduceMul, Nat.reduceLT, Nat.reduceLeDiff, Int.reducePow, Int.reduceBEq, Int.reduceBNe, Int.reduceDiv, Int.reduceMod, Int.reduceEq, Int.reduceLT, Int.reduceLE, Int.reduceAdd, Int.reduceSub, Int.reduceMul, Int.reduceNeg, Int.reduceToNat, Int.reduceTDiv, Int.reduceTMod, ↓reduceIte] <;> rfl⟩ ?_
        clear oB gB lB t4 t5
        rintro r2 T2 J D ⟨rfl, c, cs, cv, hcr, hcl, hcs, oJ, lJ, gJ, hM, s4, s5, s6, s7⟩
        have kdJ : ∀ n, decide (J.length + n < H.length) = false := fun n => df (by omega)
        have kdJ0 : decide (J.length < H.length) = false := df (by omega)
        by_cases hc : c < n
        · have wc : IntKind.i64.wrap ((c : Int) + 1) = ((c + 1 : Nat) : Int) := by rw [wi (by omega) (by omega)]; rfl
          simp only [go_sem, Nat.reduceEqDiff, Nat.reduceAdd, Nat.reduceSub, Nat.reduceMul, Nat.reduceLT, Nat.reduceLeDiff, Int.reducePow, Int.reduceBEq, Int.reduceBNe, Int.reduceDiv, Int.reduceMod, Int.reduceEq, Int.reduceLT, Int.reduceLE, Int.reduceAdd, Int.reduceSub, Int.reduceMul, Int.reduceNeg, Int.reduceToNat, Int.reduceTDiv, Int.reduceTMod, ↓reduceIte, s4, s5, s6, s7, dt (show (c : Int) < (n : Int) by omega), kdJ, kdJ0]
          have oC : Old J (J ++ [(⟨[nl], 0, true⟩ : Blk)]) := Old.app' _ _
          have gC : (J ++ [(⟨[nl], 0, true⟩ : Blk)])[J.length]? = some ⟨[nl], 0, true⟩ := by rw [hget_app0]; rfl
          have lC : (J ++ [(⟨[nl], 0, true⟩ : Blk)]).length = J.length + 1 := by simp
          generalize J ++ [(⟨[nl], 0, true⟩ : Blk)] = B at *
          refine keep (fun r T V D => D = [] ∧ ∃ (k : Nat) (l : List Ly) (vl : Value), k + r = m ∧ l.length = k ∧ (∀ x ∈ l, LyS x) ∧ Old J V ∧ J.length + 1 ≤ V.length ∧ V[J.length]? = some ⟨[vl], 0, true⟩ ∧ MkRow 50 LyE (J.length + 1) V vl l ∧ T 4 = .int .i64 (n : Int) ∧ T 5 = .int .i64 (m : Int) ∧ T 6 = ap K.length 0 0 ∧ T 7 = .int .i64 (c : Int) ∧ T 8 = ap J.length 0 0 ∧ T 9 = .int .i64 (k : Int)) m
            ⟨rfl, 0, [], nl, by omega, rfl, (fun x hx => by cases hx), oC, by omega, gC, .inl ⟨rfl, rfl⟩, by simp only [go_sem, Nat.reduceEqDiff, Nat.reduceAdd, Nat.reduceSub, Nat.reduceMul, Nat.reduceLT, Nat.reduceLeDiff, Int.reducePow, Int.reduceBEq, Int.reduceBNe, Int.reduceDiv, Int.reduceMod, Int.reduceEq, Int.reduceLT, Int.reduceLE, Int.reduceAdd, Int.reduceSub, Int.reduceMul, Int.reduceNeg, Int.reduceToNat, Int.reduceTDiv, Int.reduceTMod, ↓reduceIte, s4], by simp only [go_sem, Nat.reduceEqDiff, Nat.reduceAdd, Nat.reduceSub, Nat.reduceMul, Nat.reduceLT, Nat.reduceLeDiff, Int.reducePow, Int.reduceBEq, Int.reduceBNe, Int.reduceDiv, Int.reduceMod, Int.reduceEq, Int.reduceLT, Int.reduceLE, Int.reduceAdd, Int.reduceSub, Int.reduceMul, Int.reduceNeg, Int.reduceToNat, Int.reduceTDiv, Int.reduceTMod, ↓reduceIte, s5], by simp only [go_sem, Nat.reduceEqDiff, Nat.reduceAdd, Nat.reduceSub, Nat.reduceMul, Nat.reduceLT, Nat.reduceLeDiff, Int.reducePow, Int.reduceBEq, Int.reduceBNe, Int.reduceDiv, Int.reduceMod, Int.reduceEq, Int.reduceLT, Int.reduceLE, Int.reduceAdd, Int.reduceSub, Int.reduceMul, Int.reduceNeg, Int.reduceToNat, Int.reduceTDiv, Int.reduceTMod, ↓reduceIte, s6], by simp only [go_sem, Nat.reduceEqDiff, Nat.reduceAdd, Nat.reduceSub, Nat.reduceMul, Nat.reduceLT, Nat.reduceLeDiff, Int.reducePow, Int.reduceBEq, Int.reduceBNe, Int.reduceDiv, Int.reduceMod, Int.reduceEq, Int.reduceLT, Int.reduceLE, Int.reduceAdd, Int.reduceSub, Int.reduceMul, Int.reduceNeg, Int.reduceToNat, Int.reduceTDiv, Int.reduceTMod, ↓reduceIte, s7], by simp only [go_sem, Nat.reduceEqDiff, Nat.reduceAdd, Nat.reduceSub, Nat.reduceMul, Nat.reduceLT, Nat.reduceLeDiff, Int.reducePow, Int.reduceBEq, Int.reduceBNe, Int.reduceDiv, Int.reduceMod, Int.reduceEq, Int.reduceLT, Int.reduceLE, Int.reduceAdd, Int.reduceSub, Int.reduceMul, Int.reduceNeg, Int.reduceToNat, Int.reduceTDiv, Int.reduceTMod, ↓reduceIte], by simp only [go_sem, Nat.reduceEqDiff, Nat.reduceAdd, Nat.reduceSub, Nat.reduceMul, Nat.reduceLT, Nat.reduceLeDiff, Int.reducePow, Int.reduceBEq, Int.reduceBNe, Int.reduceDiv, Int.reduceMod, Int.reduceEq, Int.reduceLT, Int.reduceLE, Int.reduceAdd, Int.reduceSub, Int.reduceMul, Int.reduceNeg, Int.reduceToNat, Int.reduceTDiv, Int.reduceTMod, ↓reduceIte] <;> rfl⟩ ?_
          clear oC gC lC s4 s5 s6 s7
          rintro r3 T3 V D ⟨rfl, k, l, vl, hkr, hll, hls, oV, lV, gV, hMl, s4, s5, s6, s7, s8, s9⟩
          have kdV : ∀ n, decide (V.length + n < H.length) = false := fun n => df (by omega)
          have kdV0 : decide (V.length < H.length) = false := df (by omega)
          have kdj : decide (J.length < H.length) = false := df (by omega)
          by_cases hk : k < m
          · have wk : IntKind.i64.wrap ((k : Int) + 1) = ((k + 1 : Nat) : Int) := by rw [wi (by omega) (by omega)]; rfl
            rcases hMl with ⟨rfl, rfl⟩ | ⟨bo, go, ces, hbo, rfl, hkb, hces, hel⟩
            · simp only [go_sem, Nat.reduceEqDiff, Nat.reduceAdd, Nat.reduceSub, Nat.reduceMul, Nat.reduceLT, Nat.reduceLeDiff, Int.reducePow, Int.reduceBEq, Int.reduceBNe, Int.reduceDiv, Int.reduceMod, Int.reduceEq, Int.reduceLT, Int.reduceLE, Int.reduceAdd, Int.reduceSub, Int.reduceMul, Int.reduceNeg, Int.reduceToNat, Int.reduceTDiv, Int.reduceTMod, ↓reduceIte, s4, s5, s6, s7, s8, s9, dt (show (k : Int) < (m : Int) by omega), kdV, kdV0, kdj, gV, old_get gV, wk, wc]
              have hM3 : MkRow 50 LyE (J.length + 1) (V ++ [⟨lyGV 1 (-1) ((c + 1 : Nat) : Int) 1, 0, true⟩, ⟨lyGV 1 (-1) ((c + 1 : Nat) : Int) 1, 0, true⟩]) (sl (V.length + 1) 0 0 1 50) [lyG 1 (-1) ((c + 1 : Nat) : Int) 1] :=
                MkRow.first (c := lyGV 1 (-1) ((c + 1 : Nat) : Int) 1) (fun J' _ => lyG_E _ _ _ _ _) rfl (by rw [hget_app]; rfl) (by omega)
              have hM4 := hM3.olt (Olx.set0 J.length _ ⟨[sl (V.length + 1) 0 0 1 50], 0, true⟩) (Nat.lt_succ_self _)
              exact ⟨r3 - 1, by omega, k + 1, _, _, by omega, by simp at hll; simp [← hll], (fun x hx => by cases List.mem_singleton.1 hx; exact lyG_S _ _ _ _), fun b kk e => Olx.set0 _ _ _ b kk (by have := (List.getElem?_eq_some_iff.1 e).1; omega) (old_get (oV b kk e) _), by omega, List.getElem?_set_self (by rw [List.length_append]; omega), hM4, rfl⟩
            · have hkl := (List.getElem?_eq_some_iff.1 hkb).1
              have hfl := flatten_len (RowOf.all hces hel)
              rw [hces] at hfl
              have db0 : decide (bo < H.length) = false := df (by omega)
              have hsm : (l.length + 1) * 608 - 140737488355328 = 0 := Nat.sub_eq_zero_of_le (Nat.le_trans (Nat.mul_le_mul_right 608 (show l.length + 1 ≤ 18 by omega)) (by decide))
              have hsm2 : l.length + 1 - 140737488355328 = 0 := Nat.sub_eq_zero_of_le (Nat.le_trans (show l.length + 1 ≤ 18 by omega) (by decide))
              have f1 : ∀ P L, (V.set bo P ++ L)[J.length]? = V[J.length]? := fun P L => by rw [old_get (by rw [List.getElem?_set_ne (by omega)]; exact gV) L, gV]
              have hM3 := MkRow.next (E := LyE) (n0 := J.length + 1) (K := V) (J := V.set bo ⟨ces.flatten ++ lyGV 1 (-1) ((c + 1 : Nat) : Int) 1, go + 1, true⟩ ++ [⟨lyGV 1 (-1) ((c + 1 : Nat) : Int) 1, 0, true⟩]) (x := lyG 1 (-1) ((c + 1 : Nat) : Int) 1) (g' := go + 1) hbo hces hel (Olx.set1 _ _ _ _) (fun J' _ => lyG_E _ _ _ _ _) rfl (old_sget hkb _ _)
              have hM4 := hM3.olt (Olx.set0 J.length _ ⟨[sl bo 0 (go + 1) (l.length + 1) 50], 0, true⟩) (Nat.lt_succ_self _)
              simp only [go_sem, Nat.reduceEqDiff, Nat.reduceAdd, Nat.reduceSub, Nat.reduceMul, Nat.reduceLT, Nat.reduceLeDiff, Int.reducePow, Int.reduceBEq, Int.reduceBNe, Int.reduceDiv, Int.reduceMod, Int.reduceEq, Int.reduceLT, Int.reduceLE, Int.reduceAdd, Int.reduceSub, Int.reduceMul, Int.reduceNeg, Int.reduceToNat, Int.reduceTDiv, Int.reduceTMod, ↓reduceIte, s4, s5, s6, s7, s8, s9, dt (show (k : Int) < (m : Int) by omega), kdV, kdV0, kdj, f1, gV, old_get gV, old_get hkb, old_set hkb, hfl, hsm, hsm2, db0, wk, wc]
              exact ⟨r3 - 1, by omega, k + 1, _, _, by omega, by rw [List.length_append, hll]; rfl, mem_snoc hls (lyG_S _ _ _ _), fun b kk e => Olx.set0 _ _ _ b kk (by have := (List.getElem?_eq_some_iff.1 e).1; omega) (Olx.set1 _ _ _ _ b kk (by have := (List.getElem?_eq_some_iff.1 e).1; omega) (oV b kk e)), by omega, List.getElem?_set_self (by rw [List.length_append, List.length_set]; omega), hM4, rfl⟩
          · have hkm : k = m := by omega
            have oKV : Old K V := oJ.trans oV
            have gK := oV _ _ gJ
            have hcs' := hcs.snoc (l := l) (by omega) hls
            have kdk : decide (K.length < H.length) = false := df (by omega)
            have hD := hMl.dep (by omega)
            obtain ⟨va, ve, rfl⟩ := hMl.form
            have hr' : Dep (J.length + 1) V (fun J => CoE J [.slice va l.length ve] l) := hD.map fun _ r => ⟨_, rfl, r⟩
            rcases hM with ⟨rfl, rfl⟩ | ⟨bo, go, ces, hbo, rfl, hkb, hces, hel⟩
            · have hM3 : MkRow 1 CoE (K.length + 1) (V ++ [⟨[.slice va l.length ve], 0, true⟩, ⟨[.slice va l.length ve], 0, true⟩]) (sl (V.length + 1) 0 0 1 1) [l] :=
                MkRow.first (c := [.slice va l.length ve]) ((hr'.dex (b := V.length + 1) (n0 := K.length + 1) (by omega) (.inr (by omega))).olx (Olx.old (Old.app' V _))) rfl (by rw [hget_app]; rfl) (by omega)
              have hM4 := hM3.olt (Olx.set0 K.length _ ⟨[.int .i64 0, .int .i64 1, sl (V.length + 1) 0 0 1 1], 0, true⟩) (Nat.lt_succ_self _)
              simp only [go_sem, Nat.reduceEqDiff, Nat.reduceAdd, Nat.reduceSub, Nat.reduceMul, Nat.reduceLT, Nat.reduceLeDiff, Int.reducePow, Int.reduceBEq, Int.reduceBNe, Int.reduceDiv, Int.reduceMod, Int.reduceEq, Int.reduceLT, Int.reduceLE, Int.reduceAdd, Int.reduceSub, Int.reduceMul, Int.reduceNeg, Int.reduceToNat, Int.reduceTDiv, Int.reduceTMod, ↓reduceIte, s4, s5, s6, s7, s8, s9, df (show ¬ (k : Int) < (m : Int) by omega), kdV, kdV0, kdj, kdk, gV, old_get gV, gK, old_get gK, wc]
              exact ⟨r2 - 1, by omega, c + 1, _, _, by omega, by simp at hcl; simp [← hcl], hcs', fun b kk e => Olx.set0 _ _ _ b kk (by have := (List.getElem?_eq_some_iff.1 e).1; omega) (old_get (oKV b kk e) _), by omega, List.getElem?_set_self (by rw [List.length_append]; omega), hM4, rfl⟩
            · have hkl := (List.getElem?_eq_some_iff.1 hkb).1
              have hkv := oV _ _ hkb
              have hel' : ∀ (i : Nat) (x : List Ly), cs[i]? = some x → ∃ c, ces[i]? = some c ∧ c.length = 1 ∧ Dex (K.length + 1) bo V (fun J => CoE J c x) := fun i x hx => by obtain ⟨c, e1, e2, e3⟩ := hel i x hx; exact ⟨c, e1, e2, e3.olx (Olx.old oV)⟩
              have hfl := flatten_len (RowOf.all hces hel)
              rw [hces] at hfl
              have db0 : decide (bo < H.length) = false := df (by omega)
              have hsm : (cs.length + 1) * 24 - 140737488355328 = 0 := Nat.sub_eq_zero_of_le (Nat.le_trans (Nat.mul_le_mul_right 24 (show cs.length + 1 ≤ 11 by omega)) (by decide))
              have hsm2 : cs.length + 1 - 140737488355328 = 0 := Nat.sub_eq_zero_of_le (Nat.le_trans (show cs.length + 1 ≤ 11 by omega) (by decide))
              have f1 : ∀ P L, (V.set bo P ++ L)[K.length]? = V[K.length]? := fun P L => by rw [old_get (by rw [List.getElem?_set_ne (by omega)]; exact gK) L, gK]
              have hM3 := MkRow.next (E := CoE) (n0 := K.length + 1) (K := V) (J := V.set bo ⟨ces.flatten ++ [.slice va l.length ve], go + 1, true⟩ ++ [⟨[.slice va l.length ve], 0, true⟩]) (g' := go + 1) hbo hces hel' (Olx.set1 _ _ _ _) ((hr'.dex (b := bo) (n0 := K.length + 1) (by omega) (.inl (by omega))).olx (Olx.set1 _ _ _ _)) rfl (old_sget hkv _ _)
              have hM4 := hM3.olt (Olx.set0 K.length _ ⟨[.int .i64 0, .int .i64 1, sl bo 0 (go + 1) (cs.length + 1) 1], 0, true⟩) (Nat.lt_succ_self _)
              simp only [go_sem, Nat.reduceEqDiff, Nat.reduceAdd, Nat.reduceSub, Nat.reduceMul, Nat.reduceLT, Nat.reduceLeDiff, Int.reducePow, Int.reduceBEq, Int.reduceBNe, Int.reduceDiv, Int.reduceMod, Int.reduceEq, Int.reduceLT, Int.reduceLE, Int.reduceAdd, Int.reduceSub, Int.reduceMul, Int.reduceNeg, Int.reduceToNat, Int.reduceTDiv, Int.reduceTMod, ↓reduceIte, s4, s5, s6, s7, s8, s9, df (show ¬ (k : Int) < (m : Int) by omega), kdV, kdV0, kdj, kdk, gV, old_get gV, f1, gK, old_get gK, old_get hkv, old_set hkv, hfl, hsm, hsm2, db0, wc]
              exact ⟨r2 - 1, by omega, c + 1, _, _, by omega, by rw [List.length_append, hcl]; rfl, hcs', fun b kk e => Olx.set0 _ _ _ b kk (by have := (List.getElem?_eq_some_iff.1 e).1; omega) (Olx.set1 _ _ _ _ b kk (by have := (List.getElem?_eq_some_iff.1 e).1; omega) (oKV b kk e)), by omega, List.getElem?_set_self (by rw [List.length_append, List.length_set]; omega), hM4, rfl⟩
        · have hcn : c = n := by omega
          subst hcn
          rcases hM with ⟨rfl, rfl⟩ | ⟨bo, go, ces, hbo, rfl, hkb, hces, hel⟩
          · simp at hcl; omega
          obtain ⟨i0, rfl⟩ : ∃ i0, c = i0 + 1 := ⟨c - 1, by omega⟩
          have wn : IntKind.i64.wrap (((i0 + 1 : Nat) : Int) - 1) = (i0 : Int) := by rw [wi (by omega) (by omega)]; omega
          have q0 : (0 : Int) ≤ (i0 : Int) := by omega
          have q1 : (i0 : Int) < (cs.length : Int) := by omega
          have hEl : El 1 CoE (K.length + 1) bo J ces cs := ⟨hces, hel⟩
          have hst0 := ast_put1 (V := J) (g := go) (b := bo) (i := i0) (v := nl) hEl.all (by omega)
          have hE1 := (hEl.put (c := [nl]) (x := []) i0 rfl (fun J' _ => ⟨_, rfl, RowOf.none⟩)).olx (Olx.set0 bo J ⟨(ces.set i0 [nl]).flatten, go, true⟩)
          have hcs1 := hcs.set (l := []) (by simp) (fun x hx => by cases hx) i0
          have gb1 : (J.set bo ⟨(ces.set i0 [nl]).flatten, go, true⟩)[bo]? = some ⟨(ces.set i0 [nl]).flatten, go, true⟩ := List.getElem?_set_self (List.getElem?_eq_some_iff.1 hkb).1
          have gd1 := Olx.set0 bo J ⟨(ces.set i0 [nl]).flatten, go, true⟩ _ _ (by omega) gJ
          have lJ1 : (J.set bo ⟨(ces.set i0 [nl]).flatten, go, true⟩).length = J.length := by simp
          have o1 : Old K (J.set bo ⟨(ces.set i0 [nl]).flatten, go, true⟩) := fun b kk e => Olx.set0 _ _ _ b kk (by have := (List.getElem?_eq_some_iff.1 e).1; omega) (oJ b kk e)
          generalize J.set bo ⟨(ces.set i0 [nl]).flatten, go, true⟩ = J1 at *
          simp only [go_sem, Nat.reduceEqDiff, Nat.reduceAdd, Nat.reduceSub, Nat.reduceMul, Nat.reduceLT, Nat.reduceLeDiff, Int.reducePow, Int.reduceBEq, Int.reduceBNe, Int.reduceDiv, Int.reduceMod, Int.reduceEq, Int.reduceLT, Int.reduceLE, Int.reduceAdd, Int.reduceSub, Int.reduceMul, Int.reduceNeg, Int.reduceToNat, Int.reduceTDiv, Int.reduceTMod, ↓reduceIte, s4, s5, s6, s7, df (show ¬ ((i0 + 1 : Nat) : Int) < ((i0 + 1 : Nat) : Int) by omega), kdJ, kdJ0, gJ, wn, q0, q1, Int.toNat_natCast, Nat.zero_add, hkb, hst0, gd1]
          have hM1 := hE1.row hbo gb1
          have hl1 : (cs.set i0 []).length = cs.length := List.length_set ..
          rw [hl1] at hM1
          refine (same18_ ⟨0, 1, cs.set i0 []⟩ _ J1 (hM1.dep (by omega)).here ⟨by rw [hl1]; omega, hcs1.c⟩).x ?_
          have hst1 := fun V => ast_put1 (V := V) (g := go) (b := bo) (i := i0) (v := sl J1.length 0 0 1 50) hE1.all (by rw [hE1.1]; omega)
          have kdJ : ∀ n, decide (J1.length + n < H.length) = false := fun n => df (by omega)
          have kdJ0 : decide (J1.length < H.length) = false := df (by omega)
          have db0 : decide (bo < H.length) = false := df (by omega)
          have hbl := (List.getElem?_eq_some_iff.1 gb1).1
          have gd2 : ∀ X Y, ((J1 ++ [X]).set bo Y)[K.length]? = some ⟨[.int .i64 0, .int .i64 1, sl bo 0 go cs.length 1], 0, true⟩ := fun X Y => Olx.set0 bo _ _ _ _ (by omega) (old_get gd1 _)
          have gl2 : ∀ X Y, ((J1 ++ [X]).set bo Y)[J1.length]? = some X := fun X Y => Olx.set0 bo _ _ _ _ (by omega) (by rw [hget_app0]; rfl)
          have gb2 : ∀ X Y, ((J1 ++ [X]).set bo Y)[bo]? = some Y := fun X Y => List.getElem?_set_self (by rw [List.length_append]; omega)
          have o2 : ∀ X Y, Old K ((J1 ++ [X]).set bo Y) := fun X Y b kk e => Olx.set0 _ _ _ b kk (by have := (List.getElem?_eq_some_iff.1 e).1; omega) (old_get (o1 b kk e) _)
          have hE2 : ∀ Y, El 1 CoE (K.length + 1) bo ((J1 ++ [(⟨lyGV 1 (-1) (IntKind.i64.wrap (((i0 + 1 : Nat) : Int).tdiv 2)) 1, 0, true⟩ : Blk)]).set bo Y) ((ces.set i0 [nl]).set i0 [sl J1.length 0 0 1 50]) ((cs.set i0 []).set i0 [lyG 1 (-1) (IntKind.i64.wrap (((i0 + 1 : Nat) : Int).tdiv 2)) 1]) := fun Y =>
            (hE1.olx (fun c k hc e => Olx.set0 bo _ _ _ _ hc (old_get e _))).put (c := [sl J1.length 0 0 1 50]) (x := [lyG 1 (-1) (IntKind.i64.wrap (((i0 + 1 : Nat) : Int).tdiv 2)) 1]) i0 rfl (fun J' h' => ⟨_, rfl, RowOf.one (h' _ _ (by omega) (by omega) (gl2 _ _)) rfl (lyG_E _ _ _ _ _)⟩)
          have hcs2 := hcs1.set (l := [lyG 1 (-1) (IntKind.i64.wrap (((i0 + 1 : Nat) : Int).tdiv 2)) 1]) (by simp) (fun x hx => by cases List.mem_singleton.1 hx; exact lyG_S _ _ _ _) i0
          have hl2 : ((cs.set i0 []).set i0 [lyG 1 (-1) (IntKind.i64.wrap (((i0 + 1 : Nat) : Int).tdiv 2)) 1]).length = cs.length := by rw [List.length_set, List.length_set]
          have hM2 := (hE2 _).row hbo (gb2 _ ⟨((ces.set i0 [nl]).set i0 [sl J1.length 0 0 1 50]).flatten, go, true⟩)
          rw [hl2] at hM2
          have wm : IntKind.i64.wrap ((m : Int) + 5) = ((m + 5 : Nat) : Int) := by rw [wi (by omega) (by omega)]; rfl
          simp only [go_sem, Nat.reduceEqDiff, Nat.reduceAdd, Nat.reduceSub, Nat.reduceMul, Nat.reduceLT, Nat.reduceLeDiff, Int.reducePow, Int.reduceBEq, Int.reduceBNe, Int.reduceDiv, Int.reduceMod, Int.reduceEq, Int.reduceLT, Int.reduceLE, Int.reduceAdd, Int.reduceSub, Int.reduceMul, Int.reduceNeg, Int.reduceToNat, Int.reduceTDiv, Int.reduceTMod, ↓reduceIte, s4, s5, s6, s7, kdJ, kdJ0, db0, gd1, gd2, wn, q0, q1, Int.toNat_natCast, Nat.zero_add, gb1, old_get gb1, hst1]
          refine (same18_ ⟨0, 1, (cs.set i0 []).set i0 [lyG 1 (-1) (IntKind.i64.wrap (((i0 + 1 : Nat) : Int).tdiv 2)) 1]⟩ _ _ (hM2.dep (by rw [hl2]; omega)).here ⟨by rw [hl2]; omega, hcs2.c⟩).x ?_
          simp only [go_sem, Nat.reduceEqDiff, Nat.reduceAdd, Nat.reduceSub, Nat.reduceMul, Nat.reduceLT, Nat.reduceLeDiff, Int.reducePow, Int.reduceBEq, Int.reduceBNe, Int.reduceDiv, Int.reduceMod, Int.reduceEq, Int.reduceLT, Int.reduceLE, Int.reduceAdd, Int.reduceSub, Int.reduceMul, Int.reduceNeg, Int.reduceToNat, Int.reduceTDiv, Int.reduceTMod, ↓reduceIte, s4, s5, s6, s7, kdJ, kdJ0, db0, wm]
          exact ⟨r' - 5, by omega, m + 5, by omega, o.trans (o2 _ _), by omega, rfl⟩
      · simp only [go_sem, Nat.reduceEqDiff, Nat.reduceAdd, Nat.reduceSub, Nat.reduceMul, Nat.reduceLT, Nat.reduceLeDiff, Int.reducePow, Int.reduceBEq, Int.reduceBNe, Int.reduceDiv, Int.reduceMod, Int.reduceEq, Int.reduceLT, Int.reduceLE, Int.reduceAdd, Int.reduceSub, Int.reduceMul, Int.reduceNeg, Int.reduceToNat, Int.reduceTDiv, Int.reduceTMod, ↓reduceIte, t4, t5, df (show ¬ (m : Int) < 18 by omega), w1, kdK, kdK0]
        exact ⟨r - 1, by omega, n + 1, by omega, by omega, o, hKl, rfl⟩
    · simp only [go_sem, Nat.reduceEqDiff, Nat.reduceAdd, Nat.reduceSub, Nat.reduceMul, Nat.reduceLT, Nat.reduceLeDiff, Int.reducePow, Int.reduceBEq, Int.reduceBNe, Int.reduceDiv, Int.reduceMod, Int.reduceEq, Int.reduceLT, Int.reduceLE, Int.reduceAdd, Int.reduceSub, Int.reduceMul, Int.reduceNeg, Int.reduceToNat, Int.reduceTDiv, Int.reduceTMod, ↓reduceIte, t4, df (show ¬ (n : Int) < 10 by omega)]
      refine keep (fun r T V D => D = [] ∧ ∃ (i : Nat), i + r = 7 ∧ Old H V ∧ H.length ≤ V.length ∧ V[K.length + 7]? = some ⟨[sl K.length 0 0 3 1, sl (K.length + 1) 0 0 3 1, sl (K.length + 2) 0 0 3 1, sl (K.length + 3) 0 0 3 1, sl (K.length + 4) 0 0 3 1, sl (K.length + 5) 0 0 3 1, sl (K.length + 6) 0 0 3 1], 0, true⟩ ∧ (∀ i : Nat, i < 7 → ∃ p0 p1 p2 : Int, V[K.length + i]? = some ⟨[.int .i64 p0, .int .i64 p1, .int .i64 p2], 0, true⟩) ∧ T 114 = sl (K.length + 7) 0 0 7 1 ∧ T 115 = .int .i64 7 ∧ T 116 = .int .i64 (i : Int)) 7
        ⟨rfl, 0, by omega, o.trans (Old.app' _ _), by simp; omega, by rw [hget_app]; rfl, fun i hi => ?_, by simp only [go_sem, Nat.reduceEqDiff, Nat.reduceAdd, Nat.reduceSub, Nat.reduceMul, Nat.reduceLT, Nat.reduceLeDiff, Int.reducePow, Int.reduceBEq, Int.reduceBNe, Int.reduceDiv, Int.reduceMod, Int.reduceEq, Int.reduceLT, Int.reduceLE, Int.reduceAdd, Int.reduceSub, Int.reduceMul, Int.reduceNeg, Int.reduceToNat, Int.reduceTDiv, Int.reduceTMod, ↓reduceIte], by simp only [go_sem, Nat.reduceEqDiff, Nat.reduceAdd, Nat.reduceSub, Nat.reduceMul, Nat.reduceLT, Nat.reduceLeDiff, Int.reducePow, Int.reduceBEq, Int.reduceBNe, Int.reduceDiv, Int.reduceMod, Int.reduceEq, Int.reduceLT, Int.reduceLE, Int.reduceAdd, Int.reduceSub, Int.reduceMul, Int.reduceNeg, Int.reduceToNat, Int.reduceTDiv, Int.reduceTMod, ↓reduceIte], by simp only [go_sem, Nat.reduceEqDiff, Nat.reduceAdd, Nat.reduceSub, Nat.reduceMul, Nat.reduceLT, Nat.reduceLeDiff, Int.reducePow, Int.reduceBEq, Int.reduceBNe, Int.reduceDiv, Int.reduceMod, Int.reduceEq, Int.reduceLT, Int.reduceLE, Int.reduceAdd, Int.reduceSub, Int.reduceMul, Int.reduceNeg, Int.reduceToNat, Int.reduceTDiv, Int.reduceTMod, ↓reduceIte] <;> rfl⟩ ?_
      · have h7 : i = 0 ∨ i = 1 ∨ i = 2 ∨ i = 3 ∨ i = 4 ∨ i = 5 ∨ i = 6 := by omega
        rcases h7 with rfl | rfl | rfl | rfl | rfl | rfl | rfl
        all_goals exact ⟨_, _, _, by rw [hget_app]; exact rfl⟩
      · clear o hKl
        rintro r V0 V D ⟨rfl, i, hir, o, hKl, g7, gp, t4, t5, t6⟩
        have kdV : ∀ n, decide (V.length + n < H.length) = false := fun n => df (by omega)
        have kdV0 : decide (V.length < H.length) = false := df (by omega)
        by_cases hi : i < 7
        · obtain ⟨p0, p1, p2, hp⟩ := gp i hi
          have hld : [sl K.length 0 0 3 1, sl (K.length + 1) 0 0 3 1, sl (K.length + 2) 0 0 3 1, sl (K.length + 3) 0 0 3 1, sl (K.length + 4) 0 0 3 1, sl (K.length + 5) 0 0 3 1, sl (K.length + 6) 0 0 3 1][i * 1]? = some (sl (K.length + i) 0 0 3 1) := by
            have h7 : i = 0 ∨ i = 1 ∨ i = 2 ∨ i = 3 ∨ i = 4 ∨ i = 5 ∨ i = 6 := by omega
            rcases h7 with rfl | rfl | rfl | rfl | rfl | rfl | rfl <;> rfl
          simp only [go_sem, Nat.reduceEqDiff, Nat.reduceAdd, Nat.reduceSub, Nat.reduceMul, Nat.reduceLT, Nat.reduceLeDiff, Int.reducePow, Int.reduceBEq, Int.reduceBNe, Int.reduceDiv, Int.reduceMod, Int.reduceEq, Int.reduceLT, Int.reduceLE, Int.reduceAdd, Int.reduceSub, Int.reduceMul, Int.reduceNeg, Int.reduceToNat, Int.reduceTDiv, Int.reduceTMod, ↓reduceIte, t4, t5, t6, dt (show (i : Int) < 7 by omega), kdV, kdV0, show (0 : Int) ≤ (i : Int) by omega, show (i : Int) < 7 by omega, Int.toNat_natCast, Nat.zero_add, g7, hld]
          have oB : Old V (V ++ [(⟨[nl], 0, true⟩ : Blk)]) := Old.app' _ _
          have gB : (V ++ [(⟨[nl], 0, true⟩ : Blk)])[V.length]? = some ⟨[nl], 0, true⟩ := by rw [hget_app0]; rfl
          have lB : (V ++ [(⟨[nl], 0, true⟩ : Blk)]).length = V.length + 1 := by simp
          generalize V ++ [(⟨[nl], 0, true⟩ : Blk)] = B at *
          refine keep (fun r T J D => D = [] ∧ ∃ (k : Nat) (l : List Ly) (vl : Value), k + r = 3 ∧ l.length = k ∧ (∀ x ∈ l, LyS x) ∧ Old V J ∧ V.length + 1 ≤ J.length ∧ J[V.length]? = some ⟨[vl], 0, true⟩ ∧ MkRow 50 LyE (V.length + 1) J vl l ∧ T 114 = sl (K.length + 7) 0 0 7 1 ∧ T 115 = .int .i64 7 ∧ T 116 = .int .i64 (i : Int) ∧ T 11 = sl (K.length + i) 0 0 3 1 ∧ T 12 = ap V.length 0 0 ∧ T 13 = .int .i64 (k : Int)) 3
            ⟨rfl, 0, [], nl, by omega, rfl, (fun x hx => by cases hx), oB, by omega, gB, .inl ⟨rfl, rfl⟩, by simp only [go_sem, Nat.reduceEqDiff, Nat.reduceAdd, Nat.reduceSub, Nat.reduceMul, Nat.reduceLT, Nat.reduceLeDiff, Int.reducePow, Int.reduceBEq, Int.reduceBNe, Int.reduceDiv, Int.reduceMod, Int.reduceEq, Int.reduceLT, Int.reduceLE, Int.reduceAdd, Int.reduceSub, Int.reduceMul, Int.reduceNeg, Int.reduceToNat, Int.reduceTDiv, Int.reduceTMod, ↓reduceIte, t4], by simp only [go_sem, Nat.reduceEqDiff, Nat.reduceAdd, Nat.reduceSub, Nat.reduceMul, Nat.reduceLT, Nat.reduceLeDiff, Int.reducePow, Int.reduceBEq, Int.reduceBNe, Int.reduceDiv, Int.reduceMod, Int.reduceEq, Int.reduceLT, Int.reduceLE, Int.reduceAdd, Int.reduceSub, Int.reduceMul, Int.reduceNeg, Int.reduceToNat, Int.reduceTDiv, Int.reduceTMod, ↓reduceIte, t5], by simp only [go_sem, Nat.reduceEqDiff, Nat.reduceAdd, Nat.reduceSub, Nat.reduceMul, Nat.reduceLT, Nat.reduceLeDiff, Int.reducePow, Int.reduceBEq, Int.reduceBNe, Int.reduceDiv, Int.reduceMod, Int.reduceEq, Int.reduceLT, Int.reduceLE, Int.reduceAdd, Int.reduceSub, Int.reduceMul, Int.reduceNeg, Int.reduceToNat, Int.reduceTDiv, Int.reduceTMod, ↓reduceIte, t6], by simp only [go_sem, Nat.reduceEqDiff, Nat.reduceAdd, Nat.reduceSub, Nat.reduceMul, Nat.reduceLT, Nat.reduceLeDiff, Int.reducePow, Int.reduceBEq, Int.reduceBNe, Int.reduceDiv, Int.reduceMod, Int.reduceEq, Int.reduceLT, Int.reduceLE, Int.reduceAdd, Int.reduceSub, Int.reduceMul, Int.reduceNeg, Int.reduceToNat, Int.reduceTDiv, Int.reduceTMod, ↓reduceIte], by simp only [go_sem, Nat.reduceEqDiff, Nat.reduceAdd, Nat.reduceSub, Nat.reduceMul, Nat.reduceLT, Nat.reduceLeDiff, Int.reducePow, Int.reduceBEq, Int.reduceBNe, Int.reduceDiv, Int.reduceMod, Int.reduceEq, Int.reduceLT, Int.reduceLE, Int.reduceAdd, Int.reduceSub, Int.reduceMul, Int.reduceNeg, Int.reduceToNat, Int.reduceTDiv, Int.reduceTMod, ↓reduceIte], by simp only [go_sem, Nat.reduceEqDiff, Nat.reduceAdd, Nat.reduceSub, Nat.reduceMul, Nat.reduceLT, Nat.reduceLeDiff, Int.reducePow, Int.reduceBEq, Int.reduceBNe, Int.reduceDiv, Int.reduceMod, Int.reduceEq, Int.reduceLT, Int.reduceLE, Int.reduceAdd, Int.reduceSub, Int.reduceMul, Int.reduceNeg, Int.reduceToNat, Int.reduceTDiv, Int.reduceTMod, ↓reduceIte] <;> rfl⟩ ?_
          clear oB gB lB t4 t5 t6
          rintro r2 T2 J D ⟨rfl, k, l, vl, hkr, hll, hls, oJ, lJ, gJ, hMl, s4, s5, s6, s7, s8, s9⟩
          have kdJ : ∀ n, decide (J.length + n < H.length) = false := fun n => df (by omega)
          have kdJ0 : decide (J.length < H.length) = false := df (by omega)
          have kdj : decide (V.length < H.length) = false := df (by omega)
          by_cases hk : k < 3
          · have wk : IntKind.i64.wrap ((k : Int) + 1) = ((k + 1 : Nat) : Int) := by rw [wi (by omega) (by omega)]; rfl
            obtain ⟨x, hx⟩ : ∃ x : Int, [Value.int .i64 p0, .int .i64 p1, .int .i64 p2][k * 1]? = some (.int .i64 x) := by
              have h3 : k = 0 ∨ k = 1 ∨ k = 2 := by omega
              rcases h3 with rfl | rfl | rfl <;> exact ⟨_, rfl⟩
            have gpJ := oJ _ _ hp
            have q0 : (0 : Int) ≤ (k : Int) := by omega
            have q3 : (k : Int) < 3 := by omega
            simp only [go_sem, Nat.reduceEqDiff, Nat.reduceAdd, Nat.reduceSub, Nat.reduceMul, Nat.reduceLT, Nat.reduceLeDiff, Int.reducePow, Int.reduceBEq, Int.reduceBNe, Int.reduceDiv, Int.reduceMod, Int.reduceEq, Int.reduceLT, Int.reduceLE, Int.reduceAdd, Int.reduceSub, Int.reduceMul, Int.reduceNeg, Int.reduceToNat, Int.reduceTDiv, Int.reduceTMod, ↓reduceIte, s4, s5, s6, s7, s8, s9, dt q3]
            first | refine drawnF ?_ (by decide +kernel) | refine drawnU [] (by decide +kernel) ?_
            rcases hMl with ⟨rfl, rfl⟩ | ⟨bo, go, ces, hbo, rfl, hkb, hces, hel⟩
            · simp only [go_sem, Nat.reduceEqDiff, Nat.reduceAdd, Nat.reduceSub, Nat.reduceMul, Nat.reduceLT, Nat.reduceLeDiff, Int.reducePow, Int.reduceBEq, Int.reduceBNe, Int.reduceDiv, Int.reduceMod, Int.reduceEq, Int.reduceLT, Int.reduceLE, Int.reduceAdd, Int.reduceSub, Int.reduceMul, Int.reduceNeg, Int.reduceToNat, Int.reduceTDiv, Int.reduceTMod, ↓reduceIte, s4, s5, s6, s7, s8, s9, q0, q3, Int.toNat_natCast, Nat.zero_add, gpJ, hx, kdJ, kdJ0, kdj, gJ, old_get gJ, wk]
              have hM3 : MkRow 50 LyE (V.length + 1) (J ++ [⟨lyGV 0 x 0 1, 0, true⟩, ⟨lyGV 0 x 0 1, 0, true⟩]) (sl (J.length + 1) 0 0 1 50) [lyG 0 x 0 1] :=
                MkRow.first (c := lyGV 0 x 0 1) (fun J' _ => lyG_E _ _ _ _ _) rfl (by rw [hget_app]; rfl) (by omega)
              have hM4 := hM3.olt (Olx.set0 V.length _ ⟨[sl (J.length + 1) 0 0 1 50], 0, true⟩) (Nat.lt_succ_self _)
              exact ⟨r2 - 1, by omega, k + 1, _, _, by omega, by simp at hll; simp [← hll], (fun x hx => by cases List.mem_singleton.1 hx; exact lyG_S _ _ _ _), fun b kk e => Olx.set0 _ _ _ b kk (by have := (List.getElem?_eq_some_iff.1 e).1; omega) (old_get (oJ b kk e) _), by omega, List.getElem?_set_self (by rw [List.length_append]; omega), hM4, rfl⟩
            · have hkl := (List.getElem?_eq_some_iff.1 hkb).1
              have hfl := flatten_len (RowOf.all hces hel)
              rw [hces] at hfl
              have db0 : decide (bo < H.length) = false := df (by omega)
              have hsm : (l.length + 1) * 608 - 140737488355328 = 0 := Nat.sub_eq_zero_of_le (Nat.le_trans (Nat.mul_le_mul_right 608 (show l.length + 1 ≤ 18 by omega)) (by decide))
              have hsm2 : l.length + 1 - 140737488355328 = 0 := Nat.sub_eq_zero_of_le (Nat.le_trans (show l.length + 1 ≤ 18 by omega) (by decide))
              have f1 : ∀ P L, (J.set bo P ++ L)[V.length]? = J[V.length]? := fun P L => by rw [old_get (by rw [List.getElem?_set_ne (by omega)]; exact gJ) L, gJ]
              have hM3 := MkRow.next (E := LyE) (n0 := V.length + 1) (K := J) (J := J.set bo ⟨ces.flatten ++ lyGV 0 x 0 1, go + 1, true⟩ ++ [⟨lyGV 0 x 0 1, 0, true⟩]) (x := lyG 0 x 0 1) (g' := go + 1) hbo hces hel (Olx.set1 _ _ _ _) (fun J' _ => lyG_E _ _ _ _ _) rfl (old_sget hkb _ _)
              have hM4 := hM3.olt (Olx.set0 V.length _ ⟨[sl bo 0 (go + 1) (l.length + 1) 50], 0, true⟩) (Nat.lt_succ_self _)
              simp only [go_sem, Nat.reduceEqDiff, Nat.reduceAdd, Nat.reduceSub, Nat.reduceMul, Nat.reduceLT, Nat.reduceLeDiff, Int.reducePow, Int.reduceBEq, Int.reduceBNe, Int.reduceDiv, Int.reduceMod, Int.reduceEq, Int.reduceLT, Int.reduceLE, Int.reduceAdd, Int.reduceSub, Int.reduceMul, Int.reduceNeg, Int.reduceToNat, Int.reduceTDiv, Int.reduceTMod, ↓reduceIte, s4, s5, s6, s7, s8, s9, q0, q3, Int.toNat_natCast, Nat.zero_add, gpJ, hx, kdJ, kdJ0, kdj, f1, gJ, old_get gJ, old_get hkb, old_set hkb, hfl, hsm, hsm2, db0, wk]
              exact ⟨r2 - 1, by omega, k + 1, _, _, by omega, by rw [List.length_append, hll]; rfl, mem_snoc hls (lyG_S _ _ _ _), fun b kk e => Olx.set0 _ _ _ b kk (by have := (List.getElem?_eq_some_iff.1 e).1; omega) (Olx.set1 _ _ _ _ b kk (by have := (List.getElem?_eq_some_iff.1 e).1; omega) (oJ b kk e)), by omega, List.getElem?_set_self (by rw [List.length_append, List.length_set]; omega), hM4, rfl⟩
          · have hk3 : k = 3 := by omega
            have wi1 : IntKind.i64.wrap ((i : Int) + 1) = ((i + 1 : Nat) : Int) := by rw [wi (by omega) (by omega)]; rfl
            have hC := (hMl.dep (by omega)).here
            obtain ⟨va, ve, rfl⟩ := hMl.form
            simp only [go_sem, Nat.reduceEqDiff, Nat.reduceAdd, Nat.reduceSub, Nat.reduceMul, Nat.reduceLT, Nat.reduceLeDiff, Int.reducePow, Int.reduceBEq, Int.reduceBNe, Int.reduceDiv, Int.reduceMod, Int.reduceEq, Int.reduceLT, Int.reduceLE, Int.reduceAdd, Int.reduceSub, Int.reduceMul, Int.reduceNeg, Int.reduceToNat, Int.reduceTDiv, Int.reduceTMod, ↓reduceIte, s4, s5, s6, s7, s8, s9, df (show ¬ (k : Int) < 3 by omega), kdJ, kdJ0, gJ]
            refine (same18_ ⟨0, 1, [l]⟩ (sl J.length 0 0 1 1) _ (RowOf.one (c := [.slice va l.length ve]) (by rw [hget_app0]; rfl) rfl ⟨_, rfl, hC.old LyE.m (Old.app' _ _)⟩) ⟨by simp, fun c hc => by cases List.mem_singleton.1 hc; exact ⟨by omega, hls⟩⟩).x ?_
            simp only [go_sem, Nat.reduceEqDiff, Nat.reduceAdd, Nat.reduceSub, Nat.reduceMul, Nat.reduceLT, Nat.reduceLeDiff, Int.reducePow, Int.reduceBEq, Int.reduceBNe, Int.reduceDiv, Int.reduceMod, Int.reduceEq, Int.reduceLT, Int.reduceLE, Int.reduceAdd, Int.reduceSub, Int.reduceMul, Int.reduceNeg, Int.reduceToNat, Int.reduceTDiv, Int.reduceTMod, ↓reduceIte, s4, s5, s6, s7, s8, s9, kdJ, kdJ0, wi1]
            exact ⟨r - 1, by omega, i + 1, by omega, (o.trans oJ).trans (Old.app' _ _), by omega, old_get (oJ _ _ g7) _, fun i hi => by obtain ⟨a, b, c, e⟩ := gp i hi; exact ⟨a, b, c, old_get (oJ _ _ e) _⟩, rfl⟩
        · simp only [go_sem, Nat.reduceEqDiff, Nat.reduceAdd, Nat.reduceSub, Nat.reduceMul, Nat.reduceLT, Nat.reduceLeDiff, Int.reducePow, Int.reduceBEq, Int.reduceBNe, Int.reduceDiv, Int.reduceMod, Int.reduceEq, Int.reduceLT, Int.reduceLE, Int.reduceAdd, Int.reduceSub, Int.reduceMul, Int.reduceNeg, Int.reduceToNat, Int.reduceTDiv, Int.reduceTMod, ↓reduceIte, t4, t5, t6, df (show ¬ (i : Int) < 7 by omega)]
          refine (dknown_ _).x ?_
          simp only [go_sem, Nat.reduceEqDiff, Nat.reduceAdd, Nat.reduceSub, Nat.reduceMul, Nat.reduceLT, Nat.reduceLeDiff, Int.reducePow, Int.reduceBEq, Int.reduceBNe, Int.reduceDiv, Int.reduceMod, Int.reduceEq, Int.reduceLT, Int.reduceLE, Int.reduceAdd, Int.reduceSub, Int.reduceMul, Int.reduceNeg, Int.reduceToNat, Int.reduceTDiv, Int.reduceTMod, ↓reduceIte]
end Go.Proofs.YtnebnbdeobcegaaGreat
