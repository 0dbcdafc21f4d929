/- Merged texts: Odd2 Tells1 Tells2 RdDoc. -/
import Derived.Test.YtnebnbdeobcegaaGreatZA
import Derived.Test.YtnebnbdeobcegaaGreatRows
/- Documents: the walks of what turns a document. -/
namespace Go.Proofs.YtnebnbdeobcegaaGreat
open Go Go.RowKit E
attribute [local irreducible] XRun XOps XCode XCal XLoop XQ SemCall
set_option linter.unusedSimpArgs false
set_option linter.unusedVariables false
/-- A row that doesn't hang on block q. -/
theorem row_apart {α : Type} {s : Nat} {E : AH → List Value → α → Prop} {p : Nat → Prop} {K : AH} {v : Value} {l : List α} (h : ∀ J, OlP p K J → RowOf s E J v l) :
    (l = [] ∧ ((∃ e, v = .slice (some ⟨0, 0, none⟩) 0 e) ∨ v = .slice none 0 0)) ∨
    ∃ b g rest rw_, ∃ cs : List (List Value), ¬ p b ∧ v = sl b 0 g l.length s ∧ K[b]? = some ⟨cs.flatten ++ rest, g, rw_⟩ ∧ cs.length = l.length ∧ l.length ≤ 9223372036854775807 ∧
      ∀ (i : Nat) x, l[i]? = some x → ∃ c, cs[i]? = some c ∧ c.length = s ∧ ∀ J, OlP p K J → E J c x := by
  rcases h K (OlP.refl _ _) with h0 | ⟨b, g, rest, rw_, cs, h1, h2, h3, h4, h5⟩
  · exact .inl h0
  · have hb : ¬ p b := fun hbq => by
      have hl := (List.getElem?_eq_some_iff.1 h2).1
      rcases h (K.set b ⟨[], g + 1, false⟩) (fun c k hc e => by rw [List.getElem?_set_ne (fun (h : b = c) => hc (h ▸ hbq))]; exact e) with ⟨_, ⟨e, h6⟩ | h6⟩ | ⟨b', g', r', w', cs', h6, h7, _⟩
      · rw [h1] at h6; cases h6
      · rw [h1] at h6; cases h6
      · rw [h1] at h6
        obtain ⟨rfl, rfl⟩ := sl_inj h6
        rw [List.getElem?_set_self hl] at h7
        simp at h7
    refine .inr ⟨b, g, rest, rw_, cs, hb, h1, h2, h3, h4, fun i x hx => ?_⟩
    obtain ⟨c, e1, e2, _⟩ := h5 i x hx
    refine ⟨c, e1, e2, fun J hJ => ?_⟩
    rcases h J hJ with ⟨h6, _⟩ | ⟨b', g', r', w', cs', h6, h7, h8, _, h9⟩
    · rw [h6] at hx; simp at hx
    · rw [h1] at h6
      obtain ⟨rfl, rfl⟩ := sl_inj h6
      rw [hJ _ _ hb h2] at h7
      have h10 : cs.flatten ++ rest = cs'.flatten ++ r' := by injection h7 with h7; injection h7
      have h11 := flat_inj (by rw [h3, h8]) (RowOf.all h3 h5) (RowOf.all h8 h9) h10
      subst h11
      obtain ⟨c', f1, _, f3⟩ := h9 i x hx
      rw [e1] at f1
      cases f1
      exact f3
theorem asrc_row {α : Type} {s : Nat} {E : AH → List Value → α → Prop} {p : Nat → Prop} {H : AH} {v : Value} {l : List α} (h : ∀ J, OlP p H J → RowOf s E J v l) : ∃ (cs : List (List Value)) (bs : List Nat), cs.length = l.length ∧ cs.flatten.length = l.length * s ∧ (∀ (i : Nat) x, l[i]? = some x → ∃ c, cs[i]? = some c ∧ c.length = s ∧ ∀ J, OlP p H J → E J c x) ∧ (∀ b ∈ bs, b < H.length) ∧ ∀ J, Old H J → asrc J s v = some (cs.flatten, l.length, bs) := by
  rcases row_apart h with ⟨rfl, ⟨e, rfl⟩ | rfl⟩ | ⟨b, g, rest, rw_, cs, _, rfl, h2, h3, h4, h5⟩
  · exact ⟨[], [], rfl, by simp, fun i x hx => by simp at hx, fun b hb => by simp at hb, fun J _ => asrc_zs⟩
  · exact ⟨[], [], rfl, by simp, fun i x hx => by simp at hx, fun b hb => by simp at hb, fun J _ => asrc_nil⟩
  · have hfl := flatten_len (RowOf.all (P := fun c x => ∀ J, OlP p H J → E J c x) h3 h5)
    rw [h3] at hfl
    by_cases hn : l.length = 0
    · have hl : l = [] := List.eq_nil_of_length_eq_zero hn
      subst hl
      have hc : cs = [] := List.eq_nil_of_length_eq_zero (by simpa using h3)
      subst hc
      refine ⟨[], [], rfl, by simp, fun i x hx => by simp at hx, fun b hb => by simp at hb, fun J oJ => ?_⟩
      show asrc J s (sl b 0 g 0 s) = some ([], 0, [])
      rw [asrc_sl, asy_zero]
    · refine ⟨cs, [b], h3, hfl, h5, fun b' hb' => by rw [List.mem_singleton.1 hb']; exact (List.getElem?_eq_some_iff.1 h2).1, fun J oJ => ?_⟩
      rw [asrc_sl, oJ _ _ h2, asy_some (eq_false hn) (by rw [List.length_append, hfl]; omega), List.drop_zero, ← hfl, List.take_left]
/-- How great a document is, that was turned k times. -/
structure DcN (k : Nat) (d : Dc) : Prop where
  n : d.comps.length ≤ 3 + k
  c : ∀ c ∈ d.comps, c.length ≤ 4 * 2 ^ k ∧ ∀ l ∈ c, LyN (100 + k) l
theorem app_mid {H A B L : AH} (hl : A.length = B.length) {c : Nat} (hc : H.length + A.length ≤ c) : (H ++ A ++ L)[c]? = (H ++ B ++ L)[c]? := by
  rw [List.getElem?_append_right (by rw [List.length_append]; omega), List.getElem?_append_right (by rw [List.length_append]; omega), List.length_append, List.length_append, hl]
theorem ald_el {s : Nat} {cs : List (List Value)} {i : Nat} {c : List Value} (h : ∀ c ∈ cs, c.length = s) (hi : cs[i]? = some c) (g : Nat) (rw_ : Bool) (b : Nat) : ald (some true) (some s) (some ⟨cs.flatten, g, rw_⟩) b (i * s) g = some (.agg c.toArray, b) := by
  have h1 := flatten_drop h hi
  have hc := h c (List.mem_of_getElem? hi)
  have hil := (List.getElem?_eq_some_iff.1 hi).1
  have h2 : i * s + s ≤ cs.flatten.length := by
    rw [flatten_len h]
    have : (i + 1) * s ≤ cs.length * s := Nat.mul_le_mul_right s hil
    rw [Nat.add_mul, Nat.one_mul] at this; exact this
  simp only [ald, true_and, h2, if_true]
  rw [h1, ← hc, List.take_left]
theorem pow_le4 {k : Nat} (hk : k ≤ 4) : 2 ^ k ≤ 16 := by
  have : k = 0 ∨ k = 1 ∨ k = 2 ∨ k = 3 ∨ k = 4 := by omega
  rcases this with rfl | rfl | rfl | rfl | rfl <;> decide
theorem DcN.s {k : Nat} {d : Dc} (h : DcN k d) (hk : k ≤ 4) : DcS d :=
  ⟨by have := h.n; omega, fun c hc => ⟨by have := (h.c c hc).1; have := pow_le4 hk; omega, fun l hl => ((h.c c hc).2 l hl).s (by omega)⟩⟩
theorem DcN.up {k : Nat} {d : Dc} (h : DcN k d) : DcN (k + 1) d :=
  ⟨by have := h.n; omega, fun c hc => ⟨by have := (h.c c hc).1; rw [Nat.pow_succ]; omega, fun l hl => ((h.c c hc).2 l hl).up (by omega)⟩⟩
theorem DcB.smallN {d : Dc} (h : DcB d) : DcN 0 d := by
  refine ⟨by have := h.n; omega, fun c hc => ?_⟩
  obtain ⟨i, hi⟩ := List.getElem?_of_mem hc
  obtain ⟨h1, h2, h3⟩ := h.cs i c hi
  refine ⟨by omega, fun l hl => ?_⟩
  obtain ⟨j, hj⟩ := List.getElem?_of_mem hl
  obtain ⟨ah, h4, _⟩ := h1 j l hj
  exact h4.smallN.up (by omega)
theorem DcS.m {d : Dc} (h : DcS d) : DcM d := fun c hc l hl => ((h.c c hc).2 l hl).m
/-- One comp of it another one. -/
theorem DcN.set {k : Nat} {d : Dc} (h : DcN k d) {i : Nat} {ls : List Ly} (h1 : ls.length ≤ 4 * 2 ^ (k + 1)) (h2 : ∀ l ∈ ls, LyN (100 + (k + 1)) l) : DcN (k + 1) { d with comps := d.comps.set i ls } := by
  refine ⟨by have := h.n; show (d.comps.set i ls).length ≤ _; rw [List.length_set]; omega, fun c hc => ?_⟩
  rcases List.mem_or_eq_of_mem_set hc with hc | rfl
  · exact h.up.c c hc
  · exact ⟨h1, h2⟩
set_option maxRecDepth 100000 in
set_option maxHeartbeats 16000000 in
theorem odd_ (k : Nat) (hk : k ≤ 3) (d : Dc) (cv : Value) (a b c N : Int) (p : Nat → Prop) (H : AH) (h : ∀ J, OlP p H J → Cos J cv d.comps) (hN : DcN k d) :
    Cal Tryz.prog 23 [dcV d cv, .agg [.int .i64 a, .int .i64 b, .int .i64 c, .int .i64 N].toArray] H fun v' H' W => W = [] ∧ (∃ L, H' = H ++ L) ∧ ∃ d' cw, v' = dcV d' cw ∧ (∀ J, OlP p H J → (∀ (c : Nat) (k : Blk), H.length ≤ c → H'[c]? = some k → J[c]? = some k) → Cos J cw d'.comps) ∧ DcN (k + 1) d' := by
  refine adds_of ?_
  have kd : ∀ n, decide (H.length + n < H.length) = false := fun n => df (by omega)
  have kd0 : decide (H.length < H.length) = false := df (by omega)
  obtain ⟨cs0, bs, e1, e2, e3, e4, e5⟩ := asrc_row h
  have hn := hN.n
  have hp := pow_le4 (show k ≤ 4 by omega)
  refine XCal.of hm Tryz.func23 rfl (fun xs w => Tryz.call23 xs w) Tryz.ntmps23 Tryz.results23 rfl ?_
  refine wcode_cut (fun T K D => D = [] ∧ T 2 = ap H.length 0 0 ∧ T 3 = ap (H.length + 1) 0 0 ∧ T 4 = ap (H.length + 2) 0 0 ∧ K = H ++ [⟨[.int .i64 d.in_, .int .i64 d.out, cv], 0, true⟩, ⟨[.int .i64 a, .int .i64 b, .int .i64 c, .int .i64 N], 0, true⟩, ⟨[.int .i64 0, .int .i64 0, .slice none 0 0], 0, true⟩]) ?_ ?_
  · (refine sg (et kd kd0) ?_; try exact ⟨⟩)
  rintro T K D ⟨rfl, t2, t3, t4, rfl⟩
  refine wcode_cut (fun T K D => D = [] ∧ T 2 = ap H.length 0 0 ∧ T 3 = ap (H.length + 1) 0 0 ∧ T 4 = ap (H.length + 2) 0 0 ∧ ∃ g, K = H ++ [⟨[.int .i64 d.in_, .int .i64 d.out, sl (H.length + 3) 0 g d.comps.length 1], 0, true⟩, ⟨[.int .i64 a, .int .i64 b, .int .i64 c, .int .i64 N], 0, true⟩, ⟨[.int .i64 0, .int .i64 0, .slice none 0 0], 0, true⟩, ⟨cs0.flatten, g, true⟩]) ?_ ?_
  · obtain ⟨va, ve, hv⟩ := (h H (OlP.refl _ _)).form
    have nb : ∀ k, H.length + k ∉ bs := fun k hb => by have := e4 _ hb; omega
    by_cases h0 : d.comps.length = 0
    · have hc0 : cs0.flatten = [] := List.eq_nil_of_length_eq_zero (by rw [e2, h0])
      have e5' : ∀ L, asrc (H ++ L) 1 cv = some ([], 0, bs) := fun L => by rw [e5 _ (Old.app' _ _), hc0, h0]
      (refine sg (et t2 (et t3 (et t4 (et e5' (et kd (et kd0 Nat.zero_mul)))))) ?_; try exact ⟨⟩)
      exact ⟨0, by rw [h0, hc0]⟩
    · have e5' : ∀ L, asrc (H ++ L) 1 cv = some (cs0.flatten, d.comps.length, bs) := fun L => e5 _ (Old.app' _ _)
      have hp3 : d.comps.length * 24 - 140737488355328 = 0 := Nat.sub_eq_zero_of_le (Nat.le_trans (Nat.mul_le_mul_right 24 (show d.comps.length ≤ 1000 by omega)) (by decide))
      have hp4 : d.comps.length - 140737488355328 = 0 := Nat.sub_eq_zero_of_le (Nat.le_trans (show d.comps.length ≤ 1000 by omega) (by decide))
      (refine sg (et t2 (et t3 (et t4 (et e5' (et kd (et kd0 (et Nat.zero_mul (et Nat.zero_add (et (eq_false h0) (et hp3 hp4)))))))))) ?_; try exact ⟨⟩)
      exact ⟨1, rfl⟩
  clear t2 t3 t4
  rintro T K D ⟨rfl, t2, t3, t4, g, rfl⟩
  have o : ∀ L, Old H (H ++ L) := fun L => Old.app' H L
  have hmod : (a.tmod 9 == 8) = true ∨ (a.tmod 9 == 8) = false := by cases (a.tmod 9 == 8) <;> simp
  have hcp : ∀ J : AH, OlP p H J → J[H.length + 3]? = some ⟨cs0.flatten, g, true⟩ → Cos J (sl (H.length + 3) 0 g d.comps.length 1) d.comps := fun J oJ hJ =>
    .inr ⟨H.length + 3, g, [], true, cs0, rfl, by rw [List.append_nil]; exact hJ, e1, by omega, fun i x hx => by obtain ⟨c, g1, g2, g3⟩ := e3 i x hx; exact ⟨c, g1, g2, g3 J oJ⟩⟩
  by_cases hbr : (a.tmod 9 == 8) = true ∨ d.comps.length = 0
  · obtain ⟨w, hw, ka⟩ := kat_ (IntKind.i64.wrap (a.tdiv 9)) 4 (by omega) (by omega)
    have ka : ∀ H, SemCall Tryz.prog 61 [.int .i64 (IntKind.i64.wrap (a.tdiv 9)), .int .i64 4] H (.int .i64 (w : Int)) H [] := ka
    have hl0 : (a.tmod 9 == 8) = false → ((d.comps.length : Int) == 0) = true := fun e => by
      rcases hbr with hb | hb
      · rw [hb] at e; cases e
      · exact bt (by omega)
    have hcase : w = 0 ∨ w = 1 ∨ w = 2 ∨ w = 3 := by omega
    have hp5 : (d.comps.length + 1) * 24 - 140737488355328 = 0 := Nat.sub_eq_zero_of_le (Nat.le_trans (Nat.mul_le_mul_right 24 (show d.comps.length + 1 ≤ 1001 by omega)) (by decide))
    have hp6 : d.comps.length + 1 - 140737488355328 = 0 := Nat.sub_eq_zero_of_le (Nat.le_trans (show d.comps.length + 1 ≤ 1001 by omega) (by decide))
    have fin : ∀ (x1 x2 : Int), DcN (k + 1) ⟨x1, x2, d.comps⟩ := fun x1 x2 => ⟨hN.up.n, hN.up.c⟩
    rcases hmod with hm8 | hm8
    case' inr => have hl0 := hl0 hm8
    case' inl => have hl0 := True.intro
    all_goals
      rcases hcase with rfl | rfl | rfl | rfl
      · (refine sg (et t2 (et t3 (et t4 (et hm8 hl0)))) ?_; try exact ⟨⟩)
        refine (ka _).x ?_
        (refine sg (et t2 (et t3 (et t4 (et kd kd0)))) ?_; try exact ⟨⟩)
        exact ⟨⟨N, d.out, d.comps⟩, _, rfl, fun J oJ hJ => hcp J oJ (hJ _ _ (by omega) (by first | rfl | (rw [hget_app]; rfl))), fin _ _⟩
      · (refine sg (et t2 (et t3 (et t4 (et hm8 hl0)))) ?_; try exact ⟨⟩)
        refine (ka _).x ?_
        (refine sg (et t2 (et t3 (et t4 (et kd kd0)))) ?_; try exact ⟨⟩)
        exact ⟨⟨d.in_, N, d.comps⟩, _, rfl, fun J oJ hJ => hcp J oJ (hJ _ _ (by omega) (by first | rfl | (rw [hget_app]; rfl))), fin _ _⟩
      · (refine sg (et t2 (et t3 (et t4 (et hm8 hl0)))) ?_; try exact ⟨⟩)
        refine (ka _).x ?_
        (refine sg (et t2 (et t3 (et t4 (et kd (et kd0 (et e2 (et Nat.mul_one (et hp5 hp6)))))))) ?_; try exact ⟨⟩)
        refine ⟨⟨d.in_, d.out, d.comps ++ [[]]⟩, _, rfl, ?_, ?_⟩
        · intro J oJ hJ
          show Cos J (sl (H.length + 3) 0 (g + 1) (d.comps.length + 1) 1) (d.comps ++ [[]])
          have : (d.comps ++ [[]]).length = d.comps.length + 1 := by rw [List.length_append]; rfl
          rw [← this]
          refine .inr ⟨H.length + 3, g + 1, [], true, cs0 ++ [[.slice none 0 0]], rfl, ?_, ?_, by omega, fun i x hx => ?_⟩
          · rw [List.append_nil, List.flatten_append, List.flatten_singleton]; exact hJ _ _ (by omega) (by first | rfl | (rw [hget_app]; rfl))
          · rw [List.length_append, List.length_append, e1]; rfl
          · by_cases hi : i < d.comps.length
            · rw [List.getElem?_append_left hi] at hx
              rw [List.getElem?_append_left (by omega)]
              obtain ⟨c, g1, g2, g3⟩ := e3 i x hx
              exact ⟨c, g1, g2, g3 J oJ⟩
            · have hi2 : i = d.comps.length := by have hh := (List.getElem?_eq_some_iff.1 hx).1; rw [List.length_append] at hh; simp at hh; omega
              subst hi2
              rw [List.getElem?_append_right (by omega), Nat.sub_self] at hx
              simp at hx; subst hx
              exact ⟨_, by rw [List.getElem?_append_right (by omega), e1, Nat.sub_self]; rfl, rfl, _, rfl, RowOf.none⟩
        · refine ⟨by show (d.comps ++ [[]]).length ≤ _; rw [List.length_append]; simp; omega, fun x hx => ?_⟩
          rcases List.mem_append.1 hx with hx | hx
          · exact hN.up.c x hx
          · rw [List.mem_singleton.1 hx]; exact ⟨by simp, fun l hl => by cases hl⟩
      · (refine sg (et t2 (et t3 (et t4 (et hm8 hl0)))) ?_; try exact ⟨⟩)
        refine (ka _).x ?_
        (refine sg (et t2 (et t3 (et t4 (et kd kd0)))) ?_; try exact ⟨⟩)
        exact ⟨⟨d.in_, d.out, []⟩, _, rfl, fun J _ _ => RowOf.none, ⟨by show [].length ≤ _; simp, fun x hx => by cases hx⟩⟩
  have hm8 : (a.tmod 9 == 8) = false := by
    rcases hmod with h | h
    · exact absurd (.inl h) hbr
    · exact h
  have h0 : ¬ d.comps.length = 0 := fun e => hbr (.inr e)
  have hl0 : ((d.comps.length : Int) == 0) = false := bf (by omega)
  obtain ⟨ic, hic, kc⟩ := kat_ b d.comps.length (by omega) (by omega)
  obtain ⟨x, hx⟩ : ∃ x, d.comps[ic]? = some x := ⟨_, List.getElem?_eq_getElem hic⟩
  obtain ⟨cc, hcc, hcl, hcx⟩ := e3 ic x hx
  obtain ⟨lv, rfl, _⟩ := hcx H (OlP.refl _ _)
  have hlv : ∀ J, OlP p H J → Lys J lv x := fun J oJ => by
    obtain ⟨lv', he, hr⟩ := hcx J oJ
    simp only [List.cons.injEq, and_true] at he
    rw [he]; exact hr
  have hxb := hN.c x (List.mem_of_getElem? hx)
  obtain ⟨cs1, bs1, f1, f2, f3, f4, f5⟩ := asrc_row hlv
  have hall0 : ∀ c ∈ cs0, c.length = 1 := RowOf.all (P := fun c x => ∀ J, OlP p H J → CoE J c x) e1 e3
  have hall1 : ∀ c ∈ cs1, c.length = 50 := RowOf.all (P := fun c x => ∀ J, OlP p H J → LyE J c x) f1 f3
  have hg0 : cs0.flatten[ic]? = some lv := by
    have := flatten_get (s := 1) 0 hall0 hcc (by omega)
    rw [Nat.mul_one, Nat.add_zero] at this; exact this
  have q0 : (0 : Int) ≤ (ic : Int) := by omega
  have q1 : (ic : Int) < (d.comps.length : Int) := by omega
  by_cases hq : x.length = 0
  · have hc0 : cs1.flatten = [] := List.eq_nil_of_length_eq_zero (by rw [f2, hq])
    have f5' : ∀ L, asrc (H ++ L) 50 lv = some ([], 0, bs1) := fun L => by rw [f5 _ (Old.app' _ _), hc0, hq]
    (refine sg (et t2 (et t3 (et t4 (et hm8 hl0)))) ?_; try exact ⟨⟩)
    refine (kc _).x ?_
    (refine sg (et t2 (et t3 (et t4 (et kd (et kd0 (et q0 (et q1 (et Int.toNat_natCast (et Nat.zero_add (et Nat.zero_mul (et Nat.mul_one (et Nat.add_zero (et hg0 f5'))))))))))))) ?_; try exact ⟨⟩)
    exact ⟨d, _, rfl, fun J oJ hJ => hcp J oJ (hJ _ _ (by omega) (by first | rfl | (rw [hget_app]; rfl))), hN.up⟩
  obtain ⟨kk, hkk, kc2⟩ := kat_ c x.length (by omega) (by omega)
  obtain ⟨w3, hw3, kc3⟩ := kat_ a 23 (by omega) (by omega)
  have kc3 : ∀ H, SemCall Tryz.prog 61 [.int .i64 a, .int .i64 23] H (.int .i64 (w3 : Int)) H [] := kc3
  obtain ⟨l, hl⟩ : ∃ l, x[kk]? = some l := ⟨_, List.getElem?_eq_getElem hkk⟩
  obtain ⟨lc, hlc, hlcl, hlx⟩ := f3 kk l hl
  obtain ⟨v0, v1, v2, v3, v4, v5, v6, v7, v8, pm, vw, vh, vp, vc, vd, vda, vf, vt, rfl, _, _⟩ := hlx H (OlP.refl _ _)
  have hLS : ∀ J, OlP p H J → LyV J l v0 v1 v2 v3 v4 v5 v6 v7 v8 pm ∧ ShV J l.shape vw vh vp vc vd vda vf vt := fun J oJ => by
    obtain ⟨v0', v1', v2', v3', v4', v5', v6', v7', v8', pm', vw', vh', vp', vc', vd', vda', vf', vt', hc', h1, h2⟩ := hlx J oJ
    simp only [List.cons.injEq, true_and, and_true] at hc'
    obtain ⟨rfl, rfl, rfl, rfl, rfl, rfl, rfl, rfl, rfl, rfl, rfl, rfl, rfl, rfl, rfl, rfl, rfl, rfl⟩ := hc'
    exact ⟨h1, h2⟩
  have f5' : ∀ L, asrc (H ++ L) 50 lv = some (cs1.flatten, x.length, bs1) := fun L => f5 _ (Old.app' _ _)
  have hp3 : x.length * 608 - 140737488355328 = 0 := Nat.sub_eq_zero_of_le (Nat.le_trans (Nat.mul_le_mul_right 608 (show x.length ≤ 1000 by omega)) (by decide))
  have hp4 : x.length - 140737488355328 = 0 := Nat.sub_eq_zero_of_le (Nat.le_trans (show x.length ≤ 1000 by omega) (by decide))
  have hp5 : (x.length + x.length) * 608 - 140737488355328 = 0 := Nat.sub_eq_zero_of_le (Nat.le_trans (Nat.mul_le_mul_right 608 (show x.length + x.length ≤ 2000 by omega)) (by decide))
  have hp6 : x.length + x.length - 140737488355328 = 0 := Nat.sub_eq_zero_of_le (Nat.le_trans (show x.length + x.length ≤ 2000 by omega) (by decide))
  have p0 : (0 : Int) ≤ (kk : Int) := by omega
  have p1 : (kk : Int) < (x.length : Int) := by omega
  have hel := fun g rw_ b => ald_el hall1 hlc g rw_ b
  have kdk : ∀ n, decide (H.length + n < H.length) = false := kd
  (refine sg (et t2 (et t3 (et t4 (et hm8 hl0)))) ?_; try exact ⟨⟩)
  refine (kc _).x ?_
  (refine sg (et t2 (et t3 (et t4 (et kd (et kd0 (et q0 (et q1 (et Int.toNat_natCast (et Nat.zero_add (et Nat.zero_mul (et Nat.mul_one (et Nat.add_zero (et hg0 (et f5' (et (eq_false hq) (et hp3 (et hp4 (bf (show ¬ ((x.length : Nat) : Int) = 0 by omega))))))))))))))))))) ?_; try exact ⟨⟩)
  refine (kc2 _).x ?_
  (refine sg (et t2 (et t3 (et t4 (et kd kd0)))) ?_; try exact ⟨⟩)
  refine drawnU [(0, 7), (1, 7)] (by decide +kernel) ?_
  (refine sg (et t2 (et t3 (et t4 (et kd (et kd0 (et p0 (et p1 (et Int.toNat_natCast (et Nat.zero_add hel))))))))) ?_; try exact ⟨⟩)
  have hO5 := o [⟨[.int .i64 d.in_, .int .i64 d.out, sl (H.length + 3) 0 g d.comps.length 1], 0, true⟩, ⟨[.int .i64 a, .int .i64 b, .int .i64 c, .int .i64 N], 0, true⟩, ⟨[.int .i64 0, .int .i64 0, .slice none 0 0], 0, true⟩, ⟨cs0.flatten, g, true⟩, ⟨cs1.flatten, 1, true⟩]
  refine (oddlayer_ (100 + k) l v0 v1 v2 v3 v4 v5 v6 v7 v8 pm vw vh vp vc vd vda vf vt a b c N p H _ hO5 (fun J oJ => (hLS J oJ).1) (fun J oJ => (hLS J oJ).2) (hxb.2 l (List.mem_of_getElem? hl)) (by omega)).x ?_
  rintro v H1 W1 ⟨rfl, ⟨L, rfl⟩, l', cs', rfl, hJ, hcs', hN'⟩
  have hls' : ∀ y ∈ x.set kk l', LyN (100 + (k + 1)) y := fun y hy => by
    rcases List.mem_or_eq_of_mem_set hy with hy | rfl
    · exact (hxb.2 y hy).up (by omega)
    · exact hN'
  have hall2 : ∀ c ∈ cs1.set kk cs', c.length = 50 := fun c hc => by
    rcases List.mem_or_eq_of_mem_set hc with hc | rfl
    · exact hall1 c hc
    · exact hcs'
  have hsp : splice cs1.flatten (kk * 50) cs' = (cs1.set kk cs').flatten := by
    have := flatten_splice (s := 50) (cs := cs1) (i := kk) 0 cs' hall1 hlc (by omega)
    rw [Nat.add_zero] at this
    rw [this, splice_def, List.take_zero, List.nil_append, List.drop_eq_nil_of_le (by rw [hcs']; simp), List.append_nil]
  have hfl2 : (cs1.set kk cs').flatten.length = x.length * 50 := by rw [flatten_len hall2, List.length_set, f1]
  have hast : ∀ (J : AH) b', ast J (some ⟨cs1.flatten, 1, true⟩) (some cs') (some 50) b' (kk * 50) 1 = some (J.set b' ⟨(cs1.set kk cs').flatten, 1, true⟩, b') := fun J b' => by
    rw [ast_some (s := 50) hcs' (by rw [f2]; have := Nat.mul_le_mul_right 50 hkk; omega), hsp]
  have hast0 : ∀ (J : AH) v b', ast J (some ⟨cs0.flatten, g, true⟩) (some [v]) (some 1) b' ic g = some (J.set b' ⟨(cs0.set ic [v]).flatten, g, true⟩, b') := fun J v b' => by
    have := flatten_splice (s := 1) (cs := cs0) (i := ic) 0 [v] hall0 hcc (by simp)
    rw [Nat.mul_one, Nat.add_zero] at this
    rw [ast_some (s := 1) rfl (by rw [e2]; omega), this, splice_def]
    rfl
  have row : ∀ (J : AH) (gl : Nat) (ls' : List Ly) (ds : List (List Value)), OlP p H J → J[H.length + 3]? = some ⟨(cs0.set ic [sl (H.length + 4) 0 gl ls'.length 50]).flatten, g, true⟩ → RowOf 50 LyE J (sl (H.length + 4) 0 gl ls'.length 50) ls' → Cos J (sl (H.length + 3) 0 g d.comps.length 1) (d.comps.set ic ls') := fun J gl ls' ds oJ hb hr => by
    refine .inr ⟨H.length + 3, g, [], true, cs0.set ic [sl (H.length + 4) 0 gl ls'.length 50], by rw [List.length_set], by rw [List.append_nil]; exact hb, by rw [List.length_set, List.length_set, e1], by rw [List.length_set]; omega, fun i y hy => ?_⟩
    by_cases hi : ic = i
    · subst hi
      rw [List.getElem?_set_self (by omega)] at hy
      cases hy
      exact ⟨_, List.getElem?_set_self (by omega), rfl, _, rfl, hr⟩
    · rw [List.getElem?_set_ne hi] at hy
      obtain ⟨c, g1, g2, g3⟩ := e3 i y hy
      exact ⟨c, by rw [List.getElem?_set_ne hi]; exact g1, g2, g3 J oJ⟩
  have one : ∀ (J : AH), OlP p H J → LyE J cs' l' → ∀ (i : Nat) y, (x.set kk l')[i]? = some y → ∃ c, (cs1.set kk cs')[i]? = some c ∧ c.length = 50 ∧ LyE J c y := fun J oJ hE i y hy => by
    by_cases hi : kk = i
    · subst hi
      rw [List.getElem?_set_self (by omega)] at hy
      cases hy
      exact ⟨_, List.getElem?_set_self (by omega), hcs', hE⟩
    · rw [List.getElem?_set_ne hi] at hy
      obtain ⟨c, g1, g2, g3⟩ := f3 i y hy
      exact ⟨c, by rw [List.getElem?_set_ne hi]; exact g1, g2, g3 J oJ⟩
  simp only [go_sem, Nat.reduceEqDiff, Nat.reduceAdd, Nat.reduceSub, Nat.reduceMul, Nat.reduceLT, Nat.reduceLeDiff, Int.reducePow, Int.reduceBEq, Int.reduceBNe, Int.reduceDiv, Int.reduceMod, Int.reduceEq, Int.reduceLT, Int.reduceLE, Int.reduceAdd, Int.reduceSub, Int.reduceMul, Int.reduceNeg, Int.reduceToNat, Int.reduceTDiv, Int.reduceTMod, ↓reduceIte, t2, t3, t4, kd, kd0, p0, p1, Int.toNat_natCast, Nat.zero_add, List.append_assoc, hast]
  refine (kc3 _).x ?_
  have hE : ∀ (B : AH), B.length = 5 → ∀ J, OlP p H J → (∀ (c : Nat) (k : Blk), H.length ≤ c → (H ++ (B ++ L))[c]? = some k → J[c]? = some k) → LyE J cs' l' := fun B hB J oJ hJJ => by
    refine hJ J oJ fun c k h1 h2 => hJJ c k (by simp at h1; omega) ?_
    rw [← List.append_assoc, ← h2]
    exact app_mid (by rw [hB]; rfl) (by rw [hB]; simpa using h1)
  by_cases hw22 : w3 = 22
  · subst hw22
    have htk : (cs1.set kk cs').flatten.take (x.length * 50) = (cs1.set kk cs').flatten := List.take_of_length_le (by omega)
    have hxl : (x.set kk l' ++ x.set kk l').length = x.length + x.length := by rw [List.length_append, List.length_set]
    simp only [go_sem, Nat.reduceEqDiff, Nat.reduceAdd, Nat.reduceSub, Nat.reduceMul, Nat.reduceLT, Nat.reduceLeDiff, Int.reducePow, Int.reduceBEq, Int.reduceBNe, Int.reduceDiv, Int.reduceMod, Int.reduceEq, Int.reduceLT, Int.reduceLE, Int.reduceAdd, Int.reduceSub, Int.reduceMul, Int.reduceNeg, Int.reduceToNat, Int.reduceTDiv, Int.reduceTMod, ↓reduceIte, t2, t3, t4, kd, kd0, eq_false hq, hfl2, Nat.zero_add, List.drop_zero, Nat.sub_self, htk, hp5, hp6, q0, q1, Int.toNat_natCast, Nat.mul_one, Nat.add_zero, hast0, show ((((22 : Nat) : Int)) == 22) = true from rfl]
    have hrow := fun J => row J 2 (x.set kk l' ++ x.set kk l') []
    simp only [hxl] at hrow
    refine ⟨⟨d.in_, d.out, d.comps.set ic (x.set kk l' ++ x.set kk l')⟩, _, rfl, fun J oJ hJJ => hrow J oJ (hJJ _ _ (by omega) (by first | rfl | (rw [hget_app]; rfl))) ?_, hN.set ?_ ?_⟩
    · have hone := one J oJ (hE [⟨[.int .i64 d.in_, .int .i64 d.out, sl (H.length + 3) 0 g d.comps.length 1], 0, true⟩, ⟨[.int .i64 a, .int .i64 b, .int .i64 c, .int .i64 N], 0, true⟩, ⟨[.int .i64 d.in_, .int .i64 d.out, sl (H.length + 3) 0 g d.comps.length 1], 0, true⟩, ⟨(cs0.set ic [sl (H.length + 4) 0 2 (x.length + x.length) 50]).flatten, g, true⟩, ⟨(cs1.set kk cs').flatten ++ (cs1.set kk cs').flatten, 2, true⟩] rfl J oJ hJJ)
      refine .inr ⟨H.length + 4, 2, [], true, cs1.set kk cs' ++ cs1.set kk cs', by rw [hxl], by rw [List.append_nil, List.flatten_append]; exact hJJ _ _ (by omega) (by first | rfl | (rw [hget_app]; rfl)), by rw [hxl, List.length_append, List.length_set, f1], by omega, fun i y hy => ?_⟩
      by_cases hi : i < x.length
      · rw [List.getElem?_append_left (by rw [List.length_set]; exact hi)] at hy
        rw [List.getElem?_append_left (by rw [List.length_set, f1]; exact hi)]
        exact hone i y hy
      · rw [List.getElem?_append_right (by rw [List.length_set]; omega), List.length_set] at hy
        rw [List.getElem?_append_right (by rw [List.length_set, f1]; omega), List.length_set, f1]
        exact hone _ y hy
    · rw [hxl, Nat.pow_succ]; omega
    · intro y hy
      rcases List.mem_append.1 hy with hy | hy <;> exact hls' y hy
  · (refine sg (et t2 (et t3 (et t4 (et kd (et kd0 (et q0 (et q1 (et Int.toNat_natCast (et Nat.zero_add (et Nat.mul_one (et Nat.add_zero (et hast0 (bf (show ¬ (w3 : Int) = 22 by omega)))))))))))))) ?_; try exact ⟨⟩)
    have hxl : (x.set kk l').length = x.length := List.length_set ..
    have hrow := fun J => row J 1 (x.set kk l') []
    simp only [hxl] at hrow
    refine ⟨⟨d.in_, d.out, d.comps.set ic (x.set kk l')⟩, _, rfl, fun J oJ hJJ => hrow J oJ (hJJ _ _ (by omega) (by first | rfl | (rw [hget_app]; rfl))) ?_, hN.set ?_ ?_⟩
    · have hone := one J oJ (hE [⟨[.int .i64 d.in_, .int .i64 d.out, sl (H.length + 3) 0 g d.comps.length 1], 0, true⟩, ⟨[.int .i64 a, .int .i64 b, .int .i64 c, .int .i64 N], 0, true⟩, ⟨[.int .i64 d.in_, .int .i64 d.out, sl (H.length + 3) 0 g d.comps.length 1], 0, true⟩, ⟨(cs0.set ic [sl (H.length + 4) 0 1 x.length 50]).flatten, g, true⟩, ⟨(cs1.set kk cs').flatten, 1, true⟩] rfl J oJ hJJ)
      exact .inr ⟨H.length + 4, 1, [], true, cs1.set kk cs', by rw [hxl], by rw [List.append_nil]; exact hJJ _ _ (by omega) (by first | rfl | (rw [hget_app]; rfl)), by rw [hxl, List.length_set, f1], by omega, hone⟩
    · rw [hxl, Nat.pow_succ]; omega
    · exact hls'
end Go.Proofs.YtnebnbdeobcegaaGreat
/- Documents: the walks of Odd, of same. -/
namespace Go.Proofs.YtnebnbdeobcegaaGreat
open Go Go.RowKit E
attribute [local irreducible] XRun XOps XCode XCal XLoop XQ SemCall
set_option linter.unusedSimpArgs false
set_option linter.unusedVariables false
structure Tn where
  what : Int
  comp : Int
  lay : Int
  n : Int
abbrev tnC (t : Tn) : List Value := [.int .i64 t.what, .int .i64 t.comp, .int .i64 t.lay, .int .i64 t.n]
def TnE (_ : AH) (c : List Value) (t : Tn) : Prop := c = tnC t
abbrev Tns (K : AH) (v : Value) (l : List Tn) : Prop := RowOf 4 TnE K v l
theorem DcN.four {i : Nat} {d : Dc} (h : DcN i d) (hi : i ≤ 4) : DcN 4 d := by
  have : i = 0 ∨ i = 1 ∨ i = 2 ∨ i = 3 ∨ i = 4 := by omega
  rcases this with rfl | rfl | rfl | rfl | rfl
  · exact h.up.up.up.up
  · exact h.up.up.up
  · exact h.up.up
  · exact h.up
  · exact h
set_option maxHeartbeats 8000000 in
theorem Odd_ (d : Dc) (cv tv : Value) (ts : List Tn) (p0 : Nat → Prop) (H : AH) (h : ∀ J, OlP p0 H J → Cos J cv d.comps) (hN : DcN 0 d) (ht : Tns H tv ts) :
    Cal Tryz.prog 8 [dcV d cv, tv] H fun v' H' W => W = [] ∧ (∃ L, H' = H ++ L) ∧ ∃ d' cw, v' = dcV d' cw ∧ (∀ J, OlP p0 H J → (∀ (c : Nat) (k : Blk), H.length ≤ c → H'[c]? = some k → J[c]? = some k) → Cos J cw d'.comps) ∧ DcN 4 d' := by
  refine adds_of ?_
  have kd : ∀ n, decide (H.length + n < H.length) = false := fun n => df (by omega)
  have kd0 : decide (H.length < H.length) = false := df (by omega)
  have htl := ht.len
  obtain ⟨ta, te, htf⟩ := ht.form
  subst htf
  obtain ⟨p, hp⟩ : ∃ p : Nat → Prop, p = fun c => (p0 c ∧ c < H.length) ∨ c = H.length ∨ c = H.length + 1 := ⟨_, rfl⟩
  have hpn : ∀ c, (c < H.length ∧ ¬ p0 c) ∨ H.length + 2 ≤ c → ¬ p c := fun c hc hh => by
    rw [hp] at hh
    rcases hh with ⟨h1, h2⟩ | hh | hh
    · rcases hc with hc | hc
      · exact hc.2 h1
      · omega
    · omega
    · omega
  have hpy : ∀ c, ¬ p c → c ≠ H.length ∧ c ≠ H.length + 1 := fun c hc => ⟨fun e => hc (by rw [hp]; exact .inr (.inl e)), fun e => hc (by rw [hp]; exact .inr (.inr e))⟩
  refine XCal.of hm Tryz.func8 rfl (fun xs w => Tryz.call8 xs w) Tryz.ntmps8 Tryz.results8 rfl ?_
  (refine sg (et kd kd0) ?_; try exact ⟨⟩)
  refine keep (fun r T K D => D = [] ∧ ∃ (i : Nat) (d' : Dc) (cw : Value), i + r = 4 ∧ Old H K ∧ H.length + 2 ≤ K.length ∧ K[H.length]? = some ⟨[.int .i64 d'.in_, .int .i64 d'.out, cw], 0, true⟩ ∧ K[H.length + 1]? = some ⟨[.int .i64 0, .int .i64 0, .slice none 0 0], 0, true⟩ ∧ (∀ J, OlP p K J → Cos J cw d'.comps) ∧ DcN i d' ∧ T 1 = .slice ta ts.length te ∧ T 2 = ap H.length 0 0 ∧ T 4 = ap (H.length + 1) 0 0 ∧ T 5 = .int .i64 (i : Int)) 4
    ⟨rfl, 0, d, cv, by omega, Old.app' _ _, by simp, by rw [hget_app0]; rfl, by rw [hget_app]; rfl, fun J oJ => h J (fun c k hc e => oJ c k (hpn c (.inl ⟨(List.getElem?_eq_some_iff.1 e).1, hc⟩)) (old_get e _)), hN, by (refine sg trivial ?_; try exact ⟨⟩), by (refine sg trivial ?_; try exact ⟨⟩), by (refine sg trivial ?_; try exact ⟨⟩), by (refine sg trivial ?_; try exact ⟨⟩) <;> rfl⟩ ?_
  rintro r T K D ⟨rfl, i, d', cw, hir, o, hKl, g0, g1, hC, hD, t1, t2, t4, t5⟩
  have kdK : ∀ n, decide (K.length + n < H.length) = false := fun n => df (by omega)
  have kdK0 : decide (K.length < H.length) = false := df (by omega)
  by_cases hi : i < ts.length ∧ i < 4
  · obtain ⟨hi1, hi4⟩ := hi
    obtain ⟨t, hx⟩ : ∃ t, ts[i]? = some t := ⟨_, List.getElem?_eq_getElem hi1⟩
    obtain ⟨b, g, cells, rw_, c, hve, hb, hc, hcl, hle, hld, hgt⟩ := ht.at hx
    have hc : c = tnC t := hc
    subst hc
    have kb := o _ _ hb
    rw [hve] at t1
    have q0 : (0 : Int) ≤ (i : Int) := by omega
    have q1 : (i : Int) < (ts.length : Int) := by omega
    have q2 : (i : Int) < 4 := by omega
    have w1 : IntKind.i64.wrap ((i : Int) + 1) = ((i + 1 : Nat) : Int) := by rw [wi (by omega) (by omega)]; rfl
    (refine sg (et t1 (et t2 (et t4 (et t5 (et (dt q1) (dt q2)))))) ?_; try exact ⟨⟩)
    first | refine drawnF ?_ (by decide +kernel) | refine drawnU [] (by decide +kernel) ?_
    (refine sg (et t1 (et t2 (et t4 (et t5 (et q0 (et q1 (et Int.toNat_natCast (et Nat.zero_add (et g0 (et kb hld)))))))))) ?_; try exact ⟨⟩)
    refine (odd_ i (by omega) d' cw t.what t.comp t.lay t.n p K hC hD).x ?_
    rintro v H1 W1 ⟨rfl, ⟨L, rfl⟩, d2, cw2, rfl, hC2, hD2⟩
    have gK := old_get g0 L
    have hlt : H.length < (K ++ L).length := by rw [List.length_append]; omega
    have hO2 : ∀ X, Old H ((K ++ L).set H.length X) := fun X c k e => by
      have := (List.getElem?_eq_some_iff.1 e).1
      exact Olx.set0 _ _ _ c k (by omega) (old_get (o _ _ e) L)
    obtain ⟨wa, we, hwf⟩ := (hC2 (K ++ L) (OlP.old (Old.app' K L)) (fun c k _ e => e)).form
    subst hwf
    (refine sg (et t1 (et t2 (et t4 (et t5 (et gK (et kd0 w1)))))) ?_; try exact ⟨⟩)
    refine ⟨r - 1, by omega, i + 1, d2, _, by omega, hO2 _, by omega, List.getElem?_set_self hlt, Olx.set0 _ _ _ _ _ (by omega) (old_get g1 L), fun J oJ => ?_, hD2, hve.symm, rfl⟩
    refine hC2 J (fun c k hc e => oJ c k hc (Olx.set0 _ _ _ _ _ (hpy c hc).1 (old_get e L))) fun c k hc e => oJ c k (hpn c (.inr (by omega))) (Olx.set0 _ _ _ _ _ (by omega) e)
  · have fin : ∀ X J, OlP p0 H J → (∀ (c : Nat) (k : Blk), H.length ≤ c → (K.set (H.length + 1) X)[c]? = some k → J[c]? = some k) → Cos J cw d'.comps := fun X J oJ hJ => hC J fun c k hc e => by
      by_cases hcl : c < H.length
      · obtain ⟨k', hk'⟩ : ∃ k', H[c]? = some k' := ⟨_, List.getElem?_eq_getElem hcl⟩
        have := o c k' hk'
        rw [e] at this; cases this
        exact oJ c k (fun hh => hc (by rw [hp]; exact .inl ⟨hh, hcl⟩)) hk'
      · exact hJ c k (by omega) (by rw [List.getElem?_set_ne (fun h => (hpy c hc).2 h.symm)]; exact e)
    have hD4 := hD.four (by omega)
    have g9 : ∀ X, (K.set (H.length + 1) X)[H.length + 1]? = some X := fun X => List.getElem?_set_self (by omega)
    have kd1 : decide (H.length + 1 < H.length) = false := df (by omega)
    by_cases h1 : i < ts.length
    · (refine sg (et t1 (et t2 (et t4 (et t5 (et (dt (show (i : Int) < (ts.length : Int) by omega)) (et (df (show ¬ (i : Int) < 4 by omega)) (et g0 (et g1 (et g9 kd1))))))))) ?_; try exact ⟨⟩)
      exact ⟨d', cw, rfl, fin _, hD4⟩
    · (refine sg (et t1 (et t2 (et t4 (et t5 (et (df (show ¬ (i : Int) < (ts.length : Int) by omega)) (et g0 (et g1 (et g9 kd1)))))))) ?_; try exact ⟨⟩)
      exact ⟨d', cw, rfl, fin _, hD4⟩
set_option maxRecDepth 100000 in
set_option maxHeartbeats 8000000 in
theorem same18_ (d : Dc) (cv : Value) (H : AH) (h : Cos H cv d.comps) (hz : DcS d) : SemCall Tryz.prog 7 [dcV d cv] H (.bool true) H [] := by
  refine pure_of ?_ rfl
  obtain ⟨ca, ce, hcf⟩ := h.form
  subst hcf
  have kd : ∀ n, decide (H.length + n < H.length) = false := fun n => df (by omega)
  have kd0 : decide (H.length < H.length) = false := df (by omega)
  have hn := hz.n
  have o1 := Old.app' H [(⟨[.int .i64 d.in_, .int .i64 d.out, .slice ca d.comps.length ce], 0, true⟩ : Blk)]
  have g0 : (H ++ [(⟨[.int .i64 d.in_, .int .i64 d.out, .slice ca d.comps.length ce], 0, true⟩ : Blk)])[H.length]? = some ⟨[.int .i64 d.in_, .int .i64 d.out, .slice ca d.comps.length ce], 0, true⟩ := by rw [hget_app0]; rfl
  have hKl : H.length + 1 ≤ (H ++ [(⟨[.int .i64 d.in_, .int .i64 d.out, .slice ca d.comps.length ce], 0, true⟩ : Blk)]).length := by simp
  refine XCal.of hm Tryz.func7 rfl (fun xs w => Tryz.call7 xs w) Tryz.ntmps7 Tryz.results7 rfl ?_
  (refine sg (et kd kd0) ?_; try exact ⟨⟩)
  generalize H ++ [(⟨[.int .i64 d.in_, .int .i64 d.out, .slice ca d.comps.length ce], 0, true⟩ : Blk)] = K at *
  have hK := h.old CoE.m o1
  have c1 := dright_ d _ K hK
  have c2 := rright18_ d _ K hK hz.m
  first | refine drawnF ?_ (by decide +kernel) | refine drawnU [(1, 2)] (by decide +kernel) ?_
  (refine sg g0 ?_; try exact ⟨⟩)
  refine c1.x ?_
  (refine sg g0 ?_; try exact ⟨⟩)
  refine c2.x ?_
  simp only [go_sem, Nat.reduceEqDiff, Nat.reduceAdd, Nat.reduceSub, Nat.reduceMul, Nat.reduceLT, Nat.reduceLeDiff, Int.reducePow, Int.reduceBEq, Int.reduceBNe, Int.reduceDiv, Int.reduceMod, Int.reduceEq, Int.reduceLT, Int.reduceLE, Int.reduceAdd, Int.reduceSub, Int.reduceMul, Int.reduceNeg, Int.reduceToNat, Int.reduceTDiv, Int.reduceTMod, ↓reduceIte, bne_self_eq_false]
  refine keep (fun r T K' D => D = [] ∧ K = K' ∧ ∃ i : Nat, i + r = 11 ∧ T 1 = ap H.length 0 0 ∧ T 3 = .int .i64 ((i : Int) - 1)) 11
    ⟨rfl, rfl, 0, by omega, by (refine sg trivial ?_; try exact ⟨⟩), by (refine sg trivial ?_; try exact ⟨⟩) <;> rfl⟩ ?_
  clear c1 c2
  rintro r T K' D ⟨rfl, rfl, i, hir, t1, t3⟩
  by_cases hi : ((i : Int) - 1 ≤ (d.comps.length : Int)) ∧ (i : Int) - 1 < 9
  · obtain ⟨hi1, hi2⟩ := hi
    have w1 : IntKind.i64.wrap ((i : Int) - 1 + 1) = ((i + 1 : Nat) : Int) - 1 := by rw [wi (by omega) (by omega)]; omega
    have c1 := nodes_ d _ ((i : Int) - 1) K hK hn
    have c2 := rnodes_ d _ ((i : Int) - 1) K hK hn
    have c3 := deep_ d _ ((i : Int) - 1) K hK hn
    have c4 := rdeep_ d _ ((i : Int) - 1) K hK hn
    (refine sg (et t1 (et t3 (et g0 (et (dt hi1) (dt hi2))))) ?_; try exact ⟨⟩)
    first | refine drawnF ?_ (by decide +kernel) | refine drawnU [(2, 3), (2, 4), (10, 11), (10, 12)] (by decide +kernel) ?_
    (refine sg (et t1 (et t3 g0)) ?_; try exact ⟨⟩)
    refine c1.x ?_
    (refine sg (et t1 (et t3 g0)) ?_; try exact ⟨⟩)
    refine c2.x ?_
    simp only [go_sem, Nat.reduceEqDiff, Nat.reduceAdd, Nat.reduceSub, Nat.reduceMul, Nat.reduceLT, Nat.reduceLeDiff, Int.reducePow, Int.reduceBEq, Int.reduceBNe, Int.reduceDiv, Int.reduceMod, Int.reduceEq, Int.reduceLT, Int.reduceLE, Int.reduceAdd, Int.reduceSub, Int.reduceMul, Int.reduceNeg, Int.reduceToNat, Int.reduceTDiv, Int.reduceTMod, ↓reduceIte, t1, t3, g0, bne_self_eq_false]
    refine c3.x ?_
    (refine sg (et t1 (et t3 g0)) ?_; try exact ⟨⟩)
    refine c4.x ?_
    simp only [go_sem, Nat.reduceEqDiff, Nat.reduceAdd, Nat.reduceSub, Nat.reduceMul, Nat.reduceLT, Nat.reduceLeDiff, Int.reducePow, Int.reduceBEq, Int.reduceBNe, Int.reduceDiv, Int.reduceMod, Int.reduceEq, Int.reduceLT, Int.reduceLE, Int.reduceAdd, Int.reduceSub, Int.reduceMul, Int.reduceNeg, Int.reduceToNat, Int.reduceTDiv, Int.reduceTMod, ↓reduceIte, t1, t3, bne_self_eq_false, w1]
    exact ⟨r - 1, by omega, i + 1, by omega, rfl⟩
  have k1 := dsame_ d d _ _ K hK hK
  have k3 := fun L cw (hc : Cos (K ++ L) cw d.comps) => rdsame_ d d cw _ (K ++ L) hc (hK.old CoE.m (Old.app' K L))
  rw [dcQ_refl] at k1
  rcases (show (decide ((i : Int) - 1 ≤ (d.comps.length : Int)) = false ∧ True) ∨ (decide ((i : Int) - 1 ≤ (d.comps.length : Int)) = true ∧ decide ((i : Int) - 1 < 9) = false) by
    by_cases e : (i : Int) - 1 ≤ (d.comps.length : Int)
    · exact .inr ⟨dt e, df (fun e2 => hi ⟨e, e2⟩)⟩
    · exact .inl ⟨df e, trivial⟩) with ⟨e1, e2⟩ | ⟨e1, e2⟩
  all_goals
    (refine sg (et t1 (et t3 (et g0 (et e1 e2)))) ?_; try exact ⟨⟩)
    refine keep (fun r T K' D => D = [] ∧ Old K K' ∧ K.length ≤ K'.length ∧ ∃ i : Nat, i + r = d.comps.length ∧ T 1 = ap H.length 0 0 ∧ T 41 = .slice ca d.comps.length ce ∧ T 42 = .int .i64 (d.comps.length : Int) ∧ T 43 = .int .i64 (i : Int)) d.comps.length
      ⟨rfl, Old.refl _, Nat.le_refl _, 0, by omega, by (refine sg t1 ?_; try exact ⟨⟩), by (refine sg trivial ?_; try exact ⟨⟩), by (refine sg trivial ?_; try exact ⟨⟩), by (refine sg trivial ?_; try exact ⟨⟩) <;> rfl⟩ ?_
    clear t1 t3 e1 e2 hi hir
    rintro r T K' D ⟨rfl, o, hl, j, hjr, t1, t41, t42, t43⟩
    have kdK : ∀ n, decide (K'.length + n < H.length) = false := fun n => df (by omega)
    have kdK0 : decide (K'.length < H.length) = false := df (by omega)
    by_cases hj : j < d.comps.length
    · obtain ⟨c, hx⟩ : ∃ c, d.comps[j]? = some c := ⟨_, List.getElem?_eq_getElem hj⟩
      obtain ⟨b, g, cells, rw_, cc, hve, hb, ⟨lv, hc, hlv⟩, hcl, hle, hld, hgt⟩ := hK.at hx
      subst hc
      obtain ⟨la, le, hlf⟩ := hlv.form
      subst hlf
      have hcz := hz.c c (List.mem_of_getElem? hx)
      have kb := o _ _ hb
      rw [hve] at t41
      have q0 : (0 : Int) ≤ (j : Int) := by omega
      have q1 : (j : Int) < (d.comps.length : Int) := by omega
      have w1 : IntKind.i64.wrap ((j : Int) + 1) = ((j + 1 : Nat) : Int) := by rw [wi (by omega) (by omega)]; rfl
      (refine sg (et t1 (et t41 (et t42 (et t43 (et (dt q1) (et q0 (et q1 (et Int.toNat_natCast (et Nat.zero_add (et kb (et hld (et kdK kdK0)))))))))))) ?_; try exact ⟨⟩)
      refine keep (fun r T K' D => D = [] ∧ Old K K' ∧ K.length ≤ K'.length ∧ ∃ k : Nat, k + r = c.length ∧ T 1 = ap H.length 0 0 ∧ T 41 = sl b 0 g d.comps.length 1 ∧ T 42 = .int .i64 (d.comps.length : Int) ∧ T 43 = .int .i64 (j : Int) ∧ T 48 = .slice la c.length le ∧ T 49 = .int .i64 (c.length : Int) ∧ T 50 = .int .i64 (k : Int)) c.length
        ⟨rfl, o.app _, by rw [List.length_append]; omega, 0, by omega, by (refine sg t1 ?_; try exact ⟨⟩), by (refine sg t41 ?_; try exact ⟨⟩), by (refine sg t42 ?_; try exact ⟨⟩), by (refine sg t43 ?_; try exact ⟨⟩), by (refine sg trivial ?_; try exact ⟨⟩), by (refine sg trivial ?_; try exact ⟨⟩), by (refine sg trivial ?_; try exact ⟨⟩) <;> rfl⟩ ?_
      clear t1 t41 t42 t43 kb kdK kdK0 hl
      rintro r2 T K2 D ⟨rfl, o2, hl2, k, hkr, t1, t41, t42, t43, t48, t49, t50⟩
      have kdK : ∀ n, decide (K2.length + n < H.length) = false := fun n => df (by omega)
      have kdK0 : decide (K2.length < H.length) = false := df (by omega)
      by_cases hk : k < c.length
      · obtain ⟨l, hkl⟩ : ∃ l, c[k]? = some l := ⟨_, List.getElem?_eq_getElem hk⟩
        obtain ⟨b2, g2, cells2, rw2, c2, hve2, hb2, ⟨v0, v1, v2, v3, v4, v5, v6, v7, v8, pm, vw, vh, vp, vc, vd, vda, vf, vt, rfl, hLV, hSV⟩, hcl2, hle2, hld2, hgt2⟩ := hlv.at hkl
        have kb2 := o2 _ _ hb2
        rw [hve2] at t48
        have p0 : (0 : Int) ≤ (k : Int) := by omega
        have p1 : (k : Int) < (c.length : Int) := by omega
        have w2 : IntKind.i64.wrap ((k : Int) + 1) = ((k + 1 : Nat) : Int) := by rw [wi (by omega) (by omega)]; rfl
        have oo := o2.app [⟨lyVs l v0 v1 v2 v3 v4 v5 v6 v7 v8 pm vw vh vp vc vd vda vf vt, 0, true⟩]
        have c1 := layer_ l v0 v1 v2 v3 v4 v5 v6 v7 v8 pm vw vh vp vc vd vda vf vt _ (hLV.old oo) (hSV.old oo)
        have c2 := rlayer18_ l v0 v1 v2 v3 v4 v5 v6 v7 v8 pm vw vh vp vc vd vda vf vt _ (hLV.old oo) (hSV.old oo) (hcz.2 l (List.mem_of_getElem? hkl)).m
        (refine sg (et t1 (et t41 (et t42 (et t43 (et t48 (et t49 (et t50 (et (dt p1) (et p0 (et p1 (et Int.toNat_natCast (et Nat.zero_add (et kb2 (et hld2 (et kdK kdK0))))))))))))))) ?_; try exact ⟨⟩)
        first | refine drawnF ?_ (by decide +kernel) | refine drawnU [(1, 2)] (by decide +kernel) ?_
        (refine sg trivial ?_; try exact ⟨⟩)
        refine c1.x ?_
        (refine sg trivial ?_; try exact ⟨⟩)
        refine c2.x ?_
        simp only [go_sem, Nat.reduceEqDiff, Nat.reduceAdd, Nat.reduceSub, Nat.reduceMul, Nat.reduceLT, Nat.reduceLeDiff, Int.reducePow, Int.reduceBEq, Int.reduceBNe, Int.reduceDiv, Int.reduceMod, Int.reduceEq, Int.reduceLT, Int.reduceLE, Int.reduceAdd, Int.reduceSub, Int.reduceMul, Int.reduceNeg, Int.reduceToNat, Int.reduceTDiv, Int.reduceTMod, ↓reduceIte, t1, t41, t42, t43, t48, t49, t50, bne, beq_self_eq_true, Bool.not_true, w2]
        exact ⟨r2 - 1, by omega, oo, by omega, k + 1, by omega, hve2.symm, rfl⟩
      · (refine sg (et t1 (et t41 (et t42 (et t43 (et t48 (et t49 (et t50 (et (df (show ¬ (k : Int) < (c.length : Int) by omega)) w1)))))))) ?_; try exact ⟨⟩)
        exact ⟨r - 1, by omega, o2, by omega, j + 1, by omega, hve.symm, rfl⟩
    · have g0' := o _ _ g0
      have hK2 := hK.old CoE.m o
      (refine sg (et t1 (et t41 (et t42 (et t43 (df (show ¬ (j : Int) < (d.comps.length : Int) by omega)))))) ?_; try exact ⟨⟩)
      first | refine drawnF ?_ (by decide +kernel) | refine drawnU [(1, 2)] (by decide +kernel) ?_
      (refine sg (et t1 g0') ?_; try exact ⟨⟩)
      refine (copy_ d _ K' hK2 hz).x ?_
      rintro v H1 W1 ⟨rfl, ⟨L, rfl⟩, cw, rfl, hcw⟩
      have hC1 : Cos (K' ++ L) cw d.comps := hcw.here.sub fun _ _ => CoT.e
      have r1 := rdsame_ d d cw (.slice ca d.comps.length ce) (K' ++ L) hC1 (hK2.old CoE.m (Old.app' K' L))
      have r2 := dsame_ d d (.slice ca d.comps.length ce) (.slice ca d.comps.length ce) (K' ++ L) (hK2.old CoE.m (Old.app' K' L)) (hK2.old CoE.m (Old.app' K' L))
      rw [dcQ_refl] at r1 r2
      (refine sg (et t1 (old_get g0')) ?_; try exact ⟨⟩)
      refine r1.x ?_
      (refine sg (et t1 (old_get g0')) ?_; try exact ⟨⟩)
      refine r2.x ?_
      (refine sg trivial ?_; try exact ⟨⟩)
end Go.Proofs.YtnebnbdeobcegaaGreat
/- Documents: the walk of DocTells. -/
namespace Go.Proofs.YtnebnbdeobcegaaGreat
open Go Go.RowKit E
attribute [local irreducible] XRun XOps XCode XCal XLoop XQ SemCall
set_option linter.unusedSimpArgs false
set_option linter.unusedVariables false
theorem RowOf.take {α : Type} {s : Nat} {E : AH → List Value → α → Prop} {K : AH} {b g : Nat} {l : List α} (h : RowOf s E K (sl b 0 g l.length s) l) {n : Nat} (hn : n ≤ l.length) : RowOf s E K (sl b 0 g n s) (l.take n) := by
  have hl := h.len
  have htl : (l.take n).length = n := by rw [List.length_take]; omega
  rcases h with ⟨rfl, ⟨e, he⟩ | he⟩ | ⟨b', g', rest, rw_, cs, h1, h2, h3, h4, h5⟩
  · cases he
  · cases he
  · obtain ⟨rfl, rfl⟩ := sl_inj h1
    refine .inr ⟨b, g, (cs.drop n).flatten ++ rest, rw_, cs.take n, by rw [htl], ?_, by rw [List.length_take, List.length_take, h3], by rw [htl]; omega, fun i x hx => ?_⟩
    · rw [← List.append_assoc, ← List.flatten_append, List.take_append_drop]; exact h2
    · have hi := (List.getElem?_eq_some_iff.1 hx).1
      rw [htl] at hi
      rw [List.getElem?_take_of_lt hi] at hx ⊢
      exact h5 i x hx
set_option maxHeartbeats 8000000 in
theorem doctells (lv tv rv : Value) (ls : List Int) (ts : List Tn) (rd : Dc) (t : Nat) (H : AH) (h : Ints H t lv ls) (ht : Tns H tv ts) (hr : Cos H rv rd.comps) (hm' : DcM rd) : SemCall Tryz.prog 4 [lv, tv, dcV rd rv] H (.bool true) H [] := by
  refine pure_of ?_ rfl
  have kd : ∀ n, decide (H.length + n < H.length) = false := fun n => df (by omega)
  have kd0 : decide (H.length < H.length) = false := df (by omega)
  have hrl := hr.len
  obtain ⟨ra, re, hrf⟩ := hr.form
  subst hrf
  refine XCal.of hm Tryz.func4 rfl (fun xs w => Tryz.call4 xs w) Tryz.ntmps4 Tryz.results4 rfl ?_
  (refine sg (et kd kd0) ?_; try exact ⟨⟩)
  refine (kdoc_ _ (h.app _)).x ?_
  rintro v H1 W1 ⟨rfl, ⟨L, rfl⟩, d, cv, rfl, hM, hD⟩
  have o1 : Old H (H ++ [(⟨[.int .i64 rd.in_, .int .i64 rd.out, .slice ra rd.comps.length re], 0, true⟩ : Blk)] ++ L) := (Old.app' _ _).app _
  have g0 : (H ++ [(⟨[.int .i64 rd.in_, .int .i64 rd.out, .slice ra rd.comps.length re], 0, true⟩ : Blk)] ++ L)[H.length]? = some ⟨[.int .i64 rd.in_, .int .i64 rd.out, .slice ra rd.comps.length re], 0, true⟩ := old_get (by rw [hget_app0]; rfl) L
  have hDp : Dep (H.length + 1) (H ++ [(⟨[.int .i64 rd.in_, .int .i64 rd.out, .slice ra rd.comps.length re], 0, true⟩ : Blk)] ++ L) (fun J => Cos J cv d.comps) := (hM.dep (by have := hD.n; omega)).low (by simp)
  have hC := hDp.here
  have hKl : H.length + 1 ≤ (H ++ [(⟨[.int .i64 rd.in_, .int .i64 rd.out, .slice ra rd.comps.length re], 0, true⟩ : Blk)] ++ L).length := by simp
  obtain ⟨ca, ce, hcf⟩ := hC.form
  subst hcf
  clear hM
  generalize H ++ [(⟨[.int .i64 rd.in_, .int .i64 rd.out, .slice ra rd.comps.length re], 0, true⟩ : Blk)] ++ L = K at *
  have kdK : ∀ n, decide (K.length + n < H.length) = false := fun n => df (by omega)
  have kdK0 : decide (K.length < H.length) = false := df (by omega)
  (refine sg (et kdK kdK0) ?_; try exact ⟨⟩)
  refine (Odd_ d _ tv ts (fun c => c = H.length) _ (fun J oJ => hDp J fun c k hc e => oJ c k (by omega) (old_get e _)) hD.smallN ((ht.old (fun _ _ _ _ _ h => h) o1).old (fun _ _ _ _ _ h => h) (Old.app' _ _))).x ?_
  rintro v H1 W1 ⟨rfl, ⟨L2, rfl⟩, d2, cw, rfl, hC2, hD2⟩
  obtain ⟨wa, we, hwf⟩ := (hC2 _ (OlP.old (Old.app' _ _)) (fun c k _ e => e)).form
  subst hwf
  have o2 : Old K (K ++ [(⟨[.int .i64 d.in_, .int .i64 d.out, .slice ca d.comps.length ce], 0, true⟩ : Blk)] ++ L2) := (Old.app' _ _).app _
  have g7 : (K ++ [(⟨[.int .i64 d.in_, .int .i64 d.out, .slice ca d.comps.length ce], 0, true⟩ : Blk)] ++ L2)[K.length]? = some ⟨[.int .i64 d.in_, .int .i64 d.out, .slice ca d.comps.length ce], 0, true⟩ := old_get (by rw [hget_app0]; rfl) L2
  have hVl : K.length + 1 ≤ (K ++ [(⟨[.int .i64 d.in_, .int .i64 d.out, .slice ca d.comps.length ce], 0, true⟩ : Blk)] ++ L2).length := by simp
  have hC1 : ∀ J, OlP (fun c => c = H.length) (K ++ [(⟨[.int .i64 d.in_, .int .i64 d.out, .slice ca d.comps.length ce], 0, true⟩ : Blk)] ++ L2) J → Cos J (.slice ca d.comps.length ce) d.comps := fun J oJ => hDp J fun c k hc e => oJ c k (by omega) (o2 _ _ e)
  have hC2 : ∀ J, OlP (fun c => c = H.length) (K ++ [(⟨[.int .i64 d.in_, .int .i64 d.out, .slice ca d.comps.length ce], 0, true⟩ : Blk)] ++ L2) J → Cos J (.slice wa d2.comps.length we) d2.comps := fun J oJ => hC2 J (fun c k hc e => oJ c k hc (old_get e L2)) fun c k hc e => oJ c k (by simp at hc; omega) e
  have g0 := o2 _ _ g0
  have hR := hr.old CoE.m (o1.trans o2)
  generalize K ++ [(⟨[.int .i64 d.in_, .int .i64 d.out, .slice ca d.comps.length ce], 0, true⟩ : Blk)] ++ L2 = V at *
  have kdV : ∀ n, decide (V.length + n < H.length) = false := fun n => df (by omega)
  have kdV0 : decide (V.length < H.length) = false := df (by omega)
  have hlt : H.length < V.length := by omega
  have main : ∀ (J : AH) (r' : Dc) (ra' : Option Addr) (re' : Nat), Cos J (.slice ca d.comps.length ce) d.comps → Cos J (.slice wa d2.comps.length we) d2.comps → Cos J (.slice ra' r'.comps.length re') r'.comps → DcM r' →
      (SemCall Tryz.prog 7 [dcV d (.slice ca d.comps.length ce)] J (.bool true) J [] ∧ SemCall Tryz.prog 7 [dcV d2 (.slice wa d2.comps.length we)] J (.bool true) J [] ∧ SemCall Tryz.prog 10 [dcV r' (.slice ra' r'.comps.length re')] J (.int .i64 (rightE r')) J [] ∧ SemCall Tryz.prog 11 [dcV r' (.slice ra' r'.comps.length re')] J (.int .i64 (rightE r')) J [] ∧
        SemCall Tryz.prog 12 [dcV d (.slice ca d.comps.length ce), dcV d2 (.slice wa d2.comps.length we)] J (.bool (dcQ d d2)) J [] ∧ SemCall Tryz.prog 13 [dcV d (.slice ca d.comps.length ce), dcV d2 (.slice wa d2.comps.length we)] J (.bool (dcQ d d2)) J []) := fun J r' ra' re' a b c e =>
    ⟨same18_ d _ J a (hD.smallN.s (by omega)), same18_ d2 _ J b (hD2.s (by omega)), dright_ r' _ J c, rright18_ r' _ J c e, dsame_ d d2 _ _ J a b, rdsame_ d d2 _ _ J a b⟩
  by_cases h10 : 10 < rd.comps.length
  · rcases hR with ⟨e, _⟩ | ⟨b, g, rest, rw_, cs, hve, hb, h3, h4, h5⟩
    · rw [e] at h10; simp at h10
    have hR' : Cos V (sl b 0 g 10 1) (rd.comps.take 10) := RowOf.take (l := rd.comps) (.inr ⟨b, g, rest, rw_, cs, rfl, hb, h3, h4, h5⟩) (by omega)
    rw [hve] at g0
    have hq : (10 : Int) < (rd.comps.length : Int) := by omega
    have hsl : aslice Tryz.prog 22 (sl b 0 g rd.comps.length 1) none (some (.int .i64 10)) none = some (sl b 0 g 10 1) := by
      have h6 : ((10 : Int) ≤ (rd.comps.length : Int)) = True := eq_true (by omega)
      simp only [go_sem, Nat.reduceEqDiff, Nat.reduceAdd, Nat.reduceSub, Nat.reduceMul, Nat.reduceLT, Nat.reduceLeDiff, Int.reducePow, Int.reduceBEq, Int.reduceBNe, Int.reduceDiv, Int.reduceMod, Int.reduceEq, Int.reduceLT, Int.reduceLE, Int.reduceAdd, Int.reduceSub, Int.reduceMul, Int.reduceNeg, Int.reduceToNat, Int.reduceTDiv, Int.reduceTMod, ↓reduceIte, aslice, abound, h6, show (0 : Int) ≤ 10 by omega, show 10 ≤ rd.comps.length by omega, true_and, and_self, and_true, Nat.zero_le, Nat.zero_mul, Nat.sub_zero, Nat.add_zero]
    have gset : ∀ L X, ((V ++ L).set H.length X)[H.length]? = some X := fun L X => List.getElem?_set_self (by rw [List.length_append]; omega)
    have gs7 : ∀ L X, ((V ++ L).set H.length X)[K.length]? = some ⟨[.int .i64 d.in_, .int .i64 d.out, .slice ca d.comps.length ce], 0, true⟩ := fun L X => by rw [List.getElem?_set_ne (by omega)]; exact old_get g7 L
    have gs8 : ∀ L X, ((V ++ L).set H.length X)[V.length]? = L[0]? := fun L X => by rw [List.getElem?_set_ne (by omega), hget_app0]
    have oJ : ∀ L X, OlP (fun c => c = H.length) V ((V ++ L).set H.length X) := fun L X c k hc e => by rw [List.getElem?_set_ne (fun h => hc h.symm)]; exact old_get e L
    have oH : ∀ L X, Old H ((V ++ L).set H.length X) := fun L X c k e => oJ L X c k (by have := (List.getElem?_eq_some_iff.1 e).1; intro hh; omega) (o2 _ _ (o1 _ _ e))
    have hrt := hr
    rw [hve] at hrt
    have mm := fun L X => main ((V ++ L).set H.length X) ⟨rd.in_, rd.out, rd.comps.take 10⟩ (some ⟨b, 0, some g⟩) 1 (hC1 _ (oJ L X)) (hC2 _ (oJ L X)) (by
      show Cos _ (sl b 0 g (rd.comps.take 10).length 1) (rd.comps.take 10)
      rw [List.length_take, Nat.min_eq_left (by omega)]
      exact RowOf.take (l := rd.comps) (hrt.old CoE.m (oH L X)) (by omega)) (fun c hc l hl => hm' c (List.mem_of_mem_take hc) l hl)
    have ht10 : (rd.comps.take 10).length = 10 := by rw [List.length_take]; omega
    simp only [ht10] at mm
    simp only [go_sem, Nat.reduceEqDiff, Nat.reduceAdd, Nat.reduceSub, Nat.reduceMul, Nat.reduceLT, Nat.reduceLeDiff, Int.reducePow, Int.reduceBEq, Int.reduceBNe, Int.reduceDiv, Int.reduceMod, Int.reduceEq, Int.reduceLT, Int.reduceLE, Int.reduceAdd, Int.reduceSub, Int.reduceMul, Int.reduceNeg, Int.reduceToNat, Int.reduceTDiv, Int.reduceTMod, ↓reduceIte, kdV, kdV0, old_get g0, dt hq, kd0, Option.map, hsl]
    obtain ⟨m1, m2, m3, m4, m5, m6⟩ := mm [⟨[.int .i64 d2.in_, .int .i64 d2.out, .slice wa d2.comps.length we], 0, true⟩] ⟨[.int .i64 rd.in_, .int .i64 rd.out, sl b 0 g 10 1], 0, true⟩
    first | refine drawnF ?_ (by decide +kernel) | refine drawnU [(8, 9), (16, 17), (16, 18)] (by decide +kernel) ?_
    (refine sg (et gset (et gs7 gs8)) ?_; try exact ⟨⟩)
    refine m1.x ?_
    (refine sg (et gset (et gs7 gs8)) ?_; try exact ⟨⟩)
    refine m2.x ?_
    (refine sg (et gset (et gs7 gs8)) ?_; try exact ⟨⟩)
    refine m3.x ?_
    (refine sg (et gset (et gs7 gs8)) ?_; try exact ⟨⟩)
    refine m4.x ?_
    simp only [go_sem, Nat.reduceEqDiff, Nat.reduceAdd, Nat.reduceSub, Nat.reduceMul, Nat.reduceLT, Nat.reduceLeDiff, Int.reducePow, Int.reduceBEq, Int.reduceBNe, Int.reduceDiv, Int.reduceMod, Int.reduceEq, Int.reduceLT, Int.reduceLE, Int.reduceAdd, Int.reduceSub, Int.reduceMul, Int.reduceNeg, Int.reduceToNat, Int.reduceTDiv, Int.reduceTMod, ↓reduceIte, gset, gs7, gs8, beq_self_eq_true]
    refine m5.x ?_
    (refine sg (et gset (et gs7 gs8)) ?_; try exact ⟨⟩)
    refine m6.x ?_
    simp only [go_sem, Nat.reduceEqDiff, Nat.reduceAdd, Nat.reduceSub, Nat.reduceMul, Nat.reduceLT, Nat.reduceLeDiff, Int.reducePow, Int.reduceBEq, Int.reduceBNe, Int.reduceDiv, Int.reduceMod, Int.reduceEq, Int.reduceLT, Int.reduceLE, Int.reduceAdd, Int.reduceSub, Int.reduceMul, Int.reduceNeg, Int.reduceToNat, Int.reduceTDiv, Int.reduceTMod, ↓reduceIte, gset, gs7, gs8, beq_self_eq_true]
    refine (dknown_ _).x ?_
    (refine sg kdK0 ?_; try exact ⟨⟩)
  · have mm := fun L => main (V ++ L) rd ra re (hC1 _ (OlP.old (Old.app' V L))) (hC2 _ (OlP.old (Old.app' V L))) (hR.old CoE.m (Old.app' V L)) hm'
    (refine sg (et kdV (et kdV0 (et (old_get g0) (et (df (show ¬ (10 : Int) < (rd.comps.length : Int) by omega)) kd0)))) ?_; try exact ⟨⟩)
    obtain ⟨m1, m2, m3, m4, m5, m6⟩ := mm [⟨[.int .i64 d2.in_, .int .i64 d2.out, .slice wa d2.comps.length we], 0, true⟩]
    first | refine drawnF ?_ (by decide +kernel) | refine drawnU [(8, 9), (16, 17), (16, 18)] (by decide +kernel) ?_
    (refine sg (et (old_get g0) (old_get g7)) ?_; try exact ⟨⟩)
    refine m1.x ?_
    (refine sg (et (old_get g0) (old_get g7)) ?_; try exact ⟨⟩)
    refine m2.x ?_
    (refine sg (et (old_get g0) (old_get g7)) ?_; try exact ⟨⟩)
    refine m3.x ?_
    (refine sg (et (old_get g0) (old_get g7)) ?_; try exact ⟨⟩)
    refine m4.x ?_
    simp only [go_sem, Nat.reduceEqDiff, Nat.reduceAdd, Nat.reduceSub, Nat.reduceMul, Nat.reduceLT, Nat.reduceLeDiff, Int.reducePow, Int.reduceBEq, Int.reduceBNe, Int.reduceDiv, Int.reduceMod, Int.reduceEq, Int.reduceLT, Int.reduceLE, Int.reduceAdd, Int.reduceSub, Int.reduceMul, Int.reduceNeg, Int.reduceToNat, Int.reduceTDiv, Int.reduceTMod, ↓reduceIte, old_get g0, old_get g7, beq_self_eq_true]
    refine m5.x ?_
    (refine sg (et (old_get g0) (old_get g7)) ?_; try exact ⟨⟩)
    refine m6.x ?_
    simp only [go_sem, Nat.reduceEqDiff, Nat.reduceAdd, Nat.reduceSub, Nat.reduceMul, Nat.reduceLT, Nat.reduceLeDiff, Int.reducePow, Int.reduceBEq, Int.reduceBNe, Int.reduceDiv, Int.reduceMod, Int.reduceEq, Int.reduceLT, Int.reduceLE, Int.reduceAdd, Int.reduceSub, Int.reduceMul, Int.reduceNeg, Int.reduceToNat, Int.reduceTDiv, Int.reduceTMod, ↓reduceIte, old_get g0, old_get g7, beq_self_eq_true]
    refine (dknown_ _).x ?_
    (refine sg kdK0 ?_; try exact ⟨⟩)
end Go.Proofs.YtnebnbdeobcegaaGreat
/- Arguments that are documents. -/
namespace Go.Proofs.YtnebnbdeobcegaaGreat
open Go Go.RowKit E
set_option linter.unusedSimpArgs false
set_option linter.unusedVariables false
set_option maxRecDepth 100000
section
variable {P : Program} {H : AH}
theorem pa_cons {F : TypeId → List Value → Prop} {f : Go.Field} {fs : List Go.Field} {o k : Nat} {cs : List Value} (hk : P.cellsOf f.type = k) (h : parts F P (f :: fs) o cs) : ∃ c r, cs = c ++ r ∧ c.length = k ∧ F f.type c ∧ parts F P fs (o + P.cellsOf f.type) r := by
  obtain ⟨_, h1, h2, h3⟩ := h
  rw [hk] at h1 h2 h3
  refine ⟨cs.take k, cs.drop k, (List.take_append_drop k cs).symm, by rw [List.length_take]; omega, h1, ?_⟩
  rw [hk]; exact h3
theorem pa_nil {F : TypeId → List Value → Prop} {o : Nat} {cs : List Value} (h : parts F P [] o cs) : cs = [] := h
theorem el_cons {F : List Value → Prop} {n : Nat} {cs : List Value} (h : elems P F 1 (n + 1) cs) : ∃ x r, cs = x :: r ∧ F [x] ∧ elems P F 1 n r := by
  obtain ⟨h1, h2, h3⟩ := h
  match cs, h1, h2, h3 with
  | x :: r, h1, _, h3 => exact ⟨x, r, rfl, h1, h3⟩
  | [], _, h2, _ => simp at h2
theorem rd_int {n : Nat} {k : IntKind} {cs : List Value} {t : TypeId} (hu : P.underlying t = some (.int k)) (h : Rd P (n + 1) H t cs) : ∃ a : Int, cs = [.int k a] := by
  unfold Rd at h; rw [hu] at h
  obtain ⟨a, h1, _⟩ := h
  exact ⟨a, h1⟩
theorem rd_bool {n : Nat} {cs : List Value} {t : TypeId} (hu : P.underlying t = some .bool) (h : Rd P (n + 1) H t cs) : ∃ a : Bool, cs = [.bool a] := by
  unfold Rd at h; rw [hu] at h; exact h
theorem el_rows {α : Type} {E : AH → List Value → α → Prop} {Q : α → Prop} {F : List Value → Prop} {s : Nat} (hF : ∀ cs, F cs → ∃ x, E H cs x ∧ Q x) : ∀ {len : Nat} {us : List Value}, elems P F s len us → ∃ (cs : List (List Value)) (l : List α), us = cs.flatten ∧ cs.length = len ∧ l.length = len ∧ (∀ (i : Nat) x, l[i]? = some x → ∃ c, cs[i]? = some c ∧ c.length = s ∧ E H c x) ∧ ∀ x ∈ l, Q x
  | 0, us, h => ⟨[], [], h, rfl, rfl, fun i x hx => by simp at hx, fun x hx => by cases hx⟩
  | len + 1, us, h => by
    obtain ⟨h1, h2, h3⟩ := h
    obtain ⟨cs, l, e1, e2, e3, e4, e5⟩ := el_rows hF h3
    obtain ⟨x, ex, qx⟩ := hF _ h1
    refine ⟨us.take s :: cs, x :: l, ?_, by simp [e2], by simp [e3], fun i y hy => ?_, fun y hy => ?_⟩
    · rw [List.flatten_cons, ← e1, List.take_append_drop]
    · cases i with
      | zero => simp at hy; subst hy; exact ⟨_, rfl, by rw [List.length_take]; omega, ex⟩
      | succ i => simp at hy; obtain ⟨c, f1, f2, f3⟩ := e4 i y hy; exact ⟨c, by simpa using f1, f2, f3⟩
    · rcases List.mem_cons.1 hy with rfl | hy
      · exact qx
      · exact e5 y hy
theorem rd_rows {α : Type} {E : AH → List Value → α → Prop} {Q : α → Prop} {n s y : Nat} {u : Value} {t e : TypeId} (hu : P.underlying t = some (.slice e)) (hs : P.cellsOf e = s) (hb : P.bytesOf e = y) (hy : 1 ≤ y) (hF : ∀ cs, Rd P n H e cs → ∃ x, E H cs x ∧ Q x) (h : Rd P (n + 1) H t [u]) :
    ∃ l : List α, RowOf s E H u l ∧ l.length ≤ mxR ∧ ∀ x ∈ l, Q x := by
  unfold Rd at h; rw [hu] at h
  rcases h with h | h | ⟨b, len, us, h1, h2, h3, h4, h5⟩
  · cases h; exact ⟨[], RowOf.none, by unfold mxR; simp, fun x hx => by cases hx⟩
  · cases h; exact ⟨[], .inl ⟨rfl, .inl ⟨_, rfl⟩⟩, by unfold mxR; simp, fun x hx => by cases hx⟩
  · rw [hs] at h1 h4 h5
    cases h1
    obtain ⟨cs, l, e1, e2, e3, e4, e5⟩ := el_rows hF h5
    subst e1
    have hl : len ≤ mxR := by
      unfold mxR
      have := h3.2; rw [hb] at this
      exact Nat.le_trans (Nat.le_mul_of_pos_right len hy) this
    refine ⟨l, .inr ⟨b, 0, [], false, cs, by rw [e3], by rw [List.append_nil]; exact h2, by rw [e2, e3], by rw [e3]; exact h3.1, e4⟩, by rw [e3]; exact hl, e5⟩
end
variable {H : AH}
theorem rd_ez {n : Nat} {cs : List Value} (h : Rd Tryz.prog (n + 2) H 83 cs) : ∃ e : Ez, cs = ezC e := by
  unfold Rd at h; rw [Tryz.underlying83] at h
  obtain ⟨c1, r, rfl, _, h1, h⟩ := pa_cons (k := 1) (by kernel_rfl) h
  obtain ⟨c2, r, rfl, _, h2, h⟩ := pa_cons (k := 1) (by kernel_rfl) h
  obtain ⟨c3, r, rfl, _, h3, h⟩ := pa_cons (k := 1) (by kernel_rfl) h
  obtain ⟨c4, r, rfl, _, h4, h⟩ := pa_cons (k := 1) (by kernel_rfl) h
  obtain rfl := pa_nil h
  obtain ⟨a1, rfl⟩ := rd_int Tryz.underlying2 h1
  obtain ⟨a2, rfl⟩ := rd_int Tryz.underlying2 h2
  obtain ⟨a3, rfl⟩ := rd_int Tryz.underlying2 h3
  obtain ⟨a4, rfl⟩ := rd_int Tryz.underlying2 h4
  exact ⟨⟨a1, a2, a3, a4⟩, rfl⟩
theorem rd_ky {n : Nat} {cs : List Value} (h : Rd Tryz.prog (n + 3) H 85 cs) : ∃ k : Ky, KyE H cs k ∧ True := by
  unfold Rd at h; rw [Tryz.underlying85] at h
  obtain ⟨c1, r, rfl, _, h1, h⟩ := pa_cons (k := 1) (by kernel_rfl) h
  obtain ⟨c2, r, rfl, _, h2, h⟩ := pa_cons (k := 1) (by kernel_rfl) h
  obtain ⟨c3, r, rfl, _, h3, h⟩ := pa_cons (k := 1) (by kernel_rfl) h
  obtain ⟨c4, r, rfl, _, h4, h⟩ := pa_cons (k := 4) (by kernel_rfl) h
  obtain rfl := pa_nil h
  obtain ⟨a1, rfl⟩ := rd_int Tryz.underlying2 h1
  obtain ⟨a2, rfl⟩ := rd_int Tryz.underlying2 h2
  obtain ⟨a3, rfl⟩ := rd_int Tryz.underlying3 h3
  obtain ⟨e, rfl⟩ := rd_ez h4
  exact ⟨⟨a1, a2, a3, e⟩, rfl, trivial⟩
theorem rd_kys {n : Nat} {u : Value} (h : Rd Tryz.prog (n + 4) H 36 [u]) : ∃ l : List Ky, Kys H u l ∧ l.length ≤ mxR := by
  obtain ⟨l, h1, h2, _⟩ := rd_rows (E := KyE) (Q := fun _ => True) (s := 7) (y := 56) Tryz.underlying36 (by kernel_rfl) (by kernel_rfl) (by decide) (fun cs h => rd_ky h) h
  exact ⟨l, h1, h2⟩
theorem rd_ins {n : Nat} {u : Value} (h : Rd Tryz.prog (n + 2) H 48 [u]) : ∃ l : List Int, Ins H u l ∧ l.length ≤ mxR := by
  obtain ⟨l, h1, h2, _⟩ := rd_rows (E := InE) (Q := fun _ => True) (s := 1) (y := 8) Tryz.underlying48 (by kernel_rfl) (by kernel_rfl) (by decide) (fun cs h => by obtain ⟨a, rfl⟩ := rd_int Tryz.underlying2 h; exact ⟨a, rfl, trivial⟩) h
  exact ⟨l, h1, h2⟩
theorem rd_pt {n : Nat} {cs : List Value} (h : Rd Tryz.prog (n + 2) H 44 cs) : ∃ p : Pt, cs = [.int .i64 p.1, .int .i64 p.2] := by
  unfold Rd at h; rw [Tryz.underlying44] at h
  obtain ⟨c1, r, rfl, _, h1, h⟩ := pa_cons (k := 1) (by kernel_rfl) h
  obtain ⟨c2, r, rfl, _, h2, h⟩ := pa_cons (k := 1) (by kernel_rfl) h
  obtain rfl := pa_nil h
  obtain ⟨a1, rfl⟩ := rd_int Tryz.underlying2 h1
  obtain ⟨a2, rfl⟩ := rd_int Tryz.underlying2 h2
  exact ⟨(a1, a2), rfl⟩
theorem ptE_pts {u : Value} {l : List Pt} (h : RowOf 2 PtE H u l) : Pts H u l := by
  rcases h with h | ⟨b, g, rest, rw_, cs, h1, h2, h3, h4, h5⟩
  · exact .inl h
  · have e : cs.flatten = ptC l := by
      clear h1 h2 h4
      induction l generalizing cs with
      | nil => have : cs = [] := List.eq_nil_of_length_eq_zero (by simpa using h3); subst this; rfl
      | cons p l ih =>
        match cs, h3, h5 with
        | c :: cs, h3, h5 =>
          obtain ⟨c', e1, e2, e3⟩ := h5 0 p rfl
          simp at e1; subst e1
          have e3 : c = [.int .i64 p.1, .int .i64 p.2] := e3
          rw [List.flatten_cons, ih cs (by simpa using h3) (fun i x hx => by obtain ⟨c, g1, g2, g3⟩ := h5 (i + 1) x (by simpa using hx); exact ⟨c, by simpa using g1, g2, g3⟩), e3]
          rfl
    exact .inr ⟨b, g, rest, rw_, h1, by rw [← e]; exact h2, h4⟩
theorem rd_pts {n : Nat} {u : Value} (h : Rd Tryz.prog (n + 3) H 37 [u]) : ∃ l : List Pt, Pts H u l ∧ l.length ≤ mxR := by
  obtain ⟨l, h1, h2, _⟩ := rd_rows (E := PtE) (Q := fun _ => True) (s := 2) (y := 16) Tryz.underlying37 (by kernel_rfl) (by kernel_rfl) (by decide) (fun cs h => by obtain ⟨a, rfl⟩ := rd_pt h; exact ⟨a, rfl, trivial⟩) h
  exact ⟨l, ptE_pts h1, h2⟩
theorem rd_path {n : Nat} {cs : List Value} (h : Rd Tryz.prog (n + 4) H 39 cs) : ∃ (p : PL) (pv : Value), cs = [.bool p.1, pv] ∧ Pts H pv p.2 ∧ p.2.length ≤ mxR := by
  unfold Rd at h; rw [Tryz.underlying39] at h
  obtain ⟨c1, r, rfl, _, h1, h⟩ := pa_cons (k := 1) (by kernel_rfl) h
  obtain ⟨c2, r, rfl, l2, h2, h⟩ := pa_cons (k := 1) (by kernel_rfl) h
  obtain rfl := pa_nil h
  obtain ⟨a1, rfl⟩ := rd_bool Tryz.underlying4 h1
  match c2, l2, h2 with
  | [u], _, h2 =>
    obtain ⟨l, hl, hn⟩ := rd_pts h2
    exact ⟨(a1, l), u, rfl, hl, hn⟩
theorem rd_pk {n : Nat} {cs : List Value} (h : Rd Tryz.prog (n + 5) H 106 cs) : ∃ k : Pk, PkE H cs k ∧ True := by
  unfold Rd at h; rw [Tryz.underlying106] at h
  obtain ⟨c1, r, rfl, _, h1, h⟩ := pa_cons (k := 1) (by kernel_rfl) h
  obtain ⟨c2, r, rfl, _, h2, h⟩ := pa_cons (k := 2) (by kernel_rfl) h
  obtain ⟨c3, r, rfl, _, h3, h⟩ := pa_cons (k := 1) (by kernel_rfl) h
  obtain ⟨c4, r, rfl, _, h4, h⟩ := pa_cons (k := 4) (by kernel_rfl) h
  obtain rfl := pa_nil h
  obtain ⟨a1, rfl⟩ := rd_int Tryz.underlying2 h1
  obtain ⟨p, pv, rfl, hp, _⟩ := rd_path h2
  obtain ⟨a3, rfl⟩ := rd_int Tryz.underlying3 h3
  obtain ⟨e, rfl⟩ := rd_ez h4
  exact ⟨⟨a1, p, a3, e⟩, ⟨pv, rfl, hp⟩, trivial⟩
theorem rd_pks {n : Nat} {u : Value} (h : Rd Tryz.prog (n + 6) H 40 [u]) : ∃ l : List Pk, Pks H u l ∧ l.length ≤ mxR := by
  obtain ⟨l, h1, h2, _⟩ := rd_rows (E := PkE) (Q := fun _ => True) (s := 8) (y := 80) Tryz.underlying40 (by kernel_rfl) (by kernel_rfl) (by decide) (fun cs h => rd_pk h) h
  exact ⟨l, h1, h2⟩
theorem rd_c4 {n : Nat} {cs : List Value} (h : Rd Tryz.prog (n + 2) H 42 cs) : ∃ c : C4, cs = c4C c := by
  unfold Rd at h; rw [Tryz.underlying42] at h
  have hc : Tryz.prog.cellsOf 5 = 1 := by kernel_rfl
  have h : elems Tryz.prog (Rd Tryz.prog (n + 1) H 5) (Tryz.prog.cellsOf 5) 4 cs := h
  rw [hc] at h
  obtain ⟨x1, r, rfl, h1, h⟩ := el_cons h
  obtain ⟨x2, r, rfl, h2, h⟩ := el_cons h
  obtain ⟨x3, r, rfl, h3, h⟩ := el_cons h
  obtain ⟨x4, r, rfl, h4, h⟩ := el_cons h
  have h : r = [] := h
  subst h
  obtain ⟨a1, e1⟩ := rd_int Tryz.underlying5 h1
  obtain ⟨a2, e2⟩ := rd_int Tryz.underlying5 h2
  obtain ⟨a3, e3⟩ := rd_int Tryz.underlying5 h3
  obtain ⟨a4, e4⟩ := rd_int Tryz.underlying5 h4
  cases e1; cases e2; cases e3; cases e4
  exact ⟨⟨a1, a2, a3, a4⟩, rfl⟩
theorem rd_ck {n : Nat} {cs : List Value} (h : Rd Tryz.prog (n + 3) H 108 cs) : ∃ k : Ck, CkE H cs k ∧ True := by
  unfold Rd at h; rw [Tryz.underlying108] at h
  obtain ⟨c1, r, rfl, _, h1, h⟩ := pa_cons (k := 1) (by kernel_rfl) h
  obtain ⟨c2, r, rfl, _, h2, h⟩ := pa_cons (k := 4) (by kernel_rfl) h
  obtain ⟨c3, r, rfl, _, h3, h⟩ := pa_cons (k := 1) (by kernel_rfl) h
  obtain ⟨c4, r, rfl, _, h4, h⟩ := pa_cons (k := 4) (by kernel_rfl) h
  obtain rfl := pa_nil h
  obtain ⟨a1, rfl⟩ := rd_int Tryz.underlying2 h1
  obtain ⟨p, rfl⟩ := rd_c4 h2
  obtain ⟨a3, rfl⟩ := rd_int Tryz.underlying3 h3
  obtain ⟨e, rfl⟩ := rd_ez h4
  exact ⟨⟨a1, p, a3, e⟩, rfl, trivial⟩
theorem rd_cks {n : Nat} {u : Value} (h : Rd Tryz.prog (n + 4) H 47 [u]) : ∃ l : List Ck, Cks H u l ∧ l.length ≤ mxR := by
  obtain ⟨l, h1, h2, _⟩ := rd_rows (E := CkE) (Q := fun _ => True) (s := 10) (y := 56) Tryz.underlying47 (by kernel_rfl) (by kernel_rfl) (by decide) (fun cs h => rd_ck h) h
  exact ⟨l, h1, h2⟩
theorem rd_pnt {n : Nat} {cs : List Value} (h : Rd Tryz.prog (n + 3) H 46 cs) : ∃ p : Pnt, cs = pntC p := by
  unfold Rd at h; rw [Tryz.underlying46] at h
  obtain ⟨c1, r, rfl, _, h1, h⟩ := pa_cons (k := 1) (by kernel_rfl) h
  obtain ⟨c2, r, rfl, _, h2, h⟩ := pa_cons (k := 4) (by kernel_rfl) h
  obtain ⟨c3, r, rfl, _, h3, h⟩ := pa_cons (k := 4) (by kernel_rfl) h
  obtain ⟨c4, r, rfl, _, h4, h⟩ := pa_cons (k := 2) (by kernel_rfl) h
  obtain ⟨c5, r, rfl, _, h5, h⟩ := pa_cons (k := 2) (by kernel_rfl) h
  obtain ⟨c6, r, rfl, _, h6, h⟩ := pa_cons (k := 1) (by kernel_rfl) h
  obtain rfl := pa_nil h
  obtain ⟨a1, rfl⟩ := rd_int Tryz.underlying3 h1
  obtain ⟨a2, rfl⟩ := rd_c4 h2
  obtain ⟨a3, rfl⟩ := rd_c4 h3
  obtain ⟨a4, rfl⟩ := rd_pt h4
  obtain ⟨a5, rfl⟩ := rd_pt h5
  obtain ⟨a6, rfl⟩ := rd_int Tryz.underlying2 h6
  exact ⟨⟨a1, a2, a3, a4, a5, a6⟩, rfl⟩
theorem one_cell {c : List Value} (h : c.length = 1) : ∃ u, c = [u] := by
  match c, h with
  | [u], _ => exact ⟨u, rfl⟩
/-- Readings of shapes, layers, documents. -/
theorem rd_sh {n : Nat} {cs : List Value} (h : Rd Tryz.prog (n + 7) H 50 cs) : ∃ (s : Sh) (vw vh vp vc vd vda vf vt : Value), cs = shC s vw vh vp vc vd vda vf vt ∧ ShV H s vw vh vp vc vd vda vf vt ∧ ShM s := by
  unfold Rd at h; rw [Tryz.underlying50] at h
  obtain ⟨c0, r, rfl, l0, h0, h⟩ := pa_cons (k := 1) (by kernel_rfl) h
  obtain ⟨c1, r, rfl, l1, h1, h⟩ := pa_cons (k := 1) (by kernel_rfl) h
  obtain ⟨c2, r, rfl, l2, h2, h⟩ := pa_cons (k := 1) (by kernel_rfl) h
  obtain ⟨c3, r, rfl, l3, h3, h⟩ := pa_cons (k := 1) (by kernel_rfl) h
  obtain ⟨c4, r, rfl, l4, h4, h⟩ := pa_cons (k := 1) (by kernel_rfl) h
  obtain ⟨c5, r, rfl, l5, h5, h⟩ := pa_cons (k := 1) (by kernel_rfl) h
  obtain ⟨c6, r, rfl, l6, h6, h⟩ := pa_cons (k := 1) (by kernel_rfl) h
  obtain ⟨c7, r, rfl, l7, h7, h⟩ := pa_cons (k := 14) (by kernel_rfl) h
  obtain ⟨c8, r, rfl, l8, h8, h⟩ := pa_cons (k := 1) (by kernel_rfl) h
  obtain ⟨c9, r, rfl, l9, h9, h⟩ := pa_cons (k := 1) (by kernel_rfl) h
  obtain ⟨c10, r, rfl, l10, h10, h⟩ := pa_cons (k := 1) (by kernel_rfl) h
  obtain ⟨c11, r, rfl, l11, h11, h⟩ := pa_cons (k := 4) (by kernel_rfl) h
  obtain ⟨c12, r, rfl, l12, h12, h⟩ := pa_cons (k := 1) (by kernel_rfl) h
  obtain ⟨c13, r, rfl, l13, h13, h⟩ := pa_cons (k := 1) (by kernel_rfl) h
  obtain ⟨c14, r, rfl, l14, h14, h⟩ := pa_cons (k := 1) (by kernel_rfl) h
  obtain ⟨c15, r, rfl, l15, h15, h⟩ := pa_cons (k := 1) (by kernel_rfl) h
  obtain rfl := pa_nil h
  obtain ⟨a0, rfl⟩ := rd_int Tryz.underlying3 h0
  obtain ⟨a1, rfl⟩ := rd_int Tryz.underlying3 h1
  obtain ⟨u2, rfl⟩ := one_cell l2
  obtain ⟨a2, p2, n2⟩ := rd_kys h2
  obtain ⟨u3, rfl⟩ := one_cell l3
  obtain ⟨a3, p3, n3⟩ := rd_kys h3
  obtain ⟨u4, rfl⟩ := one_cell l4
  obtain ⟨a4, p4, n4⟩ := rd_pks h4
  obtain ⟨a5, rfl⟩ := rd_bool Tryz.underlying4 h5
  obtain ⟨a6, rfl⟩ := rd_int Tryz.underlying3 h6
  obtain ⟨a7, rfl⟩ := rd_pnt h7
  obtain ⟨u8, rfl⟩ := one_cell l8
  obtain ⟨a8, p8, n8⟩ := rd_cks h8
  obtain ⟨a9, rfl⟩ := rd_bool Tryz.underlying4 h9
  obtain ⟨u10, rfl⟩ := one_cell l10
  obtain ⟨a10, p10, n10⟩ := rd_kys h10
  obtain ⟨a11, rfl⟩ := rd_c4 h11
  obtain ⟨a12, rfl⟩ := rd_int Tryz.underlying3 h12
  obtain ⟨u13, rfl⟩ := one_cell l13
  obtain ⟨a13, p13, n13⟩ := rd_ins h13
  obtain ⟨u14, rfl⟩ := one_cell l14
  obtain ⟨a14, p14, n14⟩ := rd_kys h14
  obtain ⟨u15, rfl⟩ := one_cell l15
  obtain ⟨a15, p15, n15⟩ := rd_kys h15
  exact ⟨⟨a0, a1, a2, a3, a4, a5, a6, a7, a8, a9, a10, a11, a12, a13, a14, a15⟩, u2, u3, u4, u8, u10, u13, u14, u15, rfl, ⟨p2, p3, p4, p8, p10, p13, p14, p15⟩, ⟨n2, n3, n4, n8, n10, n13, n14, n15⟩⟩
theorem rd_ly {n : Nat} {cs : List Value} (h : Rd Tryz.prog (n + 8) H 52 cs) : ∃ l : Ly, LyE H cs l ∧ LyM l := by
  unfold Rd at h; rw [Tryz.underlying52] at h
  obtain ⟨c0, r, rfl, l0, h0, h⟩ := pa_cons (k := 1) (by kernel_rfl) h
  obtain ⟨c1, r, rfl, l1, h1, h⟩ := pa_cons (k := 1) (by kernel_rfl) h
  obtain ⟨c2, r, rfl, l2, h2, h⟩ := pa_cons (k := 1) (by kernel_rfl) h
  obtain ⟨c3, r, rfl, l3, h3, h⟩ := pa_cons (k := 1) (by kernel_rfl) h
  obtain ⟨c4, r, rfl, l4, h4, h⟩ := pa_cons (k := 1) (by kernel_rfl) h
  obtain ⟨c5, r, rfl, l5, h5, h⟩ := pa_cons (k := 1) (by kernel_rfl) h
  obtain ⟨c6, r, rfl, l6, h6, h⟩ := pa_cons (k := 1) (by kernel_rfl) h
  obtain ⟨c7, r, rfl, l7, h7, h⟩ := pa_cons (k := 1) (by kernel_rfl) h
  obtain ⟨c8, r, rfl, l8, h8, h⟩ := pa_cons (k := 1) (by kernel_rfl) h
  obtain ⟨c9, r, rfl, l9, h9, h⟩ := pa_cons (k := 1) (by kernel_rfl) h
  obtain ⟨c10, r, rfl, l10, h10, h⟩ := pa_cons (k := 1) (by kernel_rfl) h
  obtain ⟨c11, r, rfl, l11, h11, h⟩ := pa_cons (k := 1) (by kernel_rfl) h
  obtain ⟨c12, r, rfl, l12, h12, h⟩ := pa_cons (k := 1) (by kernel_rfl) h
  obtain ⟨c13, r, rfl, l13, h13, h⟩ := pa_cons (k := 1) (by kernel_rfl) h
  obtain ⟨c14, r, rfl, l14, h14, h⟩ := pa_cons (k := 1) (by kernel_rfl) h
  obtain ⟨c15, r, rfl, l15, h15, h⟩ := pa_cons (k := 1) (by kernel_rfl) h
  obtain ⟨c16, r, rfl, l16, h16, h⟩ := pa_cons (k := 2) (by kernel_rfl) h
  obtain ⟨c17, r, rfl, l17, h17, h⟩ := pa_cons (k := 32) (by kernel_rfl) h
  obtain rfl := pa_nil h
  obtain ⟨a0, rfl⟩ := rd_int Tryz.underlying3 h0
  obtain ⟨a1, rfl⟩ := rd_int Tryz.underlying3 h1
  obtain ⟨a2, rfl⟩ := rd_int Tryz.underlying3 h2
  obtain ⟨a3, rfl⟩ := rd_int Tryz.underlying3 h3
  obtain ⟨a4, rfl⟩ := rd_int Tryz.underlying2 h4
  obtain ⟨a5, rfl⟩ := rd_int Tryz.underlying2 h5
  obtain ⟨a6, rfl⟩ := rd_int Tryz.underlying2 h6
  obtain ⟨u7, rfl⟩ := one_cell l7
  obtain ⟨a7, p7, n7⟩ := rd_kys h7
  obtain ⟨u8, rfl⟩ := one_cell l8
  obtain ⟨a8, p8, n8⟩ := rd_kys h8
  obtain ⟨u9, rfl⟩ := one_cell l9
  obtain ⟨a9, p9, n9⟩ := rd_kys h9
  obtain ⟨u10, rfl⟩ := one_cell l10
  obtain ⟨a10, p10, n10⟩ := rd_kys h10
  obtain ⟨u11, rfl⟩ := one_cell l11
  obtain ⟨a11, p11, n11⟩ := rd_kys h11
  obtain ⟨u12, rfl⟩ := one_cell l12
  obtain ⟨a12, p12, n12⟩ := rd_kys h12
  obtain ⟨u13, rfl⟩ := one_cell l13
  obtain ⟨a13, p13, n13⟩ := rd_kys h13
  obtain ⟨u14, rfl⟩ := one_cell l14
  obtain ⟨a14, p14, n14⟩ := rd_kys h14
  obtain ⟨u15, rfl⟩ := one_cell l15
  obtain ⟨a15, p15, n15⟩ := rd_kys h15
  obtain ⟨a16, u16, rfl, p16, n16⟩ := rd_path h16
  obtain ⟨a17, s0, s1, s2, s3, s4, s5, s6, s7, rfl, p17, n17⟩ := rd_sh h17
  exact ⟨⟨a0, a1, a2, a3, a4, a5, a6, a7, a8, a9, a10, a11, a12, a13, a14, a15, a16, a17⟩, ⟨u7, u8, u9, u10, u11, u12, u13, u14, u15, u16, s0, s1, s2, s3, s4, s5, s6, s7, rfl, ⟨p7, p8, p9, p10, p11, p12, p13, p14, p15, p16⟩, p17⟩, ⟨n16, n15, n17⟩⟩
theorem rd_co {n : Nat} {cs : List Value} (h : Rd Tryz.prog (n + 10) H 35 cs) : ∃ c : List Ly, CoE H cs c ∧ ∀ l ∈ c, LyM l := by
  unfold Rd at h; rw [Tryz.underlying35] at h
  obtain ⟨c0, r, rfl, l0, h0, h⟩ := pa_cons (k := 1) (by kernel_rfl) h
  obtain rfl := pa_nil h
  obtain ⟨u, rfl⟩ := one_cell l0
  obtain ⟨l, h1, h2, h3⟩ := rd_rows (E := LyE) (Q := LyM) (s := 50) (y := 608) Tryz.underlying33 (by kernel_rfl) (by kernel_rfl) (by decide) (fun cs h => rd_ly h) h0
  exact ⟨l, ⟨u, rfl, h1⟩, h3⟩
theorem rd_dc {n : Nat} {cs : List Value} (h : Rd Tryz.prog (n + 12) H 24 cs) : ∃ (d : Dc) (v : Value), cs = [.int .i64 d.in_, .int .i64 d.out, v] ∧ Cos H v d.comps ∧ DcM d := by
  unfold Rd at h; rw [Tryz.underlying24] at h
  obtain ⟨c0, r, rfl, l0, h0, h⟩ := pa_cons (k := 1) (by kernel_rfl) h
  obtain ⟨c1, r, rfl, l1, h1, h⟩ := pa_cons (k := 1) (by kernel_rfl) h
  obtain ⟨c2, r, rfl, l2, h2, h⟩ := pa_cons (k := 1) (by kernel_rfl) h
  obtain rfl := pa_nil h
  obtain ⟨a0, rfl⟩ := rd_int Tryz.underlying2 h0
  obtain ⟨a1, rfl⟩ := rd_int Tryz.underlying2 h1
  obtain ⟨u, rfl⟩ := one_cell l2
  obtain ⟨l, h1, h2, h3⟩ := rd_rows (E := CoE) (Q := fun c => ∀ l ∈ c, LyM l) (s := 1) (y := 24) Tryz.underlying22 (by kernel_rfl) (by kernel_rfl) (by decide) (fun cs h => rd_co h) h2
  exact ⟨⟨a0, a1, l⟩, u, rfl, h1, h3⟩
theorem rd_tns {n : Nat} {u : Value} (h : Rd Tryz.prog (n + 3) H 32 [u]) : ∃ l : List Tn, Tns H u l := by
  obtain ⟨l, h1, _, _⟩ := rd_rows (E := TnE) (Q := fun _ => True) (s := 4) (y := 32) Tryz.underlying32 (by kernel_rfl) (by kernel_rfl) (by decide) (fun cs h => by
    unfold Rd at h; rw [Tryz.underlying31] at h
    obtain ⟨c0, r, rfl, l0, h0, h⟩ := pa_cons (k := 1) (by kernel_rfl) h
    obtain ⟨c1, r, rfl, l1, h1, h⟩ := pa_cons (k := 1) (by kernel_rfl) h
    obtain ⟨c2, r, rfl, l2, h2, h⟩ := pa_cons (k := 1) (by kernel_rfl) h
    obtain ⟨c3, r, rfl, l3, h3, h⟩ := pa_cons (k := 1) (by kernel_rfl) h
    obtain rfl := pa_nil h
    obtain ⟨a0, rfl⟩ := rd_int Tryz.underlying3 h0
    obtain ⟨a1, rfl⟩ := rd_int Tryz.underlying3 h1
    obtain ⟨a2, rfl⟩ := rd_int Tryz.underlying3 h2
    obtain ⟨a3, rfl⟩ := rd_int Tryz.underlying2 h3
    exact ⟨⟨a0, a1, a2, a3⟩, rfl, trivial⟩) h
  exact ⟨l, h1⟩
theorem Tns.ahead {J : AH} {v : Value} {l : List Tn} (h : Tns H v l) (a : Ahead H J) : Tns J v l := RowOf.old h (fun _ _ _ _ _ e => e) (fun _ _ e => a.get e)
theorem Cos.ahead {J : AH} {v : Value} {l : List (List Ly)} (h : Cos H v l) (a : Ahead H J) : Cos J v l := RowOf.old h CoE.m (fun _ _ e => a.get e)
end Go.Proofs.YtnebnbdeobcegaaGreat
