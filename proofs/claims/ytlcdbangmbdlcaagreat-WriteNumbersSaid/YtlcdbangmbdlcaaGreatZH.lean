/- Merged texts: RInk4 RInk5 RInk6 Str Size Tells1 Num1 RInk7 WKnown. -/
import Derived.Test.YtlcdbangmbdlcaaGreatZG
/- Writing: the walk of the document's answer's shape (printed by genRShape.py). -/
namespace Go.Proofs.YtlcdbangmbdlcaaGreat
open Go Go.RowKit E
attribute [local irreducible] XRun XOps XCode XCal XLoop XQ SemCall
set_option linter.unusedSimpArgs false
set_option linter.unusedVariables false
set_option maxHeartbeats 8000000 in
theorem rwshape_ (s : Sh) (vw vh vp vc vd vda vf vt : Value) (p b : Nat) (xs : List Int) (H : AH) (hI : InkAt H p b xs) (hv : ∀ J, OlP (pbP p b) H J → ShV J s vw vh vp vc vd vda vf vt) (hn : roomP (xs.length + (shO s).length + 64)) :
    Cal Tryz.prog 48 [ap p 0 0, .agg (shC s vw vh vp vc vd vda vf vt).toArray] H fun v' H' W => v' = .tuple #[] ∧ OnW W p b ∧ InkS H H' p b (xs ++ shO s) := by
  refine of_x ?_
  have hO := sh_len s
  have hV := hv H (OlP.refl _ _)
  have lp := hV.paths.len
  have lc := hV.colors.len
  have ld := hV.dash.len
  obtain ⟨pa, pe, rfl⟩ := hV.paths.form
  obtain ⟨ca, ce, rfl⟩ := hV.colors.form
  obtain ⟨da, de, rfl⟩ := hV.dash.form
  obtain ⟨wa, we, rfl⟩ := hV.w.form
  obtain ⟨ha, he, rfl⟩ := hV.h.form
  obtain ⟨ia, ie, rfl⟩ := hV.width.form
  obtain ⟨fa, fe, rfl⟩ := hV.frm.form
  obtain ⟨ta, te, rfl⟩ := hV.to.form
  have kd : ∀ n, decide (H.length + n < H.length) = false := fun n => df (by omega)
  have kd0 : decide (H.length < H.length) = false := df (by omega)
  have hnB : roomP (xs.length + 2 + (keysO s.w).length + (keysO s.h).length + 1 + (s.paths.flatMap pkO).length + 3 + 8 + 40 + 1 + (s.colors.flatMap ckO).length + 1 + (keysO s.width).length + 4 + 2 + (s.dash.flatMap lng).length + (keysO s.frm).length + (keysO s.to).length + 64) := by unfold roomP at hn ⊢; omega
  refine XCal.of hm Tryz.func48 rfl (fun xs w => Tryz.call48 xs w) Tryz.ntmps48 Tryz.results48 rfl ?_
  (refine sg (et kd kd0) ?_; try exact ⟨⟩)
  have hS := (InkS.refl hI).app [⟨shC s (.slice wa s.w.length we) (.slice ha s.h.length he) (.slice pa s.paths.length pe) (.slice ca s.colors.length ce) (.slice ia s.width.length ie) (.slice da s.dash.length de) (.slice fa s.frm.length fe) (.slice ta s.to.length te), 0, true⟩]
  have gz : (H ++ [(⟨shC s (.slice wa s.w.length we) (.slice ha s.h.length he) (.slice pa s.paths.length pe) (.slice ca s.colors.length ce) (.slice ia s.width.length ie) (.slice da s.dash.length de) (.slice fa s.frm.length fe) (.slice ta s.to.length te), 0, true⟩ : Blk)])[H.length]? = some ⟨shC s (.slice wa s.w.length we) (.slice ha s.h.length he) (.slice pa s.paths.length pe) (.slice ca s.colors.length ce) (.slice ia s.width.length ie) (.slice da s.dash.length de) (.slice fa s.frm.length fe) (.slice ta s.to.length te), 0, true⟩ := by rw [hget_app0]; rfl
  generalize H ++ [(⟨shC s (.slice wa s.w.length we) (.slice ha s.h.length he) (.slice pa s.paths.length pe) (.slice ca s.colors.length ce) (.slice ia s.width.length ie) (.slice da s.dash.length de) (.slice fa s.frm.length fe) (.slice ta s.to.length te), 0, true⟩ : Blk)] = K at *
  refine (rwsmall_ (s.form) p b _ _ hS.ink (by unfold roomP at hnB ⊢; (try simp only [List.length_append, List.length_cons, List.length_nil, lng_len, col_len, yes_len, pt_len]); omega)).x ?_
  rintro v K1 W1 ⟨rfl, hW1, hS'⟩
  have gz := hS'.old _ _ (pb_no hI (Nat.le_refl _)) gz
  have hS : InkS H K1 p b (xs ++ [u8 s.form]) := hS.trans hS'
  clear hS'
  (refine sg gz ?_; try exact ⟨⟩)
  refine (rwsmall_ (s.n) p b _ _ hS.ink (by unfold roomP at hnB ⊢; (try simp only [List.length_append, List.length_cons, List.length_nil, lng_len, col_len, yes_len, pt_len]); omega)).x ?_
  rintro v K2 W2 ⟨rfl, hW2, hS'⟩
  have gz := hS'.old _ _ (pb_no hI (Nat.le_refl _)) gz
  have hS : InkS H K2 p b (xs ++ [u8 s.form] ++ [u8 s.n]) := hS.trans hS'
  clear hS'
  (refine sg gz ?_; try exact ⟨⟩)
  refine (rwkeys_ s.w _ p b _ _ hS.ink (fun J o => (hv J (hS.old.trans o)).w) (by unfold roomP at hnB ⊢; (try simp only [List.length_append, List.length_cons, List.length_nil, lng_len, col_len, yes_len, pt_len]); omega)).x ?_
  rintro v K3 W3 ⟨rfl, hW3, hS'⟩
  have gz := hS'.old _ _ (pb_no hI (Nat.le_refl _)) gz
  have hS : InkS H K3 p b (xs ++ [u8 s.form] ++ [u8 s.n] ++ keysO s.w) := hS.trans hS'
  clear hS'
  (refine sg gz ?_; try exact ⟨⟩)
  refine (rwkeys_ s.h _ p b _ _ hS.ink (fun J o => (hv J (hS.old.trans o)).h) (by unfold roomP at hnB ⊢; (try simp only [List.length_append, List.length_cons, List.length_nil, lng_len, col_len, yes_len, pt_len]); omega)).x ?_
  rintro v K4 W4 ⟨rfl, hW4, hS'⟩
  have gz := hS'.old _ _ (pb_no hI (Nat.le_refl _)) gz
  have hS : InkS H K4 p b (xs ++ [u8 s.form] ++ [u8 s.n] ++ keysO s.w ++ keysO s.h) := hS.trans hS'
  clear hS'
  (refine sg gz ?_; try exact ⟨⟩)
  refine (rwsmall_ ((s.paths.length : Int)) p b _ _ hS.ink (by unfold roomP at hnB ⊢; (try simp only [List.length_append, List.length_cons, List.length_nil, lng_len, col_len, yes_len, pt_len]); omega)).x ?_
  rintro v K5 W5 ⟨rfl, hW5, hS'⟩
  have gz := hS'.old _ _ (pb_no hI (Nat.le_refl _)) gz
  have hS : InkS H K5 p b (xs ++ [u8 s.form] ++ [u8 s.n] ++ keysO s.w ++ keysO s.h ++ [u8 s.paths.length]) := hS.trans hS'
  clear hS'
  obtain ⟨ys, hys⟩ : ∃ ys, ys = xs ++ [u8 s.form] ++ [u8 s.n] ++ keysO s.w ++ keysO s.h ++ [u8 s.paths.length] := ⟨_, rfl⟩
  have lys : ys.length = xs.length + 2 + (keysO s.w).length + (keysO s.h).length + 1 := by rw [hys]; simp only [List.length_append, List.length_cons, List.length_nil, lng_len, col_len, yes_len, pt_len]; try omega
  rw [← hys] at hS
  have hD := ((((hW1.filt (q := fun b => decide (b < H.length))).app (hW2.filt (q := fun b => decide (b < H.length)))).app (hW3.filt (q := fun b => decide (b < H.length)))).app (hW4.filt (q := fun b => decide (b < H.length)))).app (hW5.filt (q := fun b => decide (b < H.length)))
  (refine sg gz ?_; try exact ⟨⟩)
  refine keep (fun r T K D => OnW D p b ∧ ∃ (j : Nat), j + r = s.paths.length ∧ InkS H K p b (ys ++ (s.paths.take j).flatMap pkO) ∧ K[H.length]? = some ⟨shC s (.slice wa s.w.length we) (.slice ha s.h.length he) (.slice pa s.paths.length pe) (.slice ca s.colors.length ce) (.slice ia s.width.length ie) (.slice da s.dash.length de) (.slice fa s.frm.length fe) (.slice ta s.to.length te), 0, true⟩ ∧ T 0 = ap p 0 0 ∧ T 3 = ap H.length 0 0 ∧ T 32 = .slice pa s.paths.length pe ∧ T 33 = .int .i64 (s.paths.length : Int) ∧ T 34 = .int .i64 (j : Int)) s.paths.length
    ⟨hD, 0, by omega, by simpa using hS, gz, by (refine sg trivial ?_; try exact ⟨⟩), by (refine sg trivial ?_; try exact ⟨⟩), by (refine sg trivial ?_; try exact ⟨⟩), by (refine sg trivial ?_; try exact ⟨⟩), by (refine sg trivial ?_; try exact ⟨⟩) <;> rfl⟩ ?_
  clear hS hD gz hW1 hW2 hW3 hW4 hW5
  rintro r T K D ⟨hD, j, hjr, hS, gz, t0, t3, u1, u2, u3⟩
  have kd : ∀ n, decide (K.length + n < H.length) = false := fun n => df (by have := hS.len; omega)
  have kd0 : decide (K.length < H.length) = false := df (by have := hS.len; omega)
  by_cases hj : j < s.paths.length
  · obtain ⟨k, hk⟩ : ∃ k, s.paths[j]? = some k := ⟨_, List.getElem?_eq_getElem hj⟩
    have q0 : (0 : Int) ≤ (j : Int) := by omega
    have q1 : (j : Int) < (s.paths.length : Int) := by omega
    have w2 : IntKind.i64.wrap ((j : Int) + 1) = ((j + 1 : Nat) : Int) := by rw [wi (by omega) (by omega)]; rfl
    have hat := flat_at (f := pkO) hk
    obtain ⟨b2, g2, cells2, rw2, c, hve, hpb2, hb2, hcl2, hld2, hE⟩ := row_el (fun J o => (hv J (hS.old.trans o)).paths) hk
    obtain ⟨pv, rfl, _⟩ := hE K (OlP.refl _ _)
    have hP : ∀ J, OlP (pbP p b) K J → Pts J pv k.p.2 := fun J o => by
      obtain ⟨pv', e, h⟩ := hE J o
      cases e; exact h
    obtain ⟨qa, qe, rfl⟩ := (hP K (OlP.refl _ _)).form
    clear hE
    rw [hve] at u1
    rw [pk_len] at hat
    (refine sg (et t0 (et t3 (et u1 (et u2 (et u3 (et (dt q1) (et q0 (et q1 (et Int.toNat_natCast (et Nat.zero_add (et hb2 (et hld2 (et kd kd0))))))))))))) ?_; try exact ⟨⟩)
    have hS0 := hS.app [⟨[.int .i64 k.t, .bool k.p.1, .slice qa k.p.2.length qe, .int .i64 k.how, .int .i64 k.e.x1, .int .i64 k.e.y1, .int .i64 k.e.x2, .int .i64 k.e.y2], 0, true⟩]
    have gz0 := old_get gz [⟨[.int .i64 k.t, .bool k.p.1, .slice qa k.p.2.length qe, .int .i64 k.how, .int .i64 k.e.x1, .int .i64 k.e.y1, .int .i64 k.e.x2, .int .i64 k.e.y2], 0, true⟩]
    refine (rwlong_ k.t p b _ _ hS0.ink (by unfold roomP at hnB ⊢; (try simp only [List.length_append, List.length_cons, List.length_nil, lng_len, col_len, yes_len, pt_len]); omega)).x ?_
    rintro v M1 V1 ⟨rfl, hV1, hS'⟩
    have gz1 := hS'.old _ _ (pb_no hI (Nat.le_refl _)) gz0
    have gk1 : M1[K.length]? = some ⟨[.int .i64 k.t, .bool k.p.1, .slice qa k.p.2.length qe, .int .i64 k.how, .int .i64 k.e.x1, .int .i64 k.e.y1, .int .i64 k.e.x2, .int .i64 k.e.y2], 0, true⟩ := hS'.old _ _ (pb_no hI hS.len) (by rw [hget_app0]; rfl)
    have oA1 : OlP (pbP p b) K M1 := (OlP.old (Old.app' _ _)).trans hS'.old
    have hS1 := hS0.trans hS'
    (refine sg (et t0 (et t3 (et u1 (et u2 (et u3 (et gk1 (et kd kd0))))))) ?_; try exact ⟨⟩)
    refine (rwpath_ k.p _ p b _ _ hS1.ink (fun J o => hP J (oA1.trans o)) (by unfold roomP at hnB ⊢; (try simp only [List.length_append, List.length_cons, List.length_nil, lng_len, col_len, yes_len, pt_len]); omega)).x ?_
    rintro v M2 V2 ⟨rfl, hV2, hS'⟩
    have gz2 := hS'.old _ _ (pb_no hI (Nat.le_refl _)) gz1
    have gk2 : M2[K.length]? = some ⟨[.int .i64 k.t, .bool k.p.1, .slice qa k.p.2.length qe, .int .i64 k.how, .int .i64 k.e.x1, .int .i64 k.e.y1, .int .i64 k.e.x2, .int .i64 k.e.y2], 0, true⟩ := hS'.old _ _ (pb_no hI hS.len) gk1
    have oA2 : OlP (pbP p b) K M2 := oA1.trans hS'.old
    have hS2 := hS1.trans hS'
    (refine sg (et t0 (et t3 (et u1 (et u2 (et u3 (et gk2 (et kd kd0))))))) ?_; try exact ⟨⟩)
    refine (rwhow_ k.how k.e p b _ _ hS2.ink (by unfold roomP at hnB ⊢; (try simp only [List.length_append, List.length_cons, List.length_nil, lng_len, col_len, yes_len, pt_len]); omega)).x ?_
    rintro v M3 V3 ⟨rfl, hV3, hS'⟩
    have gz3 := hS'.old _ _ (pb_no hI (Nat.le_refl _)) gz2
    have gk3 : M3[K.length]? = some ⟨[.int .i64 k.t, .bool k.p.1, .slice qa k.p.2.length qe, .int .i64 k.how, .int .i64 k.e.x1, .int .i64 k.e.y1, .int .i64 k.e.x2, .int .i64 k.e.y2], 0, true⟩ := hS'.old _ _ (pb_no hI hS.len) gk2
    have oA3 : OlP (pbP p b) K M3 := oA2.trans hS'.old
    have hS3 := hS2.trans hS'
    (refine sg (et t0 (et t3 (et u1 (et u2 (et u3 (et gk3 (et kd (et kd0 w2)))))))) ?_; try exact ⟨⟩)
    refine ⟨r - 1, by omega, (((hD).app hV1.filt).app hV2.filt).app hV3.filt, j + 1, by omega, ?_, gz3, hve.symm, rfl⟩
    rw [take_snoc hk, List.flatMap_append, List.flatMap_singleton, ← List.append_assoc, show pkO k = lng k.t ++ pathO k.p ++ easeO k.how k.e from rfl, ← List.append_assoc, ← List.append_assoc]; exact hS3
  · have hjl : j = s.paths.length := by omega
    rw [show s.paths.take j = s.paths by rw [hjl, List.take_length]] at hS
    (refine sg (et t0 (et t3 (et u1 (et u2 (et u3 (df (show ¬ (j : Int) < (s.paths.length : Int) by omega))))))) ?_; try exact ⟨⟩)
    (refine sg (et t0 (et t3 gz)) ?_; try exact ⟨⟩)
    refine (rwyes_ s.fill p b _ _ hS.ink (by unfold roomP at hnB ⊢; (try simp only [List.length_append, List.length_cons, List.length_nil, lng_len, col_len, yes_len, pt_len]); omega)).x ?_
    rintro v K6 W6 ⟨rfl, hW6, hS'⟩
    have gz := hS'.old _ _ (pb_no hI (Nat.le_refl _)) gz
    have hS : InkS H K6 p b (ys ++ s.paths.flatMap pkO ++ yesO s.fill) := hS.trans hS'
    clear hS'
    (refine sg (et t0 (et t3 gz)) ?_; try exact ⟨⟩)
    refine (rwsmall_ (s.rule) p b _ _ hS.ink (by unfold roomP at hnB ⊢; (try simp only [List.length_append, List.length_cons, List.length_nil, lng_len, col_len, yes_len, pt_len]); omega)).x ?_
    rintro v K7 W7 ⟨rfl, hW7, hS'⟩
    have gz := hS'.old _ _ (pb_no hI (Nat.le_refl _)) gz
    have hS : InkS H K7 p b (ys ++ s.paths.flatMap pkO ++ yesO s.fill ++ [u8 s.rule]) := hS.trans hS'
    clear hS'
    (refine sg (et t0 (et t3 gz)) ?_; try exact ⟨⟩)
    refine (rwsmall_ (s.paint.kind) p b _ _ hS.ink (by unfold roomP at hnB ⊢; (try simp only [List.length_append, List.length_cons, List.length_nil, lng_len, col_len, yes_len, pt_len]); omega)).x ?_
    rintro v K8 W8 ⟨rfl, hW8, hS'⟩
    have gz := hS'.old _ _ (pb_no hI (Nat.le_refl _)) gz
    have hS : InkS H K8 p b (ys ++ s.paths.flatMap pkO ++ yesO s.fill ++ [u8 s.rule] ++ [u8 s.paint.kind]) := hS.trans hS'
    clear hS'
    (refine sg (et t0 (et t3 gz)) ?_; try exact ⟨⟩)
    refine (rwcolor_ s.paint.a p b _ _ hS.ink (by unfold roomP at hnB ⊢; (try simp only [List.length_append, List.length_cons, List.length_nil, lng_len, col_len, yes_len, pt_len]); omega)).x ?_
    rintro v K9 W9 ⟨rfl, hW9, hS'⟩
    have gz := hS'.old _ _ (pb_no hI (Nat.le_refl _)) gz
    have hS : InkS H K9 p b (ys ++ s.paths.flatMap pkO ++ yesO s.fill ++ [u8 s.rule] ++ [u8 s.paint.kind] ++ colO s.paint.a) := hS.trans hS'
    clear hS'
    (refine sg (et t0 (et t3 gz)) ?_; try exact ⟨⟩)
    refine (rwcolor_ s.paint.b p b _ _ hS.ink (by unfold roomP at hnB ⊢; (try simp only [List.length_append, List.length_cons, List.length_nil, lng_len, col_len, yes_len, pt_len]); omega)).x ?_
    rintro v K10 W10 ⟨rfl, hW10, hS'⟩
    have gz := hS'.old _ _ (pb_no hI (Nat.le_refl _)) gz
    have hS : InkS H K10 p b (ys ++ s.paths.flatMap pkO ++ yesO s.fill ++ [u8 s.rule] ++ [u8 s.paint.kind] ++ colO s.paint.a ++ colO s.paint.b) := hS.trans hS'
    clear hS'
    (refine sg (et t0 (et t3 gz)) ?_; try exact ⟨⟩)
    refine (rwlong_ s.paint.p.1 p b _ _ hS.ink (by unfold roomP at hnB ⊢; (try simp only [List.length_append, List.length_cons, List.length_nil, lng_len, col_len, yes_len, pt_len]); omega)).x ?_
    rintro v K11 W11 ⟨rfl, hW11, hS'⟩
    have gz := hS'.old _ _ (pb_no hI (Nat.le_refl _)) gz
    have hS : InkS H K11 p b (ys ++ s.paths.flatMap pkO ++ yesO s.fill ++ [u8 s.rule] ++ [u8 s.paint.kind] ++ colO s.paint.a ++ colO s.paint.b ++ lng s.paint.p.1) := hS.trans hS'
    clear hS'
    (refine sg (et t0 (et t3 gz)) ?_; try exact ⟨⟩)
    refine (rwlong_ s.paint.p.2 p b _ _ hS.ink (by unfold roomP at hnB ⊢; (try simp only [List.length_append, List.length_cons, List.length_nil, lng_len, col_len, yes_len, pt_len]); omega)).x ?_
    rintro v K12 W12 ⟨rfl, hW12, hS'⟩
    have gz := hS'.old _ _ (pb_no hI (Nat.le_refl _)) gz
    have hS : InkS H K12 p b (ys ++ s.paths.flatMap pkO ++ yesO s.fill ++ [u8 s.rule] ++ [u8 s.paint.kind] ++ colO s.paint.a ++ colO s.paint.b ++ lng s.paint.p.1 ++ lng s.paint.p.2) := hS.trans hS'
    clear hS'
    (refine sg (et t0 (et t3 gz)) ?_; try exact ⟨⟩)
    refine (rwlong_ s.paint.q.1 p b _ _ hS.ink (by unfold roomP at hnB ⊢; (try simp only [List.length_append, List.length_cons, List.length_nil, lng_len, col_len, yes_len, pt_len]); omega)).x ?_
    rintro v K13 W13 ⟨rfl, hW13, hS'⟩
    have gz := hS'.old _ _ (pb_no hI (Nat.le_refl _)) gz
    have hS : InkS H K13 p b (ys ++ s.paths.flatMap pkO ++ yesO s.fill ++ [u8 s.rule] ++ [u8 s.paint.kind] ++ colO s.paint.a ++ colO s.paint.b ++ lng s.paint.p.1 ++ lng s.paint.p.2 ++ lng s.paint.q.1) := hS.trans hS'
    clear hS'
    (refine sg (et t0 (et t3 gz)) ?_; try exact ⟨⟩)
    refine (rwlong_ s.paint.q.2 p b _ _ hS.ink (by unfold roomP at hnB ⊢; (try simp only [List.length_append, List.length_cons, List.length_nil, lng_len, col_len, yes_len, pt_len]); omega)).x ?_
    rintro v K14 W14 ⟨rfl, hW14, hS'⟩
    have gz := hS'.old _ _ (pb_no hI (Nat.le_refl _)) gz
    have hS : InkS H K14 p b (ys ++ s.paths.flatMap pkO ++ yesO s.fill ++ [u8 s.rule] ++ [u8 s.paint.kind] ++ colO s.paint.a ++ colO s.paint.b ++ lng s.paint.p.1 ++ lng s.paint.p.2 ++ lng s.paint.q.1 ++ lng s.paint.q.2) := hS.trans hS'
    clear hS'
    (refine sg (et t0 (et t3 gz)) ?_; try exact ⟨⟩)
    refine (rwlong_ s.paint.r p b _ _ hS.ink (by unfold roomP at hnB ⊢; (try simp only [List.length_append, List.length_cons, List.length_nil, lng_len, col_len, yes_len, pt_len]); omega)).x ?_
    rintro v K15 W15 ⟨rfl, hW15, hS'⟩
    have gz := hS'.old _ _ (pb_no hI (Nat.le_refl _)) gz
    have hS : InkS H K15 p b (ys ++ s.paths.flatMap pkO ++ yesO s.fill ++ [u8 s.rule] ++ [u8 s.paint.kind] ++ colO s.paint.a ++ colO s.paint.b ++ lng s.paint.p.1 ++ lng s.paint.p.2 ++ lng s.paint.q.1 ++ lng s.paint.q.2 ++ lng s.paint.r) := hS.trans hS'
    clear hS'
    (refine sg (et t0 (et t3 gz)) ?_; try exact ⟨⟩)
    refine (rwsmall_ ((s.colors.length : Int)) p b _ _ hS.ink (by unfold roomP at hnB ⊢; (try simp only [List.length_append, List.length_cons, List.length_nil, lng_len, col_len, yes_len, pt_len]); omega)).x ?_
    rintro v K16 W16 ⟨rfl, hW16, hS'⟩
    have gz := hS'.old _ _ (pb_no hI (Nat.le_refl _)) gz
    have hS : InkS H K16 p b (ys ++ s.paths.flatMap pkO ++ yesO s.fill ++ [u8 s.rule] ++ [u8 s.paint.kind] ++ colO s.paint.a ++ colO s.paint.b ++ lng s.paint.p.1 ++ lng s.paint.p.2 ++ lng s.paint.q.1 ++ lng s.paint.q.2 ++ lng s.paint.r ++ [u8 s.colors.length]) := hS.trans hS'
    clear hS'
    obtain ⟨us, hus⟩ : ∃ us, us = ys ++ s.paths.flatMap pkO ++ yesO s.fill ++ [u8 s.rule] ++ [u8 s.paint.kind] ++ colO s.paint.a ++ colO s.paint.b ++ lng s.paint.p.1 ++ lng s.paint.p.2 ++ lng s.paint.q.1 ++ lng s.paint.q.2 ++ lng s.paint.r ++ [u8 s.colors.length] := ⟨_, rfl⟩
    have lus : us.length = ys.length + (s.paths.flatMap pkO).length + 3 + 8 + 40 + 1 := by rw [hus]; simp only [List.length_append, List.length_cons, List.length_nil, lng_len, col_len, yes_len, pt_len]; try omega
    rw [← hus] at hS
    have hD := (((((((((((hD).app (hW6.filt (q := fun b => decide (b < H.length)))).app (hW7.filt (q := fun b => decide (b < H.length)))).app (hW8.filt (q := fun b => decide (b < H.length)))).app (hW9.filt (q := fun b => decide (b < H.length)))).app (hW10.filt (q := fun b => decide (b < H.length)))).app (hW11.filt (q := fun b => decide (b < H.length)))).app (hW12.filt (q := fun b => decide (b < H.length)))).app (hW13.filt (q := fun b => decide (b < H.length)))).app (hW14.filt (q := fun b => decide (b < H.length)))).app (hW15.filt (q := fun b => decide (b < H.length)))).app (hW16.filt (q := fun b => decide (b < H.length)))
    (refine sg (et t0 (et t3 gz)) ?_; try exact ⟨⟩)
    refine keep (fun r T K D => OnW D p b ∧ ∃ (j : Nat), j + r = s.colors.length ∧ InkS H K p b (us ++ (s.colors.take j).flatMap ckO) ∧ K[H.length]? = some ⟨shC s (.slice wa s.w.length we) (.slice ha s.h.length he) (.slice pa s.paths.length pe) (.slice ca s.colors.length ce) (.slice ia s.width.length ie) (.slice da s.dash.length de) (.slice fa s.frm.length fe) (.slice ta s.to.length te), 0, true⟩ ∧ T 0 = ap p 0 0 ∧ T 3 = ap H.length 0 0 ∧ T 111 = .slice ca s.colors.length ce ∧ T 112 = .int .i64 (s.colors.length : Int) ∧ T 113 = .int .i64 (j : Int)) s.colors.length
      ⟨hD, 0, by omega, by simpa using hS, gz, by (refine sg t0 ?_; try exact ⟨⟩), by (refine sg t3 ?_; try exact ⟨⟩), by (refine sg trivial ?_; try exact ⟨⟩), by (refine sg trivial ?_; try exact ⟨⟩), by (refine sg trivial ?_; try exact ⟨⟩) <;> rfl⟩ ?_
    clear hS hD gz hW6 hW7 hW8 hW9 hW10 hW11 hW12 hW13 hW14 hW15 hW16 t0 t3
    rintro r T K D ⟨hD, j, hjr, hS, gz, t0, t3, u1, u2, u3⟩
    have kd : ∀ n, decide (K.length + n < H.length) = false := fun n => df (by have := hS.len; omega)
    have kd0 : decide (K.length < H.length) = false := df (by have := hS.len; omega)
    by_cases hj : j < s.colors.length
    · obtain ⟨k, hk⟩ : ∃ k, s.colors[j]? = some k := ⟨_, List.getElem?_eq_getElem hj⟩
      have q0 : (0 : Int) ≤ (j : Int) := by omega
      have q1 : (j : Int) < (s.colors.length : Int) := by omega
      have w2 : IntKind.i64.wrap ((j : Int) + 1) = ((j + 1 : Nat) : Int) := by rw [wi (by omega) (by omega)]; rfl
      have hat := flat_at (f := ckO) hk
      obtain ⟨b2, g2, cells2, rw2, c, hve, hb2, hc, hcl2, hle2, hld2, hgt2⟩ := ((hv K hS.old).colors).at hk
      have hc : c = ckC k := hc
      subst hc
      rw [hve] at u1
      rw [ck_len] at hat
      (refine sg (et t0 (et t3 (et u1 (et u2 (et u3 (et (dt q1) (et q0 (et q1 (et Int.toNat_natCast (et Nat.zero_add (et hb2 (et hld2 (et kd kd0))))))))))))) ?_; try exact ⟨⟩)
      have hS0 := hS.app [⟨ckC k, 0, true⟩]
      have gz0 := old_get gz [⟨ckC k, 0, true⟩]
      refine (rwlong_ k.t p b _ _ hS0.ink (by unfold roomP at hnB ⊢; (try simp only [List.length_append, List.length_cons, List.length_nil, lng_len, col_len, yes_len, pt_len]); omega)).x ?_
      rintro v M1 V1 ⟨rfl, hV1, hS'⟩
      have gz1 := hS'.old _ _ (pb_no hI (Nat.le_refl _)) gz0
      have gk1 : M1[K.length]? = some ⟨ckC k, 0, true⟩ := hS'.old _ _ (pb_no hI hS.len) (by rw [hget_app0]; rfl)
      have oA1 : OlP (pbP p b) K M1 := (OlP.old (Old.app' _ _)).trans hS'.old
      have hS1 := hS0.trans hS'
      (refine sg (et t0 (et t3 (et u1 (et u2 (et u3 (et gk1 (et kd kd0))))))) ?_; try exact ⟨⟩)
      refine (rwcolor_ k.c p b _ _ hS1.ink (by unfold roomP at hnB ⊢; (try simp only [List.length_append, List.length_cons, List.length_nil, lng_len, col_len, yes_len, pt_len]); omega)).x ?_
      rintro v M2 V2 ⟨rfl, hV2, hS'⟩
      have gz2 := hS'.old _ _ (pb_no hI (Nat.le_refl _)) gz1
      have gk2 : M2[K.length]? = some ⟨ckC k, 0, true⟩ := hS'.old _ _ (pb_no hI hS.len) gk1
      have oA2 : OlP (pbP p b) K M2 := oA1.trans hS'.old
      have hS2 := hS1.trans hS'
      (refine sg (et t0 (et t3 (et u1 (et u2 (et u3 (et gk2 (et kd kd0))))))) ?_; try exact ⟨⟩)
      refine (rwhow_ k.how k.e p b _ _ hS2.ink (by unfold roomP at hnB ⊢; (try simp only [List.length_append, List.length_cons, List.length_nil, lng_len, col_len, yes_len, pt_len]); omega)).x ?_
      rintro v M3 V3 ⟨rfl, hV3, hS'⟩
      have gz3 := hS'.old _ _ (pb_no hI (Nat.le_refl _)) gz2
      have gk3 : M3[K.length]? = some ⟨ckC k, 0, true⟩ := hS'.old _ _ (pb_no hI hS.len) gk2
      have oA3 : OlP (pbP p b) K M3 := oA2.trans hS'.old
      have hS3 := hS2.trans hS'
      (refine sg (et t0 (et t3 (et u1 (et u2 (et u3 (et gk3 (et kd (et kd0 w2)))))))) ?_; try exact ⟨⟩)
      refine ⟨r - 1, by omega, (((hD).app hV1.filt).app hV2.filt).app hV3.filt, j + 1, by omega, ?_, gz3, hve.symm, rfl⟩
      rw [take_snoc hk, List.flatMap_append, List.flatMap_singleton, ← List.append_assoc, show ckO k = lng k.t ++ colO k.c ++ easeO k.how k.e from rfl, ← List.append_assoc, ← List.append_assoc]; exact hS3
    · have hjl : j = s.colors.length := by omega
      rw [show s.colors.take j = s.colors by rw [hjl, List.take_length]] at hS
      (refine sg (et t0 (et t3 (et u1 (et u2 (et u3 (df (show ¬ (j : Int) < (s.colors.length : Int) by omega))))))) ?_; try exact ⟨⟩)
      (refine sg (et t0 (et t3 gz)) ?_; try exact ⟨⟩)
      refine (rwyes_ s.stroke p b _ _ hS.ink (by unfold roomP at hnB ⊢; (try simp only [List.length_append, List.length_cons, List.length_nil, lng_len, col_len, yes_len, pt_len]); omega)).x ?_
      rintro v K17 W17 ⟨rfl, hW17, hS'⟩
      have gz := hS'.old _ _ (pb_no hI (Nat.le_refl _)) gz
      have hS : InkS H K17 p b (us ++ s.colors.flatMap ckO ++ yesO s.stroke) := hS.trans hS'
      clear hS'
      (refine sg (et t0 (et t3 gz)) ?_; try exact ⟨⟩)
      refine (rwkeys_ s.width _ p b _ _ hS.ink (fun J o => (hv J (hS.old.trans o)).width) (by unfold roomP at hnB ⊢; (try simp only [List.length_append, List.length_cons, List.length_nil, lng_len, col_len, yes_len, pt_len]); omega)).x ?_
      rintro v K18 W18 ⟨rfl, hW18, hS'⟩
      have gz := hS'.old _ _ (pb_no hI (Nat.le_refl _)) gz
      have hS : InkS H K18 p b (us ++ s.colors.flatMap ckO ++ yesO s.stroke ++ keysO s.width) := hS.trans hS'
      clear hS'
      (refine sg (et t0 (et t3 gz)) ?_; try exact ⟨⟩)
      refine (rwcolor_ s.line p b _ _ hS.ink (by unfold roomP at hnB ⊢; (try simp only [List.length_append, List.length_cons, List.length_nil, lng_len, col_len, yes_len, pt_len]); omega)).x ?_
      rintro v K19 W19 ⟨rfl, hW19, hS'⟩
      have gz := hS'.old _ _ (pb_no hI (Nat.le_refl _)) gz
      have hS : InkS H K19 p b (us ++ s.colors.flatMap ckO ++ yesO s.stroke ++ keysO s.width ++ colO s.line) := hS.trans hS'
      clear hS'
      (refine sg (et t0 (et t3 gz)) ?_; try exact ⟨⟩)
      refine (rwsmall_ (s.cap) p b _ _ hS.ink (by unfold roomP at hnB ⊢; (try simp only [List.length_append, List.length_cons, List.length_nil, lng_len, col_len, yes_len, pt_len]); omega)).x ?_
      rintro v K20 W20 ⟨rfl, hW20, hS'⟩
      have gz := hS'.old _ _ (pb_no hI (Nat.le_refl _)) gz
      have hS : InkS H K20 p b (us ++ s.colors.flatMap ckO ++ yesO s.stroke ++ keysO s.width ++ colO s.line ++ [u8 s.cap]) := hS.trans hS'
      clear hS'
      (refine sg (et t0 (et t3 gz)) ?_; try exact ⟨⟩)
      refine (rwsmall_ ((s.dash.length : Int)) p b _ _ hS.ink (by unfold roomP at hnB ⊢; (try simp only [List.length_append, List.length_cons, List.length_nil, lng_len, col_len, yes_len, pt_len]); omega)).x ?_
      rintro v K21 W21 ⟨rfl, hW21, hS'⟩
      have gz := hS'.old _ _ (pb_no hI (Nat.le_refl _)) gz
      have hS : InkS H K21 p b (us ++ s.colors.flatMap ckO ++ yesO s.stroke ++ keysO s.width ++ colO s.line ++ [u8 s.cap] ++ [u8 s.dash.length]) := hS.trans hS'
      clear hS'
      obtain ⟨zs, hzs⟩ : ∃ zs, zs = us ++ s.colors.flatMap ckO ++ yesO s.stroke ++ keysO s.width ++ colO s.line ++ [u8 s.cap] ++ [u8 s.dash.length] := ⟨_, rfl⟩
      have lzs : zs.length = us.length + (s.colors.flatMap ckO).length + 1 + (keysO s.width).length + 4 + 2 := by rw [hzs]; simp only [List.length_append, List.length_cons, List.length_nil, lng_len, col_len, yes_len, pt_len]; try omega
      rw [← hzs] at hS
      have hD := (((((hD).app (hW17.filt (q := fun b => decide (b < H.length)))).app (hW18.filt (q := fun b => decide (b < H.length)))).app (hW19.filt (q := fun b => decide (b < H.length)))).app (hW20.filt (q := fun b => decide (b < H.length)))).app (hW21.filt (q := fun b => decide (b < H.length)))
      (refine sg (et t0 (et t3 gz)) ?_; try exact ⟨⟩)
      refine keep (fun r T K D => OnW D p b ∧ ∃ (j : Nat), j + r = s.dash.length ∧ InkS H K p b (zs ++ (s.dash.take j).flatMap lng) ∧ K[H.length]? = some ⟨shC s (.slice wa s.w.length we) (.slice ha s.h.length he) (.slice pa s.paths.length pe) (.slice ca s.colors.length ce) (.slice ia s.width.length ie) (.slice da s.dash.length de) (.slice fa s.frm.length fe) (.slice ta s.to.length te), 0, true⟩ ∧ T 0 = ap p 0 0 ∧ T 3 = ap H.length 0 0 ∧ T 154 = .slice da s.dash.length de ∧ T 155 = .int .i64 (s.dash.length : Int) ∧ T 156 = .int .i64 (j : Int)) s.dash.length
        ⟨hD, 0, by omega, by simpa using hS, gz, by (refine sg t0 ?_; try exact ⟨⟩), by (refine sg t3 ?_; try exact ⟨⟩), by (refine sg trivial ?_; try exact ⟨⟩), by (refine sg trivial ?_; try exact ⟨⟩), by (refine sg trivial ?_; try exact ⟨⟩) <;> rfl⟩ ?_
      clear hS hD gz hW17 hW18 hW19 hW20 hW21 t0 t3
      rintro r T K D ⟨hD, j, hjr, hS, gz, t0, t3, u1, u2, u3⟩
      have kd : ∀ n, decide (K.length + n < H.length) = false := fun n => df (by have := hS.len; omega)
      have kd0 : decide (K.length < H.length) = false := df (by have := hS.len; omega)
      by_cases hj : j < s.dash.length
      · obtain ⟨k, hk⟩ : ∃ k, s.dash[j]? = some k := ⟨_, List.getElem?_eq_getElem hj⟩
        have q0 : (0 : Int) ≤ (j : Int) := by omega
        have q1 : (j : Int) < (s.dash.length : Int) := by omega
        have w2 : IntKind.i64.wrap ((j : Int) + 1) = ((j + 1 : Nat) : Int) := by rw [wi (by omega) (by omega)]; rfl
        have hat := flat_at (f := lng) hk
        obtain ⟨b2, g2, cells2, rw2, c, hve, hb2, hc, hcl2, hle2, hld2, hgt2⟩ := ((hv K hS.old).dash).at hk
        have hc : c = [.int .i64 k] := hc
        subst hc
        have hc0 : cells2[j * 1]? = some (.int .i64 k) := hgt2 0 (by omega)
        rw [hve] at u1
        rw [lng_len] at hat
        (refine sg (et t0 (et t3 (et u1 (et u2 (et u3 (et (dt q1) (et q0 (et q1 (et Int.toNat_natCast (et Nat.zero_add (et hb2 (et hc0 (et kd kd0))))))))))))) ?_; try exact ⟨⟩)
        refine (rwlong_ k p b _ _ hS.ink (by unfold roomP at hnB ⊢; (try simp only [List.length_append, List.length_cons, List.length_nil, lng_len, col_len, yes_len, pt_len]); omega)).x ?_
        rintro v M1 V1 ⟨rfl, hV1, hS'⟩
        have gz1 := hS'.old _ _ (pb_no hI (Nat.le_refl _)) gz
        have hS1 := hS.trans hS'
        (refine sg (et t0 (et t3 (et u1 (et u2 (et u3 (et kd (et kd0 w2))))))) ?_; try exact ⟨⟩)
        refine ⟨r - 1, by omega, hD.app hV1.filt, j + 1, by omega, ?_, gz1, hve.symm, rfl⟩
        rw [take_snoc hk, List.flatMap_append, List.flatMap_singleton, ← List.append_assoc]; exact hS1
      · have hjl : j = s.dash.length := by omega
        rw [show s.dash.take j = s.dash by rw [hjl, List.take_length]] at hS
        (refine sg (et t0 (et t3 (et u1 (et u2 (et u3 (df (show ¬ (j : Int) < (s.dash.length : Int) by omega))))))) ?_; try exact ⟨⟩)
        (refine sg (et t0 (et t3 gz)) ?_; try exact ⟨⟩)
        refine (rwkeys_ s.frm _ p b _ _ hS.ink (fun J o => (hv J (hS.old.trans o)).frm) (by unfold roomP at hnB ⊢; (try simp only [List.length_append, List.length_cons, List.length_nil, lng_len, col_len, yes_len, pt_len]); omega)).x ?_
        rintro v K22 W22 ⟨rfl, hW22, hS'⟩
        have gz := hS'.old _ _ (pb_no hI (Nat.le_refl _)) gz
        have hS : InkS H K22 p b (zs ++ s.dash.flatMap lng ++ keysO s.frm) := hS.trans hS'
        clear hS'
        (refine sg (et t0 (et t3 gz)) ?_; try exact ⟨⟩)
        refine (rwkeys_ s.to _ p b _ _ hS.ink (fun J o => (hv J (hS.old.trans o)).to) (by unfold roomP at hnB ⊢; (try simp only [List.length_append, List.length_cons, List.length_nil, lng_len, col_len, yes_len, pt_len]); omega)).x ?_
        rintro v K23 W23 ⟨rfl, hW23, hS'⟩
        have gz := hS'.old _ _ (pb_no hI (Nat.le_refl _)) gz
        have hS : InkS H K23 p b (zs ++ s.dash.flatMap lng ++ keysO s.frm ++ keysO s.to) := hS.trans hS'
        clear hS'
        (refine sg (et t0 t3) ?_; try exact ⟨⟩)
        refine ⟨((hD).app hW22.filt).app hW23.filt, ?_⟩
        rw [show xs ++ shO s = zs ++ s.dash.flatMap lng ++ keysO s.frm ++ keysO s.to by rw [hzs, hus, hys]; simp [shO, ptO]]
        exact hS
end Go.Proofs.YtlcdbangmbdlcaaGreat
/- Writing: the document's answer's list of rows of keys. -/
namespace Go.Proofs.YtlcdbangmbdlcaaGreat
open Go Go.RowKit E
attribute [local irreducible] XRun XOps XCode XCal XLoop XQ SemCall
set_option linter.unusedSimpArgs false
set_option linter.unusedVariables false
set_option maxHeartbeats 4000000 in
/-- The list of a layer's rows of keys: in all heaps in which all but q stands. -/
theorem rkeysP_ (l : Ly) (v0 v1 v2 v3 v4 v5 v6 v7 v8 pm vw vh vp vc vd vda vf vt : Value) (q : Nat → Prop) (H : AH) (hq : ∀ c, H.length ≤ c → ¬ q c) (hv : ∀ J, OlP q H J → LyV J l v0 v1 v2 v3 v4 v5 v6 v7 v8 pm) : Cal Tryz.prog 45 [.agg (lyVs l v0 v1 v2 v3 v4 v5 v6 v7 v8 pm vw vh vp vc vd vda vf vt).toArray] H fun v' H' W => W = [] ∧ (∃ L, H' = H ++ L) ∧ ∀ J, OlP q H' J → RowOf 1 KsE J v' l.keys := by
  refine adds_of ?_
  have h := hv H (OlP.refl _ _)
  obtain ⟨a0, e0, rfl⟩ := h.x.form
  obtain ⟨a1, e1, rfl⟩ := h.y.form
  obtain ⟨a2, e2, rfl⟩ := h.ax.form
  obtain ⟨a3, e3, rfl⟩ := h.ay.form
  obtain ⟨a4, e4, rfl⟩ := h.sx.form
  obtain ⟨a5, e5, rfl⟩ := h.sy.form
  obtain ⟨a6, e6, rfl⟩ := h.turn.form
  obtain ⟨a7, e7, rfl⟩ := h.opac.form
  obtain ⟨a8, e8, rfl⟩ := h.remap.form
  refine XCal.of hm Tryz.func45 rfl (fun xs w => Tryz.call45 xs w) Tryz.ntmps45 Tryz.results45 rfl ?_
  simp only [go_sem, Nat.reduceEqDiff, Nat.reduceAdd, Nat.reduceSub, Nat.reduceMul, Nat.reduceLT, Nat.reduceLeDiff, Int.reducePow, Int.reduceBEq, Int.reduceBNe, Int.reduceDiv, Int.reduceMod, Int.reduceEq, Int.reduceLT, Int.reduceLE, Int.reduceAdd, Int.reduceSub, Int.reduceMul, Int.reduceNeg, Int.reduceToNat, Int.reduceTDiv, Int.reduceTMod, ↓reduceIte]
  intro J o
  have hJ := hv J ((OlP.old (Old.app' _ _)).trans o)
  refine .inr ⟨H.length + 1, 0, [], true, [[.slice a0 l.x.length e0], [.slice a1 l.y.length e1], [.slice a2 l.ax.length e2], [.slice a3 l.ay.length e3], [.slice a4 l.sx.length e4], [.slice a5 l.sy.length e5], [.slice a6 l.turn.length e6], [.slice a7 l.opac.length e7], [.slice a8 l.remap.length e8]], rfl, o _ _ (hq _ (by omega)) (by rw [hget_app]; rfl), rfl, by simp [Ly.keys], fun i x hx => ?_⟩
  match i, hx with
  | 0, hx => simp [Ly.keys] at hx; subst hx; exact ⟨_, rfl, rfl, _, rfl, hJ.x⟩
  | 1, hx => simp [Ly.keys] at hx; subst hx; exact ⟨_, rfl, rfl, _, rfl, hJ.y⟩
  | 2, hx => simp [Ly.keys] at hx; subst hx; exact ⟨_, rfl, rfl, _, rfl, hJ.ax⟩
  | 3, hx => simp [Ly.keys] at hx; subst hx; exact ⟨_, rfl, rfl, _, rfl, hJ.ay⟩
  | 4, hx => simp [Ly.keys] at hx; subst hx; exact ⟨_, rfl, rfl, _, rfl, hJ.sx⟩
  | 5, hx => simp [Ly.keys] at hx; subst hx; exact ⟨_, rfl, rfl, _, rfl, hJ.sy⟩
  | 6, hx => simp [Ly.keys] at hx; subst hx; exact ⟨_, rfl, rfl, _, rfl, hJ.turn⟩
  | 7, hx => simp [Ly.keys] at hx; subst hx; exact ⟨_, rfl, rfl, _, rfl, hJ.opac⟩
  | 8, hx => simp [Ly.keys] at hx; subst hx; exact ⟨_, rfl, rfl, _, rfl, hJ.remap⟩
  | i + 9, hx => simp [Ly.keys] at hx
end Go.Proofs.YtlcdbangmbdlcaaGreat
/- Writing: the walk of the document's answer's bytes (under way). -/
namespace Go.Proofs.YtlcdbangmbdlcaaGreat
open Go Go.RowKit E
attribute [local irreducible] XRun XOps XCode XCal XLoop XQ SemCall
set_option linter.unusedSimpArgs false
set_option linter.unusedVariables false
set_option maxHeartbeats 8000000 in
theorem rwbytes_ (d : Dc) (cv : Value) (H : AH) (h : Cos H cv d.comps) (hn : roomP ((bodyO d).length + 128)) :
    Cal Tryz.prog 22 [dcV d cv] H fun v' H' W => W = [] ∧ (∃ L, H' = H ++ L) ∧ (∃ g, v' = sl (H.length + 1) 0 g (docO d).length 1) ∧ Dep H.length H' (fun J => Bys J v' (docO d)) := by
  refine adds_of ?_
  have kd : ∀ n, decide (H.length + n < H.length) = false := fun n => df (by omega)
  have kd0 : decide (H.length < H.length) = false := df (by omega)
  have hln := h.len
  obtain ⟨ca, ce, hcf⟩ := h.form
  subst hcf
  have hmk := fun {R : KV} => mark_ok (P := Tryz.prog) (t := 29) (e := 5) (R := R) (H := H ++ [(⟨[.int .i64 d.in_, .int .i64 d.out, .slice ca d.comps.length ce], 0, true⟩ : Blk), ⟨[.int .u8 75, .int .u8 86, .int .u8 65, .int .u8 49], 0, true⟩]) (b := H.length + 1) (n := 4) (s := 1) (by kernel_rfl) (by kernel_rfl) (by kernel_rfl) (by rw [hget_app]; rfl) (by omega)
  refine XCal.of hm Tryz.func22 rfl (fun xs w => Tryz.call22 xs w) Tryz.ntmps22 Tryz.results22 rfl ?_
  simp only [go_sem, Nat.reduceEqDiff, Nat.reduceAdd, Nat.reduceSub, Nat.reduceMul, Nat.reduceLT, Nat.reduceLeDiff, Int.reducePow, Int.reduceBEq, Int.reduceBNe, Int.reduceDiv, Int.reduceMod, Int.reduceEq, Int.reduceLT, Int.reduceLE, Int.reduceAdd, Int.reduceSub, Int.reduceMul, Int.reduceNeg, Int.reduceToNat, Int.reduceTDiv, Int.reduceTMod, ↓reduceIte, kd, kd0, hmk]
  have hI : InkAt (H ++ [(⟨[.int .i64 d.in_, .int .i64 d.out, .slice ca d.comps.length ce], 0, true⟩ : Blk), ⟨[.int .u8 75, .int .u8 86, .int .u8 65, .int .u8 49], 0, true⟩, ⟨[sl (H.length + 1) 0 0 4 1], 0, true⟩]) (H.length + 2) (H.length + 1) [75, 86, 65, 49] := ⟨by omega, 0, by rw [hget_app]; rfl, by rw [hget_app]; rfl⟩
  have hbl : (bodyO d).length = 4 + 16 + 1 + (d.comps.flatMap coO).length := by unfold bodyO; simp only [List.length_append, List.length_cons, List.length_nil, lng_len]; omega
  refine (rwlong_ d.in_ (H.length + 2) (H.length + 1) _ _ hI (by unfold roomP at hn ⊢; simp only [List.length_cons, List.length_nil]; omega)).x ?_
  rintro v K1 W1 ⟨rfl, hW1, hS⟩
  have gB : (H ++ [(⟨[.int .i64 d.in_, .int .i64 d.out, .slice ca d.comps.length ce], 0, true⟩ : Blk), ⟨[.int .u8 75, .int .u8 86, .int .u8 65, .int .u8 49], 0, true⟩, ⟨[sl (H.length + 1) 0 0 4 1], 0, true⟩])[H.length]? = some ⟨[.int .i64 d.in_, .int .i64 d.out, .slice ca d.comps.length ce], 0, true⟩ := by rw [hget_app0]; rfl
  have oB : Old H (H ++ [(⟨[.int .i64 d.in_, .int .i64 d.out, .slice ca d.comps.length ce], 0, true⟩ : Blk), ⟨[.int .u8 75, .int .u8 86, .int .u8 65, .int .u8 49], 0, true⟩, ⟨[sl (H.length + 1) 0 0 4 1], 0, true⟩]) := Old.app' _ _
  have lB : (H ++ [(⟨[.int .i64 d.in_, .int .i64 d.out, .slice ca d.comps.length ce], 0, true⟩ : Blk), ⟨[.int .u8 75, .int .u8 86, .int .u8 65, .int .u8 49], 0, true⟩, ⟨[sl (H.length + 1) 0 0 4 1], 0, true⟩]).length = H.length + 3 := by simp
  generalize H ++ [(⟨[.int .i64 d.in_, .int .i64 d.out, .slice ca d.comps.length ce], 0, true⟩ : Blk), ⟨[.int .u8 75, .int .u8 86, .int .u8 65, .int .u8 49], 0, true⟩, ⟨[sl (H.length + 1) 0 0 4 1], 0, true⟩] = B at *
  clear hmk
  have nz : ¬ pbP (H.length + 2) (H.length + 1) H.length := fun e => by rcases e with e | e <;> omega
  have hOld : ∀ J, OlP (pbP (H.length + 2) (H.length + 1)) B J → Old H J := fun J o c k e => by
    have := (List.getElem?_eq_some_iff.1 e).1
    exact o c k (fun e => by rcases e with e | e <;> omega) (oB c k e)
  have fl : ∀ {W}, OnW W (H.length + 2) (H.length + 1) → W.filter (fun b => decide (b < H.length)) = [] := fun {W} h => filt_on h (by omega) (by omega)
  have gz := hS.old _ _ nz gB
  (refine sg (et gz (fl hW1)) ?_; try exact ⟨⟩)
  refine (rwlong_ d.out _ _ _ _ hS.ink (by unfold roomP at hn ⊢; simp only [List.length_append, List.length_cons, List.length_nil, lng_len]; omega)).x ?_
  rintro v K2 W2 ⟨rfl, hW2, hS'⟩
  have gz := hS'.old _ _ nz gz
  have hS := hS.trans hS'
  clear hS'
  (refine sg (et gz (et (fl hW1) (fl hW2))) ?_; try exact ⟨⟩)
  refine (rwsmall_ (d.comps.length : Int) _ _ _ _ hS.ink (by unfold roomP at hn ⊢; simp only [List.length_append, List.length_cons, List.length_nil, lng_len]; omega)).x ?_
  rintro v K3 W3 ⟨rfl, hW3, hS'⟩
  have gz := hS'.old _ _ nz gz
  have hS := hS.trans hS'
  clear hS'
  obtain ⟨ys, hys⟩ : ∃ ys, ys = [75, 86, 65, 49] ++ lng d.in_ ++ lng d.out ++ [u8 (d.comps.length : Int)] := ⟨_, rfl⟩
  have hyl : ys.length = 21 := by rw [hys]; simp only [List.length_append, List.length_cons, List.length_nil, lng_len]
  rw [← hys] at hS
  (refine sg (et gz (et (fl hW1) (et (fl hW2) (fl hW3)))) ?_; try exact ⟨⟩)
  refine keep (fun r T K D => D = [] ∧ ∃ (i : Nat), i + r = d.comps.length ∧ InkS B K (H.length + 2) (H.length + 1) (ys ++ (d.comps.take i).flatMap coO) ∧ T 1 = ap H.length 0 0 ∧ T 3 = ap (H.length + 2) 0 0 ∧ T 29 = .slice ca d.comps.length ce ∧ T 30 = .int .i64 (d.comps.length : Int) ∧ T 31 = .int .i64 (i : Int)) d.comps.length
    ⟨rfl, 0, by omega, by simpa using hS, by (refine sg trivial ?_; try exact ⟨⟩), by (refine sg trivial ?_; try exact ⟨⟩), by (refine sg trivial ?_; try exact ⟨⟩), by (refine sg trivial ?_; try exact ⟨⟩), by (refine sg trivial ?_; try exact ⟨⟩) <;> rfl⟩ ?_
  clear hS gz hW1 hW2 hW3 kd kd0 hI
  rintro r T K D ⟨rfl, i, hir, hS, t1, t5, t34, t35, t36⟩
  have hI := hS.ink
  have kd : ∀ n, decide (K.length + n < H.length) = false := fun n => df (by have := hS.len; omega)
  have kd0 : decide (K.length < H.length) = false := df (by have := hS.len; omega)
  by_cases hi : i < d.comps.length
  · obtain ⟨l, hx⟩ : ∃ l, d.comps[i]? = some l := ⟨_, List.getElem?_eq_getElem hi⟩
    obtain ⟨b2, g2, cells2, rw2, c, hve2, hpb2, hb2, hcl2, hld2, hE⟩ := row_el (fun J o => h.old CoE.m (hOld J (hS.old.trans o))) hx
    obtain ⟨lv, rfl, _⟩ := hE K (OlP.refl _ _)
    have hL : ∀ J, OlP (pbP (H.length + 2) (H.length + 1)) K J → Lys J lv l := fun J o => by
      obtain ⟨lv', e, hh⟩ := hE J o
      cases e; exact hh
    have hll := (hL K (OlP.refl _ _)).len
    obtain ⟨la, le, rfl⟩ := (hL K (OlP.refl _ _)).form
    clear hE
    rw [hve2] at t34
    have q0 : (0 : Int) ≤ (i : Int) := by omega
    have q1 : (i : Int) < (d.comps.length : Int) := by omega
    have w1 : IntKind.i64.wrap ((i : Int) + 1) = ((i + 1 : Nat) : Int) := by rw [wi (by omega) (by omega)]; rfl
    have hat := flat_at (f := coO) hx
    have hcO : (coO l).length = 1 + (l.flatMap lyO).length := by unfold coO; rw [List.length_cons]; omega
    (refine sg (et t1 (et t5 (et t34 (et t35 (et t36 (et (dt q1) (et q0 (et q1 (et Int.toNat_natCast (et Nat.zero_add (et hb2 (et hld2 (et kd kd0))))))))))))) ?_; try exact ⟨⟩)
    have hB := hS.app [⟨[.slice la l.length le], 0, true⟩]
    refine (rwsmall_ (l.length : Int) _ _ _ _ hB.ink (by unfold roomP at hn ⊢; simp only [List.length_append, List.length_cons, List.length_nil]; omega)).x ?_
    rintro v K3 W3 ⟨rfl, hW3, hS'⟩
    have gc : K3[K.length]? = some ⟨[.slice la l.length le], 0, true⟩ := hS'.old _ _ (pb_no hI (Nat.le_refl _)) (by rw [hget_app0]; rfl)
    have hL3 : ∀ J, OlP (pbP (H.length + 2) (H.length + 1)) K3 J → Lys J (.slice la l.length le) l := fun J o => hL J (((OlP.old (Old.app' _ _)).trans hS'.old).trans o)
    have hS3 : InkS B K3 (H.length + 2) (H.length + 1) (ys ++ (d.comps.take i).flatMap coO ++ [u8 l.length]) := hB.trans hS'
    clear hB hS' hL hS
    (refine sg (et t1 (et t5 (et t34 (et t35 (et t36 (et gc (et kd (et kd0 (fl hW3))))))))) ?_; try exact ⟨⟩)
    refine keep (fun r T V D => D = [] ∧ ∃ (j : Nat), j + r = l.length ∧ InkS B V (H.length + 2) (H.length + 1) (ys ++ (d.comps.take i).flatMap coO ++ [u8 l.length] ++ (l.take j).flatMap lyO) ∧ OlP (pbP (H.length + 2) (H.length + 1)) K3 V ∧ T 1 = ap H.length 0 0 ∧ T 3 = ap (H.length + 2) 0 0 ∧ T 29 = sl b2 0 g2 d.comps.length 1 ∧ T 30 = .int .i64 (d.comps.length : Int) ∧ T 31 = .int .i64 (i : Int) ∧ T 41 = .slice la l.length le ∧ T 42 = .int .i64 (l.length : Int) ∧ T 43 = .int .i64 (j : Int)) l.length
      ⟨rfl, 0, by omega, by simpa using hS3, OlP.refl _ _, by (refine sg t1 ?_; try exact ⟨⟩), by (refine sg t5 ?_; try exact ⟨⟩), by (refine sg t34 ?_; try exact ⟨⟩), by (refine sg t35 ?_; try exact ⟨⟩), by (refine sg t36 ?_; try exact ⟨⟩), by (refine sg trivial ?_; try exact ⟨⟩), by (refine sg trivial ?_; try exact ⟨⟩), by (refine sg trivial ?_; try exact ⟨⟩) <;> rfl⟩ ?_
    clear hS3 gc hW3 kd kd0 t1 t5 t34 t35 t36
    rintro r2 T2 V D ⟨rfl, j, hjr, hS, o3, s1, s5, s34, s35, s36, s47, s48, s49⟩
    have kd : ∀ n, decide (V.length + n < H.length) = false := fun n => df (by have := hS.len; omega)
    have kd0 : decide (V.length < H.length) = false := df (by have := hS.len; omega)
    by_cases hj : j < l.length
    · obtain ⟨y, hy⟩ : ∃ y, l[j]? = some y := ⟨_, List.getElem?_eq_getElem hj⟩
      obtain ⟨b4, g4, cells4, rw4, c, hve4, hpb4, hb4, hcl4, hld4, hE⟩ := row_el (fun J o => hL3 J (o3.trans o)) hy
      obtain ⟨v0, v1, v2, v3, v4, v5, v6, v7, v8, pm, vw, vh, vp, vc, vd, vda, vf, vt, rfl, _, _⟩ := hE V (OlP.refl _ _)
      have hV : ∀ J, OlP (pbP (H.length + 2) (H.length + 1)) V J → LyV J y v0 v1 v2 v3 v4 v5 v6 v7 v8 pm ∧ ShV J y.shape vw vh vp vc vd vda vf vt := fun J o => by
        obtain ⟨v0', v1', v2', v3', v4', v5', v6', v7', v8', pm', vw', vh', vp', vc', vd', vda', vf', vt', e, h1, h2⟩ := hE J o
        cases e; exact ⟨h1, h2⟩
      clear hE
      obtain ⟨a0, e0, rfl⟩ := (hV V (OlP.refl _ _)).1.x.form
      obtain ⟨a1, e1, rfl⟩ := (hV V (OlP.refl _ _)).1.y.form
      obtain ⟨a2, e2, rfl⟩ := (hV V (OlP.refl _ _)).1.ax.form
      obtain ⟨a3, e3, rfl⟩ := (hV V (OlP.refl _ _)).1.ay.form
      obtain ⟨a4, e4, rfl⟩ := (hV V (OlP.refl _ _)).1.sx.form
      obtain ⟨a5, e5, rfl⟩ := (hV V (OlP.refl _ _)).1.sy.form
      obtain ⟨a6, e6, rfl⟩ := (hV V (OlP.refl _ _)).1.turn.form
      obtain ⟨a7, e7, rfl⟩ := (hV V (OlP.refl _ _)).1.opac.form
      obtain ⟨a8, e8, rfl⟩ := (hV V (OlP.refl _ _)).1.remap.form
      obtain ⟨a9, e9, rfl⟩ := (hV V (OlP.refl _ _)).1.mask.form
      obtain ⟨c0, f0, rfl⟩ := (hV V (OlP.refl _ _)).2.w.form
      obtain ⟨c1, f1, rfl⟩ := (hV V (OlP.refl _ _)).2.h.form
      obtain ⟨c2, f2, rfl⟩ := (hV V (OlP.refl _ _)).2.paths.form
      obtain ⟨c3, f3, rfl⟩ := (hV V (OlP.refl _ _)).2.colors.form
      obtain ⟨c4, f4, rfl⟩ := (hV V (OlP.refl _ _)).2.width.form
      obtain ⟨c5, f5, rfl⟩ := (hV V (OlP.refl _ _)).2.dash.form
      obtain ⟨c6, f6, rfl⟩ := (hV V (OlP.refl _ _)).2.frm.form
      obtain ⟨c7, f7, rfl⟩ := (hV V (OlP.refl _ _)).2.to.form
      rw [hve4] at s47
      have q0 : (0 : Int) ≤ (j : Int) := by omega
      have q1 : (j : Int) < (l.length : Int) := by omega
      have w2 : IntKind.i64.wrap ((j : Int) + 1) = ((j + 1 : Nat) : Int) := by rw [wi (by omega) (by omega)]; rfl
      have hat2 := flat_at (f := lyO) hy
      have hly := ly_len y
      (refine sg (et s1 (et s5 (et s34 (et s35 (et s36 (et s47 (et s48 (et s49 (et (dt q1) (et q0 (et q1 (et Int.toNat_natCast (et Nat.zero_add (et hb4 (et hld4 (et kd kd0)))))))))))))))) ?_; try exact ⟨⟩)
      have hS0 := hS.app [⟨lyVs y (.slice a0 y.x.length e0) (.slice a1 y.y.length e1) (.slice a2 y.ax.length e2) (.slice a3 y.ay.length e3) (.slice a4 y.sx.length e4) (.slice a5 y.sy.length e5) (.slice a6 y.turn.length e6) (.slice a7 y.opac.length e7) (.slice a8 y.remap.length e8) (.slice a9 y.mask.2.length e9) (.slice c0 y.shape.w.length f0) (.slice c1 y.shape.h.length f1) (.slice c2 y.shape.paths.length f2) (.slice c3 y.shape.colors.length f3) (.slice c4 y.shape.width.length f4) (.slice c5 y.shape.dash.length f5) (.slice c6 y.shape.frm.length f6) (.slice c7 y.shape.to.length f7), 0, true⟩]
      have gk0 : (V ++ [(⟨lyVs y (.slice a0 y.x.length e0) (.slice a1 y.y.length e1) (.slice a2 y.ax.length e2) (.slice a3 y.ay.length e3) (.slice a4 y.sx.length e4) (.slice a5 y.sy.length e5) (.slice a6 y.turn.length e6) (.slice a7 y.opac.length e7) (.slice a8 y.remap.length e8) (.slice a9 y.mask.2.length e9) (.slice c0 y.shape.w.length f0) (.slice c1 y.shape.h.length f1) (.slice c2 y.shape.paths.length f2) (.slice c3 y.shape.colors.length f3) (.slice c4 y.shape.width.length f4) (.slice c5 y.shape.dash.length f5) (.slice c6 y.shape.frm.length f6) (.slice c7 y.shape.to.length f7), 0, true⟩ : Blk)])[V.length]? = some ⟨lyVs y (.slice a0 y.x.length e0) (.slice a1 y.y.length e1) (.slice a2 y.ax.length e2) (.slice a3 y.ay.length e3) (.slice a4 y.sx.length e4) (.slice a5 y.sy.length e5) (.slice a6 y.turn.length e6) (.slice a7 y.opac.length e7) (.slice a8 y.remap.length e8) (.slice a9 y.mask.2.length e9) (.slice c0 y.shape.w.length f0) (.slice c1 y.shape.h.length f1) (.slice c2 y.shape.paths.length f2) (.slice c3 y.shape.colors.length f3) (.slice c4 y.shape.width.length f4) (.slice c5 y.shape.dash.length f5) (.slice c6 y.shape.frm.length f6) (.slice c7 y.shape.to.length f7), 0, true⟩ := by rw [hget_app0]; rfl
      have oA0 : OlP (pbP (H.length + 2) (H.length + 1)) V (V ++ [(⟨lyVs y (.slice a0 y.x.length e0) (.slice a1 y.y.length e1) (.slice a2 y.ax.length e2) (.slice a3 y.ay.length e3) (.slice a4 y.sx.length e4) (.slice a5 y.sy.length e5) (.slice a6 y.turn.length e6) (.slice a7 y.opac.length e7) (.slice a8 y.remap.length e8) (.slice a9 y.mask.2.length e9) (.slice c0 y.shape.w.length f0) (.slice c1 y.shape.h.length f1) (.slice c2 y.shape.paths.length f2) (.slice c3 y.shape.colors.length f3) (.slice c4 y.shape.width.length f4) (.slice c5 y.shape.dash.length f5) (.slice c6 y.shape.frm.length f6) (.slice c7 y.shape.to.length f7), 0, true⟩ : Blk)]) := OlP.old (Old.app' _ _)
      have hnp : ¬ pbP (H.length + 2) (H.length + 1) V.length := fun e => by have := hS.len; rcases e with e | e <;> omega
      refine (rwsmall_ y.kind _ _ _ _ hS0.ink (by unfold roomP at hn ⊢; (try simp only [List.length_append, List.length_cons, List.length_nil, lng_len]); omega)).x ?_
      rintro v M1 V1 ⟨rfl, hV1, hS'⟩
      have gk1 := hS'.old _ _ hnp gk0
      have oA1 := oA0.trans hS'.old
      have hS1 := hS0.trans hS'
      (refine sg (et s1 (et s5 (et s34 (et s35 (et s36 (et s47 (et s48 (et s49 (et gk1 (et kd (et kd0 (fl hV1)))))))))))) ?_; try exact ⟨⟩)
      refine (rwsmall_ (IntKind.i64.wrap (y.parent + 1)) _ _ _ _ hS1.ink (by unfold roomP at hn ⊢; (try simp only [List.length_append, List.length_cons, List.length_nil, lng_len]); omega)).x ?_
      rintro v M2 V2 ⟨rfl, hV2, hS'⟩
      have gk2 := hS'.old _ _ hnp gk1
      have oA2 := oA1.trans hS'.old
      have hS2 := hS1.trans hS'
      (refine sg (et s1 (et s5 (et s34 (et s35 (et s36 (et s47 (et s48 (et s49 (et gk2 (et kd (et kd0 (fl hV2)))))))))))) ?_; try exact ⟨⟩)
      refine (rwsmall_ y.comp _ _ _ _ hS2.ink (by unfold roomP at hn ⊢; (try simp only [List.length_append, List.length_cons, List.length_nil, lng_len]); omega)).x ?_
      rintro v M3 V3 ⟨rfl, hV3, hS'⟩
      have gk3 := hS'.old _ _ hnp gk2
      have oA3 := oA2.trans hS'.old
      have hS3 := hS2.trans hS'
      (refine sg (et s1 (et s5 (et s34 (et s35 (et s36 (et s47 (et s48 (et s49 (et gk3 (et kd (et kd0 (fl hV3)))))))))))) ?_; try exact ⟨⟩)
      refine (rwsmall_ y.matte _ _ _ _ hS3.ink (by unfold roomP at hn ⊢; (try simp only [List.length_append, List.length_cons, List.length_nil, lng_len]); omega)).x ?_
      rintro v M4 V4 ⟨rfl, hV4, hS'⟩
      have gk4 := hS'.old _ _ hnp gk3
      have oA4 := oA3.trans hS'.old
      have hS4 := hS3.trans hS'
      (refine sg (et s1 (et s5 (et s34 (et s35 (et s36 (et s47 (et s48 (et s49 (et gk4 (et kd (et kd0 (fl hV4)))))))))))) ?_; try exact ⟨⟩)
      refine (rwlong_ y.in_ _ _ _ _ hS4.ink (by unfold roomP at hn ⊢; (try simp only [List.length_append, List.length_cons, List.length_nil, lng_len]); omega)).x ?_
      rintro v M5 V5 ⟨rfl, hV5, hS'⟩
      have gk5 := hS'.old _ _ hnp gk4
      have oA5 := oA4.trans hS'.old
      have hS5 := hS4.trans hS'
      (refine sg (et s1 (et s5 (et s34 (et s35 (et s36 (et s47 (et s48 (et s49 (et gk5 (et kd (et kd0 (fl hV5)))))))))))) ?_; try exact ⟨⟩)
      refine (rwlong_ y.out _ _ _ _ hS5.ink (by unfold roomP at hn ⊢; (try simp only [List.length_append, List.length_cons, List.length_nil, lng_len]); omega)).x ?_
      rintro v M6 V6 ⟨rfl, hV6, hS'⟩
      have gk6 := hS'.old _ _ hnp gk5
      have oA6 := oA5.trans hS'.old
      have hS6 := hS5.trans hS'
      (refine sg (et s1 (et s5 (et s34 (et s35 (et s36 (et s47 (et s48 (et s49 (et gk6 (et kd (et kd0 (fl hV6)))))))))))) ?_; try exact ⟨⟩)
      refine (rwlong_ y.start _ _ _ _ hS6.ink (by unfold roomP at hn ⊢; (try simp only [List.length_append, List.length_cons, List.length_nil, lng_len]); omega)).x ?_
      rintro v M7 V7 ⟨rfl, hV7, hS'⟩
      have gk7 := hS'.old _ _ hnp gk6
      have oA7 := oA6.trans hS'.old
      have hS7 := hS6.trans hS'
      (refine sg (et s1 (et s5 (et s34 (et s35 (et s36 (et s47 (et s48 (et s49 (et gk7 (et kd (et kd0 (fl hV7)))))))))))) ?_; try exact ⟨⟩)
      refine (rkeysP_ y (.slice a0 y.x.length e0) (.slice a1 y.y.length e1) (.slice a2 y.ax.length e2) (.slice a3 y.ay.length e3) (.slice a4 y.sx.length e4) (.slice a5 y.sy.length e5) (.slice a6 y.turn.length e6) (.slice a7 y.opac.length e7) (.slice a8 y.remap.length e8) (.slice a9 y.mask.2.length e9) (.slice c0 y.shape.w.length f0) (.slice c1 y.shape.h.length f1) (.slice c2 y.shape.paths.length f2) (.slice c3 y.shape.colors.length f3) (.slice c4 y.shape.width.length f4) (.slice c5 y.shape.dash.length f5) (.slice c6 y.shape.frm.length f6) (.slice c7 y.shape.to.length f7) (pbP (H.length + 2) (H.length + 1)) M7 (fun c hc e => by have := hS7.len; have := hS.len; rcases e with e | e <;> omega) (fun J o => (hV J (oA7.trans o)).1)).x ?_
      rintro v M8 V8 ⟨rfl, ⟨X, rfl⟩, hR⟩
      have gk8 := old_get gk7 X
      have oA8 := oA7.trans (OlP.old (Old.app' M7 X))
      have hS8 := hS7.app X
      have hRl := (hR _ (OlP.refl _ _)).len
      obtain ⟨ra, re, rfl⟩ := (hR _ (OlP.refl _ _)).form
      generalize M7 ++ X = M8 at *
      have kdV0 : decide (V.length < H.length) = false := kd0
      have kd : ∀ n, decide (M8.length + n < H.length) = false := fun n => df (by have := hS8.len; have := hS.len; omega)
      have kd0 : decide (M8.length < H.length) = false := df (by have := hS8.len; have := hS.len; omega)
      have hyk : (y.keys.flatMap keysO).length = (keysO y.x).length + (keysO y.y).length + (keysO y.ax).length + (keysO y.ay).length + (keysO y.sx).length + (keysO y.sy).length + (keysO y.turn).length + (keysO y.opac).length + (keysO y.remap).length := by simp [Ly.keys]; omega
      clear hS1 hS2 hS3 hS4 hS5 hS6 hS7 gk0 gk1 gk2 gk3 gk4 gk5 gk6 gk7 oA0 oA1 oA2 oA3 oA4 oA5 oA6 oA7 hS'
      (refine sg (et s1 (et s5 (et s34 (et s35 (et s36 (et s47 (et s48 (et s49 (et gk8 (et kd (et kd0 (et kdV0 (et (fl hV1) (et (fl hV2) (et (fl hV3) (et (fl hV4) (et (fl hV5) (et (fl hV6) (fl hV7))))))))))))))))))) ?_; try exact ⟨⟩)
      refine keep (fun r T Z D => D = [] ∧ ∃ (m : Nat), m + r = y.keys.length ∧ InkS B Z (H.length + 2) (H.length + 1) (ys ++ (d.comps.take i).flatMap coO ++ [u8 l.length] ++ (l.take j).flatMap lyO ++ [u8 y.kind] ++ [u8 (IntKind.i64.wrap (y.parent + 1))] ++ [u8 y.comp] ++ [u8 y.matte] ++ lng y.in_ ++ lng y.out ++ lng y.start ++ (y.keys.take m).flatMap keysO) ∧ OlP (pbP (H.length + 2) (H.length + 1)) M8 Z ∧ T 1 = ap H.length 0 0 ∧ T 3 = ap (H.length + 2) 0 0 ∧ T 29 = sl b2 0 g2 d.comps.length 1 ∧ T 30 = .int .i64 (d.comps.length : Int) ∧ T 31 = .int .i64 (i : Int) ∧ T 41 = sl b4 0 g4 l.length 50 ∧ T 42 = .int .i64 (l.length : Int) ∧ T 43 = .int .i64 (j : Int) ∧ T 7 = ap V.length 0 0 ∧ T 77 = .slice ra y.keys.length re ∧ T 78 = .int .i64 (y.keys.length : Int) ∧ T 79 = .int .i64 (m : Int)) y.keys.length
        ⟨rfl, 0, by omega, by simpa using hS8, OlP.refl _ _, by (refine sg s1 ?_; try exact ⟨⟩), by (refine sg s5 ?_; try exact ⟨⟩), by (refine sg s34 ?_; try exact ⟨⟩), by (refine sg s35 ?_; try exact ⟨⟩), by (refine sg s36 ?_; try exact ⟨⟩), by (refine sg s47 ?_; try exact ⟨⟩), by (refine sg s48 ?_; try exact ⟨⟩), by (refine sg s49 ?_; try exact ⟨⟩), by (refine sg trivial ?_; try exact ⟨⟩), by (refine sg trivial ?_; try exact ⟨⟩), by (refine sg trivial ?_; try exact ⟨⟩), by (refine sg trivial ?_; try exact ⟨⟩) <;> rfl⟩ ?_
      clear hS8 kd kd0 s1 s5 s34 s35 s36 s47 s48 s49
      rintro r3 T3 Z D ⟨rfl, m, hmr, hSZ, oZ, s1, s5, s34, s35, s36, s47, s48, s49, s7, s77, s78, s79⟩
      have kd : ∀ n, decide (Z.length + n < H.length) = false := fun n => df (by have := hSZ.len; omega)
      have kd0 : decide (Z.length < H.length) = false := df (by have := hSZ.len; omega)
      by_cases hm0 : m < y.keys.length
      · obtain ⟨k, hk⟩ : ∃ k, y.keys[m]? = some k := ⟨_, List.getElem?_eq_getElem hm0⟩
        obtain ⟨bl, gl, cells, rw_, kv, hve, hpb, hb, hc0, hle, hE⟩ := row_cell (fun J o => hR J (oZ.trans o)) hk
        have hK : ∀ J, OlP (pbP (H.length + 2) (H.length + 1)) Z J → Kys J kv k := fun J o => by
          obtain ⟨_, e, h⟩ := hE J o
          cases e; exact h
        rw [hve] at s77
        have p0 : (0 : Int) ≤ (m : Int) := by omega
        have p1 : (m : Int) < (y.keys.length : Int) := by omega
        have w3 : IntKind.i64.wrap ((m : Int) + 1) = ((m + 1 : Nat) : Int) := by rw [wi (by omega) (by omega)]; rfl
        have hat3 := flat_at (f := keysO) hk
        (refine sg (et s1 (et s5 (et s34 (et s35 (et s36 (et s47 (et s48 (et s49 (et s7 (et s77 (et s78 (et s79 (et (dt p1) (et p0 (et p1 (et Int.toNat_natCast (et Nat.zero_add (et hb (et hc0 (et kd kd0)))))))))))))))))))) ?_; try exact ⟨⟩)
        refine (rwkeys_ k kv _ _ _ _ hSZ.ink hK (by unfold roomP at hn ⊢; (try simp only [List.length_append, List.length_cons, List.length_nil, lng_len]); omega)).x ?_
        rintro v Z1 V1 ⟨rfl, hV1, hS'⟩
        have hSZ1 := hSZ.trans hS'
        have oZ1 := oZ.trans hS'.old
        (refine sg (et s1 (et s5 (et s34 (et s35 (et s36 (et s47 (et s48 (et s49 (et s7 (et s77 (et s78 (et s79 (et kd (et kd0 (et (fl hV1) w3))))))))))))))) ?_; try exact ⟨⟩)
        refine ⟨r3 - 1, by omega, m + 1, by omega, ?_, oZ1, hve.symm, rfl⟩
        rw [take_snoc hk, List.flatMap_append, List.flatMap_singleton, ← List.append_assoc]
        exact hSZ1
      · have hml : m = y.keys.length := by omega
        rw [show y.keys.take m = y.keys by rw [hml, List.take_length]] at hSZ
        have gkZ := oZ _ _ hnp gk8
        (refine sg (et s1 (et s5 (et s34 (et s35 (et s36 (et s47 (et s48 (et s49 (et s7 (et s77 (et s78 (et s79 (et gkZ (et (df (show ¬ (m : Int) < (y.keys.length : Int) by omega)) (et kd kd0))))))))))))))) ?_; try exact ⟨⟩)
        refine (rwpath_ y.mask _ _ _ _ _ hSZ.ink (fun J o => (hV J ((oA8.trans oZ).trans o)).1.mask) (by unfold roomP at hn ⊢; (try simp only [List.length_append, List.length_cons, List.length_nil, lng_len]); omega)).x ?_
        rintro v Z1 V1 ⟨rfl, hV1, hS'⟩
        have hSZ1 := hSZ.trans hS'
        have oZ1 := oZ.trans hS'.old
        have gkZ1 := oZ1 _ _ hnp gk8
        have e : ys ++ (d.comps.take i).flatMap coO ++ [u8 l.length] ++ (l.take (j + 1)).flatMap lyO = ys ++ (d.comps.take i).flatMap coO ++ [u8 l.length] ++ (l.take j).flatMap lyO ++ [u8 y.kind] ++ [u8 (IntKind.i64.wrap (y.parent + 1))] ++ [u8 y.comp] ++ [u8 y.matte] ++ lng y.in_ ++ lng y.out ++ lng y.start ++ y.keys.flatMap keysO ++ pathO y.mask ++ lyO0 y := by
          rw [take_snoc hy, List.flatMap_append, List.flatMap_singleton]; simp [lyO, lyO0, Ly.keys]
        by_cases h0 : y.kind = 0
        · have hl0 : lyO0 y = shO y.shape := by unfold lyO0; rw [if_pos h0]
          rw [hl0] at e hly
          simp only [go_sem, Nat.reduceEqDiff, Nat.reduceAdd, Nat.reduceSub, Nat.reduceMul, Nat.reduceLT, Nat.reduceLeDiff, Int.reducePow, Int.reduceBEq, Int.reduceBNe, Int.reduceDiv, Int.reduceMod, Int.reduceEq, Int.reduceLT, Int.reduceLE, Int.reduceAdd, Int.reduceSub, Int.reduceMul, Int.reduceNeg, Int.reduceToNat, Int.reduceTDiv, Int.reduceTMod, ↓reduceIte, s1, s5, s34, s35, s36, s47, s48, s49, s7, gkZ1, h0, beq_self_eq_true, kd, kd0, fl hV1]
          refine (rwshape_ y.shape _ _ _ _ _ _ _ _ _ _ _ _ hSZ1.ink (fun J o => (hV J ((oA8.trans oZ1).trans o)).2) (by unfold roomP at hn ⊢; (try simp only [List.length_append, List.length_cons, List.length_nil, lng_len]); omega)).x ?_
          rintro v Z2 V2 ⟨rfl, hV2, hS'⟩
          have hSZ2 := hSZ1.trans hS'
          have oZ2 := oZ1.trans hS'.old
          (refine sg (et s1 (et s5 (et s34 (et s35 (et s36 (et s47 (et s48 (et s49 (et s7 (et kd (et kd0 (et (fl hV1) (et (fl hV2) w2))))))))))))) ?_; try exact ⟨⟩)
          refine ⟨r2 - 1, by omega, j + 1, by omega, ?_, (o3.trans oA8).trans oZ2, hve4.symm, rfl⟩
          rw [e]; exact hSZ2
        · have hl0 : lyO0 y = [] := by unfold lyO0; rw [if_neg h0]
          rw [hl0, List.append_nil] at e
          (refine sg (et s1 (et s5 (et s34 (et s35 (et s36 (et s47 (et s48 (et s49 (et s7 (et gkZ1 (et (bf h0) (et kd (et kd0 (et (fl hV1) w2)))))))))))))) ?_; try exact ⟨⟩)
          refine ⟨r2 - 1, by omega, j + 1, by omega, ?_, (o3.trans oA8).trans oZ1, hve4.symm, rfl⟩
          rw [e]; exact hSZ1
    · have hjl : j = l.length := by omega
      rw [show l.take j = l by rw [hjl, List.take_length]] at hS
      (refine sg (et s1 (et s5 (et s34 (et s35 (et s36 (et s47 (et s48 (et s49 (et (df (show ¬ (j : Int) < (l.length : Int) by omega)) w1))))))))) ?_; try exact ⟨⟩)
      refine ⟨r - 1, by omega, i + 1, by omega, ?_, hve2.symm, rfl⟩
      rw [take_snoc hx, List.flatMap_append, List.flatMap_singleton, ← List.append_assoc, show coO l = [u8 l.length] ++ l.flatMap lyO from rfl, ← List.append_assoc]
      exact hS
  · have hi : i = d.comps.length := by omega
    rw [show d.comps.take i = d.comps by rw [hi, List.take_length], show ys ++ d.comps.flatMap coO = bodyO d by rw [hys]; simp [bodyO]] at hS
    obtain ⟨hne, g, gp, gb⟩ := hS.ink
    have hbd : (bodyO d).length ≤ 9223372036854775807 := by unfold roomP at hn; omega
    (refine sg (et t1 (et t5 (et t34 (et t35 (et t36 (et (df (show ¬ (i : Int) < (d.comps.length : Int) by omega)) gp)))))) ?_; try exact ⟨⟩)
    refine (rwsum_ (bodyO d) _ K (ink_bys gb hbd)).x ?_
    obtain ⟨n0, n1⟩ := sumE_lt (bodyO d)
    have hdO : docO d = bodyO d ++ sum4 (sumE (bodyO d)) := rfl
    generalize sumE (bodyO d) = n at *
    have e1 : IntKind.u8.wrap (n / 16777216) = u8 (n / 16777216) := rfl
    have hbc : (bodyO d).length * 1 = (byC (bodyO d)).length := by rw [byC_len, Nat.mul_one]
    have r2 : (bodyO d).length + 4 - 140737488355328 = 0 := by unfold roomP at hn; omega
    have r1 : ((bodyO d).length + 4) * 1 - 140737488355328 = 0 := by rw [Nat.mul_one]; exact r2
    (refine sg (et t1 (et t5 (et kd (et kd0 (et gp (et (old_get gp) (et gb (et (old_get gb) (et (old_set gb) (et hget_app0 (et hbc (et r1 r2)))))))))))) ?_; try exact ⟨⟩)
    have hdl : (docO d).length = (bodyO d).length + 4 := by rw [hdO]; unfold sum4; rw [List.length_append]; rfl
    refine ⟨⟨_, by rw [hdl]⟩, fun J hJ => ?_⟩
    show Bys J (sl (H.length + 1) 0 (g + 1) ((bodyO d).length + 4) 1) (docO d)
    rw [← hdl]
    refine ink_bys (g := g + 1) (hJ (H.length + 1) _ (by omega) ?_) (by unfold roomP at hn; omega)
    rw [hdO, ← byC_app]
    exact old_sget gb _ _
end Go.Proofs.YtlcdbangmbdlcaaGreat
/- Writing: bytes as strings. -/
namespace Go.Proofs.YtlcdbangmbdlcaaGreat
open Go Go.RowKit E
attribute [local irreducible] XRun XOps XCode XCal XLoop XQ SemCall
set_option linter.unusedSimpArgs false
set_option linter.unusedVariables false
theorem by_flat : ∀ {cs : List (List Value)} {l : List Int}, cs.length = l.length → (∀ (i : Nat) x, l[i]? = some x → ∃ c, cs[i]? = some c ∧ c.length = 1 ∧ c = [.int .u8 x]) → cs.flatten = byC l
  | [], [], _, _ => rfl
  | [], x :: l, h, _ => by simp at h
  | c :: cs, [], h, _ => by simp at h
  | c :: cs, x :: l, h, hx => by
    obtain ⟨c', e1, _, rfl⟩ := hx 0 x rfl
    have e1 : c = [.int .u8 x] := by simpa using e1
    subst e1
    have := by_flat (cs := cs) (l := l) (by simpa using h) (fun i y hy => hx (i + 1) y (by simpa using hy))
    rw [List.flatten_cons, this]; rfl
theorem u8s_by : ∀ l : List Int, u8s (byC l) = some l
  | [] => rfl
  | x :: l => by
    have : byC (x :: l) = .int .u8 x :: byC l := rfl
    rw [this]; unfold u8s; rw [u8s_by l]; rfl
theorem asrc_bys {H : AH} {v : Value} {l : List Int} (h : Bys H v l) : ∃ bs, asrc H 1 v = some (byC l, l.length, bs) := by
  rcases h with ⟨rfl, ⟨e, rfl⟩ | rfl⟩ | ⟨b, g, rest, rw_, cs, rfl, h2, h3, h4, h5⟩
  · exact ⟨_, rfl⟩
  · exact ⟨_, rfl⟩
  · have hf := by_flat h3 h5
    rw [hf] at h2
    show ∃ bs, asrc H 1 (.slice (some ⟨b, 0, some g⟩) l.length 1) = _
    rw [asrc_sl, h2]
    by_cases hn : l.length = 0
    · cases l with
      | nil => exact ⟨_, asy_zero⟩
      | cons x l => simp at hn
    · refine ⟨[b], ?_⟩
      rw [asy_some (eq_false hn) (by rw [List.length_append, byC_len]; omega), List.drop_zero, Nat.mul_one]
      rw [← byC_len l, List.take_left]
theorem bstr_ok {P : Program} {H : AH} {s d e : TypeId} {v : Value} {l : List Int} (h1 : tslice P s = some e) (h2 : tkind P e = some .u8) (h3 : tstr P d = true) (h : Bys H v l) : ∃ bs, ∀ {R : KV}, Kt P H s d v (aconv P s d v) = R.go (.string (strOfNums l)) H ⟨[], some bs⟩ := by
  obtain ⟨bs, hb⟩ := asrc_bys h
  obtain ⟨a, z, rfl⟩ := h.form
  exact ⟨bs, kt_bstr rfl rfl (by simp only [abstr, h1, h2, h3, and_self, if_true, hb, u8s_by, Option.map])⟩
theorem eql_str {P : Program} {t : TypeId} {a b : ByteArray} : abin P .eql t (.string a) (.string b) = some (.bool (a.toList == b.toList)) := rfl
theorem str_refl (a : ByteArray) : (a.toList == a.toList) = true := beq_self_eq_true _
theorem Bys.take {K : AH} {a : Option Addr} {z : Nat} {l : List Int} (h : Bys K (.slice a l.length z) l) {n : Nat} (h0 : 0 < n) (hn : n ≤ l.length) : ∃ b g, Value.slice a l.length z = sl b 0 g l.length 1 ∧ Bys K (sl b 0 g n 1) (l.take n) := by
  have htl : (l.take n).length = n := by rw [List.length_take]; omega
  rcases h with ⟨rfl, _⟩ | ⟨b, g, rest, rw_, cs, h1, h2, h3, h4, h5⟩
  · simp at hn; omega
  · refine ⟨b, g, h1, .inr ⟨b, g, (cs.drop n).flatten ++ rest, rw_, cs.take n, by rw [htl], ?_, by rw [List.length_take, List.length_take, h3], by rw [htl]; omega, fun i x hx => ?_⟩⟩
    · rw [← List.append_assoc, ← List.flatten_append, List.take_append_drop]; exact h2
    · have hi := (List.getElem?_eq_some_iff.1 hx).1
      rw [htl] at hi
      rw [List.getElem?_take_of_lt hi] at hx ⊢
      exact h5 i x hx
end Go.Proofs.YtlcdbangmbdlcaaGreat
/- Writing: how long a document's bytes are. -/
namespace Go.Proofs.YtlcdbangmbdlcaaGreat
open Go Go.RowKit E
attribute [local irreducible] XRun XOps XCode XCal XLoop XQ SemCall
set_option linter.unusedSimpArgs false
set_option linter.unusedVariables false
theorem fm_len {α : Type} {f : α → List Int} {c : Nat} : ∀ {l : List α} {n : Nat}, (∀ x ∈ l, (f x).length ≤ c) → l.length ≤ n → (l.flatMap f).length ≤ n * c
  | [], n, _, _ => by simp
  | x :: l, n, h, hl => by
    obtain ⟨m, rfl⟩ : ∃ m, n = m + 1 := ⟨n - 1, by simp at hl; omega⟩
    have h1 := fm_len (f := f) (l := l) (n := m) (fun y hy => h y (List.mem_cons_of_mem _ hy)) (by simp at hl; omega)
    have h2 := h x (List.mem_cons_self ..)
    rw [List.flatMap_cons, List.length_append, Nat.add_mul, Nat.one_mul]; omega
theorem ease_le (n : Int) (e : Ez) : (easeO n e).length ≤ 33 := by
  unfold easeO
  split <;> simp [lng_len]
theorem key_le (k : Ky) : (keyO k).length ≤ 49 := by
  have := ease_le k.how k.e
  unfold keyO; simp only [List.length_append, lng_len]; omega
theorem keys_le {l : List Ky} (h : l.length ≤ 1000) : (keysO l).length ≤ 49001 := by
  have := fm_len (f := keyO) (c := 49) (fun x _ => key_le x) h
  unfold keysO; rw [List.length_cons]; omega
theorem path_le {q : PL} (h : q.2.length ≤ 1000) : (pathO q).length ≤ 16002 := by
  have := fm_len (f := ptO) (c := 16) (l := q.2) (fun x _ => by rw [pt_len]; omega) h
  unfold pathO yesO; rw [List.length_append, List.length_singleton, List.length_cons]; omega
theorem ly_le {l : Ly} (h : LyS l) : (lyO l).length ≤ 17000000 := by
  have a0 := keys_le h.x
  have a1 := keys_le h.y
  have a2 := keys_le h.ax
  have a3 := keys_le h.ay
  have a4 := keys_le h.sx
  have a5 := keys_le h.sy
  have a6 := keys_le h.turn
  have a7 := keys_le h.opac
  have a8 := keys_le h.remap
  have a9 := path_le h.mask
  have b0 := keys_le h.w
  have b1 := keys_le h.h
  have b2 := keys_le h.width
  have b3 := keys_le h.frm
  have b4 := keys_le h.to
  have c0 := fm_len (f := pkO) (c := 16043) (fun x hx => by have := path_le (h.pts x hx); have := ease_le x.how x.e; rw [pk_len]; omega) h.paths
  have c1 := fm_len (f := ckO) (c := 45) (l := l.shape.colors) (fun x hx => by have := ease_le x.how x.e; rw [ck_len]; omega) h.colors
  have c2 := fm_len (f := lng) (c := 8) (l := l.shape.dash) (fun x hx => by rw [lng_len]; omega) h.dash
  have hs := sh_len l.shape
  have e : (lyO l).length ≤ 4 + 24 + (keysO l.x).length + (keysO l.y).length + (keysO l.ax).length + (keysO l.ay).length + (keysO l.sx).length + (keysO l.sy).length + (keysO l.turn).length + (keysO l.opac).length + (keysO l.remap).length + (pathO l.mask).length + (shO l.shape).length := by
    unfold lyO
    split <;> simp only [List.length_append, List.length_cons, List.length_nil, lng_len] <;> omega
  omega
theorem body_le {d : Dc} (h : DcS d) : (bodyO d).length ≤ 17000001000021 := by
  have := fm_len (f := coO) (c := 17000000001) (fun c hc => by
    obtain ⟨h1, h2⟩ := h.c c hc
    have := fm_len (f := lyO) (c := 17000000) (fun l hl => ly_le (h2 l hl)) h1
    unfold coO; rw [List.length_cons]; omega) h.n
  unfold bodyO
  simp only [List.length_append, List.length_cons, List.length_nil, lng_len]
  omega
theorem body_room {d : Dc} (h : DcS d) : roomP ((bodyO d).length + 128) := by
  have := body_le h
  unfold roomP; omega
end Go.Proofs.YtlcdbangmbdlcaaGreat
/- Documents: the walks of Odd, of same. -/
namespace Go.Proofs.YtlcdbangmbdlcaaGreat
open Go Go.RowKit E
attribute [local irreducible] XRun XOps XCode XCal XLoop XQ SemCall
set_option linter.unusedSimpArgs false
set_option linter.unusedVariables false
structure Tn where
  what : Int
  comp : Int
  lay : Int
  n : Int
abbrev tnC (t : Tn) : List Value := [.int .i64 t.what, .int .i64 t.comp, .int .i64 t.lay, .int .i64 t.n]
def TnE (_ : AH) (c : List Value) (t : Tn) : Prop := c = tnC t
abbrev Tns (K : AH) (v : Value) (l : List Tn) : Prop := RowOf 4 TnE K v l
theorem DcN.four {i : Nat} {d : Dc} (h : DcN i d) (hi : i ≤ 4) : DcN 4 d := by
  have : i = 0 ∨ i = 1 ∨ i = 2 ∨ i = 3 ∨ i = 4 := by omega
  rcases this with rfl | rfl | rfl | rfl | rfl
  · exact h.up.up.up.up
  · exact h.up.up.up
  · exact h.up.up
  · exact h.up
  · exact h
set_option maxHeartbeats 8000000 in
theorem Odd_ (d : Dc) (cv tv : Value) (ts : List Tn) (p0 : Nat → Prop) (H : AH) (h : ∀ J, OlP p0 H J → Cos J cv d.comps) (hN : DcN 0 d) (ht : Tns H tv ts) :
    Cal Tryz.prog 11 [dcV d cv, tv] H fun v' H' W => W = [] ∧ (∃ L, H' = H ++ L) ∧ ∃ d' cw, v' = dcV d' cw ∧ (∀ J, OlP p0 H J → (∀ (c : Nat) (k : Blk), H.length ≤ c → H'[c]? = some k → J[c]? = some k) → Cos J cw d'.comps) ∧ DcN 4 d' := by
  refine adds_of ?_
  have kd : ∀ n, decide (H.length + n < H.length) = false := fun n => df (by omega)
  have kd0 : decide (H.length < H.length) = false := df (by omega)
  have htl := ht.len
  obtain ⟨ta, te, htf⟩ := ht.form
  subst htf
  obtain ⟨p, hp⟩ : ∃ p : Nat → Prop, p = fun c => (p0 c ∧ c < H.length) ∨ c = H.length ∨ c = H.length + 1 := ⟨_, rfl⟩
  have hpn : ∀ c, (c < H.length ∧ ¬ p0 c) ∨ H.length + 2 ≤ c → ¬ p c := fun c hc hh => by
    rw [hp] at hh
    rcases hh with ⟨h1, h2⟩ | hh | hh
    · rcases hc with hc | hc
      · exact hc.2 h1
      · omega
    · omega
    · omega
  have hpy : ∀ c, ¬ p c → c ≠ H.length ∧ c ≠ H.length + 1 := fun c hc => ⟨fun e => hc (by rw [hp]; exact .inr (.inl e)), fun e => hc (by rw [hp]; exact .inr (.inr e))⟩
  refine XCal.of hm Tryz.func11 rfl (fun xs w => Tryz.call11 xs w) Tryz.ntmps11 Tryz.results11 rfl ?_
  (refine sg (et kd kd0) ?_; try exact ⟨⟩)
  refine keep (fun r T K D => D = [] ∧ ∃ (i : Nat) (d' : Dc) (cw : Value), i + r = 4 ∧ Old H K ∧ H.length + 2 ≤ K.length ∧ K[H.length]? = some ⟨[.int .i64 d'.in_, .int .i64 d'.out, cw], 0, true⟩ ∧ K[H.length + 1]? = some ⟨[.int .i64 0, .int .i64 0, .slice none 0 0], 0, true⟩ ∧ (∀ J, OlP p K J → Cos J cw d'.comps) ∧ DcN i d' ∧ T 1 = .slice ta ts.length te ∧ T 2 = ap H.length 0 0 ∧ T 4 = ap (H.length + 1) 0 0 ∧ T 5 = .int .i64 (i : Int)) 4
    ⟨rfl, 0, d, cv, by omega, Old.app' _ _, by simp, by rw [hget_app0]; rfl, by rw [hget_app]; rfl, fun J oJ => h J (fun c k hc e => oJ c k (hpn c (.inl ⟨(List.getElem?_eq_some_iff.1 e).1, hc⟩)) (old_get e _)), hN, by (refine sg trivial ?_; try exact ⟨⟩), by (refine sg trivial ?_; try exact ⟨⟩), by (refine sg trivial ?_; try exact ⟨⟩), by (refine sg trivial ?_; try exact ⟨⟩) <;> rfl⟩ ?_
  rintro r T K D ⟨rfl, i, d', cw, hir, o, hKl, g0, g1, hC, hD, t1, t2, t4, t5⟩
  have kdK : ∀ n, decide (K.length + n < H.length) = false := fun n => df (by omega)
  have kdK0 : decide (K.length < H.length) = false := df (by omega)
  by_cases hi : i < ts.length ∧ i < 4
  · obtain ⟨hi1, hi4⟩ := hi
    obtain ⟨t, hx⟩ : ∃ t, ts[i]? = some t := ⟨_, List.getElem?_eq_getElem hi1⟩
    obtain ⟨b, g, cells, rw_, c, hve, hb, hc, hcl, hle, hld, hgt⟩ := ht.at hx
    have hc : c = tnC t := hc
    subst hc
    have kb := o _ _ hb
    rw [hve] at t1
    have q0 : (0 : Int) ≤ (i : Int) := by omega
    have q1 : (i : Int) < (ts.length : Int) := by omega
    have q2 : (i : Int) < 4 := by omega
    have w1 : IntKind.i64.wrap ((i : Int) + 1) = ((i + 1 : Nat) : Int) := by rw [wi (by omega) (by omega)]; rfl
    (refine sg (et t1 (et t2 (et t4 (et t5 (et (dt q1) (dt q2)))))) ?_; try exact ⟨⟩)
    first | refine drawnF ?_ (by decide +kernel) | refine drawnU [] (by decide +kernel) ?_
    (refine sg (et t1 (et t2 (et t4 (et t5 (et q0 (et q1 (et Int.toNat_natCast (et Nat.zero_add (et g0 (et kb hld)))))))))) ?_; try exact ⟨⟩)
    refine (odd_ i (by omega) d' cw t.what t.comp t.lay t.n p K hC hD).x ?_
    rintro v H1 W1 ⟨rfl, ⟨L, rfl⟩, d2, cw2, rfl, hC2, hD2⟩
    have gK := old_get g0 L
    have hlt : H.length < (K ++ L).length := by rw [List.length_append]; omega
    have hO2 : ∀ X, Old H ((K ++ L).set H.length X) := fun X c k e => by
      have := (List.getElem?_eq_some_iff.1 e).1
      exact Olx.set0 _ _ _ c k (by omega) (old_get (o _ _ e) L)
    obtain ⟨wa, we, hwf⟩ := (hC2 (K ++ L) (OlP.old (Old.app' K L)) (fun c k _ e => e)).form
    subst hwf
    (refine sg (et t1 (et t2 (et t4 (et t5 (et gK (et kd0 w1)))))) ?_; try exact ⟨⟩)
    refine ⟨r - 1, by omega, i + 1, d2, _, by omega, hO2 _, by omega, List.getElem?_set_self hlt, Olx.set0 _ _ _ _ _ (by omega) (old_get g1 L), fun J oJ => ?_, hD2, hve.symm, rfl⟩
    refine hC2 J (fun c k hc e => oJ c k hc (Olx.set0 _ _ _ _ _ (hpy c hc).1 (old_get e L))) fun c k hc e => oJ c k (hpn c (.inr (by omega))) (Olx.set0 _ _ _ _ _ (by omega) e)
  · have fin : ∀ X J, OlP p0 H J → (∀ (c : Nat) (k : Blk), H.length ≤ c → (K.set (H.length + 1) X)[c]? = some k → J[c]? = some k) → Cos J cw d'.comps := fun X J oJ hJ => hC J fun c k hc e => by
      by_cases hcl : c < H.length
      · obtain ⟨k', hk'⟩ : ∃ k', H[c]? = some k' := ⟨_, List.getElem?_eq_getElem hcl⟩
        have := o c k' hk'
        rw [e] at this; cases this
        exact oJ c k (fun hh => hc (by rw [hp]; exact .inl ⟨hh, hcl⟩)) hk'
      · exact hJ c k (by omega) (by rw [List.getElem?_set_ne (fun h => (hpy c hc).2 h.symm)]; exact e)
    have hD4 := hD.four (by omega)
    have g9 : ∀ X, (K.set (H.length + 1) X)[H.length + 1]? = some X := fun X => List.getElem?_set_self (by omega)
    have kd1 : decide (H.length + 1 < H.length) = false := df (by omega)
    by_cases h1 : i < ts.length
    · (refine sg (et t1 (et t2 (et t4 (et t5 (et (dt (show (i : Int) < (ts.length : Int) by omega)) (et (df (show ¬ (i : Int) < 4 by omega)) (et g0 (et g1 (et g9 kd1))))))))) ?_; try exact ⟨⟩)
      exact ⟨d', cw, rfl, fin _, hD4⟩
    · (refine sg (et t1 (et t2 (et t4 (et t5 (et (df (show ¬ (i : Int) < (ts.length : Int) by omega)) (et g0 (et g1 (et g9 kd1)))))))) ?_; try exact ⟨⟩)
      exact ⟨d', cw, rfl, fin _, hD4⟩
end Go.Proofs.YtlcdbangmbdlcaaGreat
/- Documents: the walk of the tapes of DocNumbers. -/
namespace Go.Proofs.YtlcdbangmbdlcaaGreat
open Go Go.RowKit E
attribute [local irreducible] XRun XOps XCode XCal XLoop XQ SemCall
set_option linter.unusedSimpArgs false
set_option linter.unusedVariables false
/-- A row of numbers that is being made. -/
def MkInts (n0 : Nat) (K : AH) (v : Value) (ls : List Int) : Prop :=
  (ls = [] ∧ v = .slice none 0 0) ∨ ∃ b g, n0 ≤ b ∧ v = sl b 0 g ls.length 1 ∧ K[b]? = some ⟨intC ls, g, true⟩
theorem intC_len (l : List Int) : (intC l).length = l.length := List.length_map ..
theorem intC_snoc (l : List Int) (x : Int) : intC l ++ [.int .i64 x] = intC (l ++ [x]) := by simp [intC]
def tapx (k i : Int) : Int := (IntKind.i64.wrap (IntKind.i64.wrap (IntKind.i64.wrap (IntKind.i64.wrap (i * i) * 7) + IntKind.i64.wrap (k * 23)) + IntKind.i64.wrap (i * k))).tmod 211
end Go.Proofs.YtlcdbangmbdlcaaGreat
/- Writing: the walks of the document's answer's Write, of same, of a tape. -/
namespace Go.Proofs.YtlcdbangmbdlcaaGreat
open Go Go.RowKit E
attribute [local irreducible] XRun XOps XCode XCal XLoop XQ SemCall
set_option linter.unusedSimpArgs false
set_option linter.unusedVariables false
set_option maxHeartbeats 4000000 in
theorem rwrite_ (d : Dc) (cv : Value) (H : AH) (h : Cos H cv d.comps) (hM : DcM d) (hn : roomP ((bodyO d).length + 128)) :
    Cal Tryz.prog 13 [dcV d cv] H fun v' H' W => W = [] ∧ (∃ L, H' = H ++ L) ∧ ((¬ rightE d = 0 ∧ v' = .tuple #[nl, .int .i64 (rightE d)]) ∨ (rightE d = 0 ∧ (((1048576 : Int) < (docO d).length ∧ v' = .tuple #[nl, .int .i64 3]) ∨ (¬ (1048576 : Int) < (docO d).length ∧ ∃ bv, v' = .tuple #[bv, .int .i64 0] ∧ Dep H.length H' (fun J => Bys J bv (docO d)))))) := by
  refine adds_of ?_
  have kd : ∀ n, decide (H.length + n < H.length) = false := fun n => df (by omega)
  have kd0 : decide (H.length < H.length) = false := df (by omega)
  have hln := h.len
  obtain ⟨ca, ce, hcf⟩ := h.form
  subst hcf
  refine XCal.of hm Tryz.func13 rfl (fun xs w => Tryz.call13 xs w) Tryz.ntmps13 Tryz.results13 rfl ?_
  (refine sg (et kd kd0) ?_; try exact ⟨⟩)
  have c1 := fun L => rright18_ d _ (H ++ L) (h.old CoE.m (Old.app' _ L)) hM
  refine (c1 _).x ?_
  by_cases h0 : rightE d = 0
  · (refine sg (et kd (et kd0 (nt h0))) ?_; try exact ⟨⟩)
    have g0 : (H ++ [(⟨[.int .i64 d.in_, .int .i64 d.out, .slice ca d.comps.length ce], 0, true⟩ : Blk)])[H.length]? = some ⟨[.int .i64 d.in_, .int .i64 d.out, .slice ca d.comps.length ce], 0, true⟩ := by rw [hget_app0]; rfl
    refine (rwbytes_ d _ _ (h.old CoE.m (Old.app' _ _)) hn).x ?_
    rintro v K W ⟨rfl, ⟨L, rfl⟩, ⟨g, rfl⟩, hB⟩
    have hB' := hB.low (n1 := H.length) (by rw [List.length_append]; omega)
    simp only [List.length_append, List.length_cons, List.length_nil, Nat.zero_add] at hB'
    by_cases hbig : (1048576 : Int) < (docO d).length
    · (refine sg (et kd (et kd0 (et (dt hbig) (show ((docO d).length : Int) > 1048576 from hbig)))) ?_; try exact ⟨⟩)
      exact .inr ⟨h0, .inl trivial⟩
    · (refine sg (et kd (et kd0 (df hbig))) ?_; try exact ⟨⟩)
      exact .inr ⟨h0, .inr ⟨hbig, _, rfl, hB'⟩⟩
  · (refine sg (et kd (et kd0 (nf h0))) ?_; try exact ⟨⟩)
    exact .inl h0
set_option maxRecDepth 100000 in
set_option maxHeartbeats 4000000 in
theorem same19_ (d : Dc) (cv : Value) (H : AH) (h : Cos H cv d.comps) (hz : DcS d) : SemCall Tryz.prog 5 [dcV d cv] H (.bool true) H [] := by
  refine pure_of ?_ rfl
  have kd : ∀ n, decide (H.length + n < H.length) = false := fun n => df (by omega)
  have kd0 : decide (H.length < H.length) = false := df (by omega)
  have hn := body_room hz
  have hln := h.len
  obtain ⟨ca, ce, hcf⟩ := h.form
  subst hcf
  refine XCal.of hm Tryz.func5 rfl (fun xs w => Tryz.call5 xs w) Tryz.ntmps5 Tryz.results5 rfl ?_
  (refine sg (et kd kd0) ?_; try exact ⟨⟩)
  refine (wdoc_ d _ _ (h.old CoE.m (Old.app' _ _)) hn).x ?_
  rintro v K W ⟨rfl, ⟨L, rfl⟩, hw⟩
  have h' := h.old CoE.m (Old.app' H ([(⟨[.int .i64 d.in_, .int .i64 d.out, .slice ca d.comps.length ce], 0, true⟩ : Blk)] ++ L))
  have g0 : (H ++ [(⟨[.int .i64 d.in_, .int .i64 d.out, .slice ca d.comps.length ce], 0, true⟩ : Blk)] ++ L)[H.length]? = some ⟨[.int .i64 d.in_, .int .i64 d.out, .slice ca d.comps.length ce], 0, true⟩ := old_get (by rw [hget_app0]; rfl) L
  have oB : Old H (H ++ [(⟨[.int .i64 d.in_, .int .i64 d.out, .slice ca d.comps.length ce], 0, true⟩ : Blk)] ++ L) := (Old.app' _ _).app _
  have lB : H.length ≤ (H ++ [(⟨[.int .i64 d.in_, .int .i64 d.out, .slice ca d.comps.length ce], 0, true⟩ : Blk)] ++ L).length := by simp
  have hw : ((¬ rightE d = 0 ∧ v = .tuple #[nl, .int .i64 (rightE d)]) ∨ (rightE d = 0 ∧ (((1048576 : Int) < (docO d).length ∧ v = .tuple #[nl, .int .i64 3]) ∨ (¬ (1048576 : Int) < (docO d).length ∧ ∃ bv, v = .tuple #[bv, .int .i64 0] ∧ ∀ X, Bys (H ++ [(⟨[.int .i64 d.in_, .int .i64 d.out, .slice ca d.comps.length ce], 0, true⟩ : Blk)] ++ L ++ X) bv (docO d))))) := by
    rcases hw with a | ⟨a, b | ⟨b, bv, c, e⟩⟩
    · exact .inl a
    · exact .inr ⟨a, .inl b⟩
    · exact .inr ⟨a, .inr ⟨b, bv, c, fun X => e _ fun c k _ e => old_get e X⟩⟩
  have hC := h.old CoE.m oB
  generalize H ++ [(⟨[.int .i64 d.in_, .int .i64 d.out, .slice ca d.comps.length ce], 0, true⟩ : Blk)] ++ L = K at *
  have kdL : ∀ n, decide (K.length + n < H.length) = false := fun n => df (by omega)
  have kdL0 : decide (K.length < H.length) = false := df (by omega)
  have hr := rwrite_ d _ K hC hz.m hn
  rcases hw with ⟨h0, rfl⟩ | ⟨h0, ⟨hb, rfl⟩ | ⟨hb, bv, rfl, hB⟩⟩
  · (refine sg (et g0 (et kdL kdL0)) ?_; try exact ⟨⟩)
    refine hr.x ?_
    rintro v K W ⟨rfl, ⟨L', rfl⟩, hw⟩
    rcases hw with ⟨h0', rfl⟩ | ⟨h0', hw⟩
    · (refine sg (et kdL kdL0) ?_; try exact ⟨⟩)
      obtain ⟨bs, hk⟩ := bstr_ok (P := Tryz.prog) (H := K ++ L') (s := 29) (e := 5) (d := 9) (by kernel_rfl) (by kernel_rfl) (by kernel_rfl) (l := []) RowOf.none
      simp only [go_sem, Nat.reduceEqDiff, Nat.reduceAdd, Nat.reduceSub, Nat.reduceMul, Nat.reduceLT, Nat.reduceLeDiff, Int.reducePow, Int.reduceBEq, Int.reduceBNe, Int.reduceDiv, Int.reduceMod, Int.reduceEq, Int.reduceLT, Int.reduceLE, Int.reduceAdd, Int.reduceSub, Int.reduceMul, Int.reduceNeg, Int.reduceToNat, Int.reduceTDiv, Int.reduceTMod, ↓reduceIte, hk, eql_str, str_refl, beq_self_eq_true]
    · exact absurd h0' h0
  · (refine sg (et g0 (et kdL kdL0)) ?_; try exact ⟨⟩)
    refine hr.x ?_
    rintro v K W ⟨rfl, ⟨L', rfl⟩, hw⟩
    rcases hw with ⟨h0', rfl⟩ | ⟨h0', ⟨hb', rfl⟩ | ⟨hb', bv, rfl, hB⟩⟩
    · exact absurd h0 h0'
    · (refine sg (et kdL kdL0) ?_; try exact ⟨⟩)
      obtain ⟨bs, hk⟩ := bstr_ok (P := Tryz.prog) (H := K ++ L') (s := 29) (e := 5) (d := 9) (by kernel_rfl) (by kernel_rfl) (by kernel_rfl) (l := []) RowOf.none
      simp only [go_sem, Nat.reduceEqDiff, Nat.reduceAdd, Nat.reduceSub, Nat.reduceMul, Nat.reduceLT, Nat.reduceLeDiff, Int.reducePow, Int.reduceBEq, Int.reduceBNe, Int.reduceDiv, Int.reduceMod, Int.reduceEq, Int.reduceLT, Int.reduceLE, Int.reduceAdd, Int.reduceSub, Int.reduceMul, Int.reduceNeg, Int.reduceToNat, Int.reduceTDiv, Int.reduceTMod, ↓reduceIte, hk, eql_str, str_refl, beq_self_eq_true]
    · exact absurd hb hb'
  · (refine sg (et g0 (et kdL kdL0)) ?_; try exact ⟨⟩)
    refine hr.x ?_
    rintro v K W ⟨rfl, ⟨L', rfl⟩, hw⟩
    rcases hw with ⟨h0', rfl⟩ | ⟨h0', ⟨hb', rfl⟩ | ⟨hb', bv', rfl, hB'⟩⟩
    · exact absurd h0 h0'
    · exact absurd hb' hb
    · (refine sg (et kdL kdL0) ?_; try exact ⟨⟩)
      obtain ⟨bs, hk⟩ := bstr_ok (P := Tryz.prog) (H := K ++ L') (s := 29) (e := 5) (d := 9) (by kernel_rfl) (by kernel_rfl) (by kernel_rfl) (hB L')
      obtain ⟨bs', hk'⟩ := bstr_ok (P := Tryz.prog) (H := K ++ L') (s := 29) (e := 5) (d := 9) (by kernel_rfl) (by kernel_rfl) (by kernel_rfl) hB'.here
      simp only [go_sem, Nat.reduceEqDiff, Nat.reduceAdd, Nat.reduceSub, Nat.reduceMul, Nat.reduceLT, Nat.reduceLeDiff, Int.reducePow, Int.reduceBEq, Int.reduceBNe, Int.reduceDiv, Int.reduceMod, Int.reduceEq, Int.reduceLT, Int.reduceLE, Int.reduceAdd, Int.reduceSub, Int.reduceMul, Int.reduceNeg, Int.reduceToNat, Int.reduceTDiv, Int.reduceTMod, ↓reduceIte, hk, hk', eql_str, str_refl, beq_self_eq_true]
def tapx19 (k i : Int) : Int := (IntKind.i64.wrap (IntKind.i64.wrap (IntKind.i64.wrap (IntKind.i64.wrap (i * i) * 7) + IntKind.i64.wrap (k * 29)) + IntKind.i64.wrap (i * k))).tmod 211
set_option maxHeartbeats 4000000 in
theorem tape19_ (k : Int) (H : AH) : Cal Tryz.prog 7 [.int .i64 k] H fun v H' W => W = [] ∧ (∃ L, H' = H ++ L) ∧ ∃ ls, Ints H' H'.length v ls := by
  refine adds_of ?_
  have kd : ∀ n, decide (H.length + n < H.length) = false := fun n => df (by omega)
  have kd0 : decide (H.length < H.length) = false := df (by omega)
  refine XCal.of hm Tryz.func7 rfl (fun xs w => Tryz.call7 xs w) Tryz.ntmps7 Tryz.results7 rfl ?_
  (refine sg (et kd kd0) ?_; try exact ⟨⟩)
  refine keep (fun r T K D => D = [] ∧ ∃ (i : Nat) (ls : List Int) (v : Value), i + r = 250 ∧ ls.length = i ∧ Old H K ∧ H.length ≤ K.length ∧ T 0 = .int .i64 k ∧ T 3 = v ∧ T 4 = .int .i64 (i : Int) ∧ MkInts H.length K v ls) 250
    ⟨rfl, 0, [], _, by omega, rfl, Old.refl H, by omega, by (refine sg trivial ?_; try exact ⟨⟩), by (refine sg trivial ?_; try exact ⟨⟩) <;> rfl, by (refine sg trivial ?_; try exact ⟨⟩) <;> rfl, .inl ⟨rfl, rfl⟩⟩ ?_
  rintro r T K D ⟨rfl, i, ls, v, hir, hl, o, hKl, t0, t3, t4, hM⟩
  have kdK : ∀ n, decide (K.length + n < H.length) = false := fun n => df (by omega)
  have kdK0 : decide (K.length < H.length) = false := df (by omega)
  by_cases hi : i < 250
  · have w1 : IntKind.i64.wrap ((i : Int) + 1) = ((i + 1 : Nat) : Int) := by rw [wi (by omega) (by omega)]; rfl
    rcases hM with ⟨rfl, rfl⟩ | ⟨b, g, hb, rfl, hk⟩
    · (refine sg (et t0 (et t3 (et t4 (et (dt (show (i : Int) < 250 by omega)) (et kdK (et kdK0 w1)))))) ?_; try exact ⟨⟩)
      exact ⟨r - 1, by omega, i + 1, [tapx19 k i], _, by omega, by simp at hl; simp [← hl], o.trans (Old.app' _ _), by omega, rfl, rfl, .inr ⟨_, _, by omega, rfl, by rw [hget_app]; rfl⟩⟩
    · have hbl := (List.getElem?_eq_some_iff.1 hk).1
      have hcl := intC_len ls
      have hsm : (ls.length + 1) * 8 - 140737488355328 = 0 := Nat.sub_eq_zero_of_le (Nat.le_trans (Nat.mul_le_mul_right 8 (show ls.length + 1 ≤ 250 by omega)) (by decide))
      have hsm2 : ls.length + 1 - 140737488355328 = 0 := Nat.sub_eq_zero_of_le (Nat.le_trans (show ls.length + 1 ≤ 250 by omega) (by decide))
      have db0 : decide (b < H.length) = false := df (by omega)
      have hmul : ls.length * 1 = (intC ls).length := by rw [hcl, Nat.mul_one]
      (refine sg (et t0 (et t3 (et t4 (et (dt (show (i : Int) < 250 by omega)) (et kdK (et kdK0 (et w1 (et (old_get hk) (et (old_set hk) (et hsm (et hsm2 (et db0 hmul)))))))))))) ?_; try exact ⟨⟩)
      refine ⟨r - 1, by omega, i + 1, ls ++ [tapx19 k i], _, by omega, by rw [List.length_append, hl]; rfl, fun c k' e => Olx.set1 _ _ _ _ c k' (by have := (List.getElem?_eq_some_iff.1 e).1; omega) (o c k' e), by omega, rfl, rfl, .inr ⟨b, g + 1, hb, by rw [List.length_append]; rfl, ?_⟩⟩
      rw [← intC_snoc]
      exact old_sget hk _ _
  · have hi : i = 250 := by omega
    simp only [go_sem, Nat.reduceEqDiff, Nat.reduceAdd, Nat.reduceSub, Nat.reduceMul, Nat.reduceLT, Nat.reduceLeDiff, Int.reducePow, Int.reduceBEq, Int.reduceBNe, Int.reduceDiv, Int.reduceMod, Int.reduceEq, Int.reduceLT, Int.reduceLE, Int.reduceAdd, Int.reduceSub, Int.reduceMul, Int.reduceNeg, Int.reduceToNat, Int.reduceTDiv, Int.reduceTMod, ↓reduceIte, t0, t3, t4, df (show ¬ (i : Int) < 250 by omega), kdK, kdK0]
    rcases hM with ⟨rfl, rfl⟩ | ⟨b, g, hb, rfl, hk⟩
    · exact ⟨[], .inl ⟨rfl, .inr rfl⟩⟩
    · have hbl := (List.getElem?_eq_some_iff.1 hk).1
      exact ⟨ls, .inr ⟨b, g, [], true, rfl, by omega, by rw [List.append_nil]; exact hk, by omega⟩⟩
end Go.Proofs.YtlcdbangmbdlcaaGreat
/- Writing: the walk of known. -/
namespace Go.Proofs.YtlcdbangmbdlcaaGreat
open Go Go.RowKit E
attribute [local irreducible] XRun XOps XCode XCal XLoop XQ SemCall
set_option linter.unusedSimpArgs false
set_option linter.unusedVariables false
set_option maxRecDepth 100000
set_option maxHeartbeats 4000000 in
theorem known19_ (H : AH) : SemCall Tryz.prog 10 [] H (.bool true) H [] := by
  refine pure_of ?_ rfl
  have kd : ∀ n, decide (H.length + n < H.length) = false := fun n => df (by omega)
  have kd0 : decide (H.length < H.length) = false := df (by omega)
  refine XCal.of hm Tryz.func10 rfl (fun xs w => Tryz.call10 xs w) Tryz.ntmps10 Tryz.results10 rfl ?_
  simp only [go_sem, Nat.reduceEqDiff, Nat.reduceAdd, Nat.reduceSub, Nat.reduceMul, Nat.reduceLT, Nat.reduceLeDiff, Int.reducePow, Int.reduceBEq, Int.reduceBNe, Int.reduceDiv, Int.reduceMod, Int.reduceEq, Int.reduceLT, Int.reduceLE, Int.reduceAdd, Int.reduceSub, Int.reduceMul, Int.reduceNeg, Int.reduceToNat, Int.reduceTDiv, Int.reduceTMod, ↓reduceIte, kd, kd0]
  refine (wdoc_ ⟨0, 0, []⟩ nl H RowOf.none (by unfold roomP; decide)).x ?_
  rintro v K W ⟨rfl, ⟨L, rfl⟩, hw⟩
  rw [dk1] at hw
  rcases hw with ⟨_, rfl⟩ | ⟨h0, _⟩
  case inr => exact absurd h0 (by decide)
  (refine sg (et kd kd0) ?_; try exact ⟨⟩)
  rw [← List.append_assoc]
  have e : H.length + L.length = (H ++ L).length := by rw [List.length_append]
  rw [e]
  generalize hB : H ++ L = B
  have lB : H.length ≤ B.length := by rw [← hB, List.length_append]; omega
  clear hB e
  refine (wdoc_ ⟨0, 1, [[]]⟩ _ _ (RowOf.one (c := [nl]) (by rw [hget_app0]; rfl) rfl ⟨_, rfl, RowOf.none⟩) (by unfold roomP; decide)).x ?_
  rintro v K W ⟨rfl, ⟨L2, rfl⟩, hw⟩
  rw [dk2] at hw
  rcases hw with ⟨h0, _⟩ | ⟨_, ⟨hb, _⟩ | ⟨_, bv, rfl, hB⟩⟩
  · exact absurd rfl h0
  · exact absurd hb (by decide)
  have kdB : ∀ n, decide (B.length + n < H.length) = false := fun n => df (by omega)
  have kdB0 : decide (B.length < H.length) = false := df (by omega)
  have hl26 : (docO ⟨0, 1, [[]]⟩).length = 26 := rfl
  have hB := hB.here
  have lV : B.length ≤ (B ++ [(⟨[nl], 0, true⟩ : Blk)] ++ L2).length := by rw [List.length_append, List.length_append]; omega
  generalize B ++ [(⟨[nl], 0, true⟩ : Blk)] ++ L2 = V at *
  have kdB : ∀ n, decide (V.length + n < H.length) = false := fun n => df (by omega)
  have kdB0 : decide (V.length < H.length) = false := df (by omega)
  have hln := hB.len
  obtain ⟨ba, be, hf⟩ := hB.form
  subst hf
  obtain ⟨bb, gg, e1, hB4⟩ := Bys.take (n := 4) hB (by omega) (by rw [hl26]; omega)
  rw [e1, hl26]
  have h4 : (docO ⟨0, 1, [[]]⟩).take 4 = [75, 86, 65, 49] := rfl
  rw [h4] at hB4
  (refine sg (et kdB kdB0) ?_; try exact ⟨⟩)
  have hsl : aslice Tryz.prog 29 (sl bb 0 gg 26 1) none (some (.int .i64 4)) none = some (sl bb 0 gg 4 1) := by
    simp only [go_sem, Nat.reduceEqDiff, Nat.reduceAdd, Nat.reduceSub, Nat.reduceMul, Nat.reduceLT, Nat.reduceLeDiff, Int.reducePow, Int.reduceBEq, Int.reduceBNe, Int.reduceDiv, Int.reduceMod, Int.reduceEq, Int.reduceLT, Int.reduceLE, Int.reduceAdd, Int.reduceSub, Int.reduceMul, Int.reduceNeg, Int.reduceToNat, Int.reduceTDiv, Int.reduceTMod, ↓reduceIte, aslice, abound, show (0 : Int) ≤ 4 by omega, true_and, and_self, and_true, Nat.zero_le, Nat.zero_mul, Nat.sub_zero, Nat.add_zero]
  obtain ⟨ss, hk⟩ := bstr_ok (P := Tryz.prog) (s := 29) (e := 5) (d := 9) (by kernel_rfl) (by kernel_rfl) (by kernel_rfl) hB4
  have hq : ((strOfNums [75, 86, 65, 49]).toList == (ByteArray.mk #[75, 86, 65, 49]).toList) = true := by decide +kernel
  simp only [go_sem, Nat.reduceEqDiff, Nat.reduceAdd, Nat.reduceSub, Nat.reduceMul, Nat.reduceLT, Nat.reduceLeDiff, Int.reducePow, Int.reduceBEq, Int.reduceBNe, Int.reduceDiv, Int.reduceMod, Int.reduceEq, Int.reduceLT, Int.reduceLE, Int.reduceAdd, Int.reduceSub, Int.reduceMul, Int.reduceNeg, Int.reduceToNat, Int.reduceTDiv, Int.reduceTMod, ↓reduceIte, kdB, kdB0, Option.map, hsl, hk, eql_str, hq]
  refine (wsum_ [] _ _ RowOf.none).x ?_
  rw [show sumE [] = 1 from rfl]
  have hmk := fun {R : KV} => mark_ok (P := Tryz.prog) (t := 29) (e := 5) (R := R) (H := V ++ [(⟨[.int .u8 97], 0, true⟩ : Blk)]) (b := V.length) (n := 1) (s := 1) (by kernel_rfl) (by kernel_rfl) (by kernel_rfl) (by rw [hget_app0]; rfl) (by decide)
  simp only [go_sem, Nat.reduceEqDiff, Nat.reduceAdd, Nat.reduceSub, Nat.reduceMul, Nat.reduceLT, Nat.reduceLeDiff, Int.reducePow, Int.reduceBEq, Int.reduceBNe, Int.reduceDiv, Int.reduceMod, Int.reduceEq, Int.reduceLT, Int.reduceLE, Int.reduceAdd, Int.reduceSub, Int.reduceMul, Int.reduceNeg, Int.reduceToNat, Int.reduceTDiv, Int.reduceTMod, ↓reduceIte, kdB, kdB0, hmk]
  refine (wsum_ [97] _ _ (ink_bys (xs := [97]) (g := 0) (by rw [hget_app0]; rfl) (by decide))).x ?_
  rw [show sumE [97] = 6422626 from rfl]
  (refine sg (et kdB kdB0) ?_; try exact ⟨⟩)
end Go.Proofs.YtlcdbangmbdlcaaGreat
