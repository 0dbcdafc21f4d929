/- Merged texts: Ink5 Ink6 Ink7 Ink8 Ink9 InkA RInk1 RInk2 RInk3. -/
import Derived.Test.YtlcdbangmbdlcaaGreatZF
/- Writing: the walk of path. -/
namespace Go.Proofs.YtlcdbangmbdlcaaGreat
open Go Go.RowKit E
attribute [local irreducible] XRun XOps XCode XCal XLoop XQ SemCall
set_option linter.unusedSimpArgs false
set_option linter.unusedVariables false
theorem pt_len (p : Pt) : (ptO p).length = 16 := by unfold ptO; rw [List.length_append, lng_len, lng_len]
set_option maxHeartbeats 4000000 in
theorem wpath_ (q : PL) (pv : Value) (p b : Nat) (xs : List Int) (H : AH) (hI : InkAt H p b xs) (hv : ∀ J, OlP (pbP p b) H J → Pts J pv q.2) (hn : roomP (xs.length + (pathO q).length + 64)) :
    Cal Tryz.prog 36 [ap p 0 0, .agg [.bool q.1, pv].toArray] H fun v' H' W => v' = .tuple #[] ∧ OnW W p b ∧ InkS H H' p b (xs ++ pathO q) := by
  refine of_x ?_
  have hln := (hv H (OlP.refl _ _)).len
  obtain ⟨la, le, hlf⟩ := (hv H (OlP.refl _ _)).form
  subst hlf
  have kd : ∀ n, decide (H.length + n < H.length) = false := fun n => df (by omega)
  have kd0 : decide (H.length < H.length) = false := df (by omega)
  have hpO : (pathO q).length = 2 + (q.2.flatMap ptO).length := by unfold pathO yesO; rw [List.length_append, List.length_singleton, List.length_cons]; omega
  refine XCal.of hm Tryz.func36 rfl (fun xs w => Tryz.call36 xs w) Tryz.ntmps36 Tryz.results36 rfl ?_
  (refine sg (et kd kd0) ?_; try exact ⟨⟩)
  have hB := (InkS.refl hI).app [⟨[.bool q.1, .slice la q.2.length le], 0, true⟩]
  have gB : (H ++ [(⟨[.bool q.1, .slice la q.2.length le], 0, true⟩ : Blk)])[H.length]? = some ⟨[.bool q.1, .slice la q.2.length le], 0, true⟩ := by rw [hget_app0]; rfl
  generalize H ++ [(⟨[.bool q.1, .slice la q.2.length le], 0, true⟩ : Blk)] = B at *
  refine (wyes_ q.1 p b _ _ hB.ink (by unfold roomP at hn ⊢; omega)).x ?_
  rintro v H1 W ⟨rfl, hW, hS⟩
  have gz := hS.old _ _ (pb_no hI (Nat.le_refl _)) gB
  have hS := hB.trans hS
  have kd1 : ∀ n, decide (H1.length + n < H.length) = false := fun n => df (by have := hS.len; omega)
  have kd10 : decide (H1.length < H.length) = false := df (by have := hS.len; omega)
  (refine sg (et kd0 (et kd1 (et kd10 (et gz (old_get gz))))) ?_; try exact ⟨⟩)
  have hB := hS.app [⟨[.int .i64 (q.2.length : Int)], 0, true⟩]
  have hy : (yesO q.1).length = 1 := rfl
  refine (wsmall_ [(q.2.length : Int)] _ p b _ _ hB.ink (fun J o => ins_new hI [(q.2.length : Int)] (by simp) hS.len (by rw [hget_app0]; rfl) o) (by unfold roomP at hn ⊢; simp only [List.length_append, List.length_singleton]; omega)).x ?_
  rintro v H2 W2 ⟨rfl, hW2, hS2⟩
  have gz2 := hS2.old _ _ (pb_no hI (Nat.le_refl _)) (old_get gz _)
  have hS2 := hB.trans hS2
  have hll : xs ++ yesO q.1 ++ [(q.2.length : Int)].map u8 = xs ++ yesO q.1 ++ [u8 q.2.length] := rfl
  rw [hll] at hS2
  clear hS hB gz gB
  have hD : OnW (W.filter (fun b => decide (b < H.length)) ++ W2.filter (fun b => decide (b < H.length))) p b := hW.filt.app hW2.filt
  (refine sg gz2 ?_; try exact ⟨⟩)
  refine keep (fun r T K D => OnW D p b ∧ ∃ (j : Nat), j + r = q.2.length ∧ InkS H K p b (xs ++ yesO q.1 ++ [u8 q.2.length] ++ (q.2.take j).flatMap ptO) ∧ T 0 = ap p 0 0 ∧ T 17 = .slice la q.2.length le ∧ T 18 = .int .i64 (q.2.length : Int) ∧ T 19 = .int .i64 (j : Int)) q.2.length
    ⟨hD, 0, by omega, by simpa using hS2, by (refine sg trivial ?_; try exact ⟨⟩), by (refine sg trivial ?_; try exact ⟨⟩), by (refine sg trivial ?_; try exact ⟨⟩), by (refine sg trivial ?_; try exact ⟨⟩) <;> rfl⟩ ?_
  clear hS2 hD gz2 hW hW2 kd1 kd10
  rintro r T K D ⟨hD, j, hjr, hS, t0, t17, t18, t19⟩
  have kd : ∀ n, decide (K.length + n < H.length) = false := fun n => df (by have := hS.len; omega)
  have kd0 : decide (K.length < H.length) = false := df (by have := hS.len; omega)
  by_cases hj : j < q.2.length
  · obtain ⟨k, hk⟩ : ∃ k, q.2[j]? = some k := ⟨_, List.getElem?_eq_getElem hj⟩
    obtain ⟨b2, g2, cells2, rw2, c, hve2, hb2, hc, hcl2, hle2, hld2, hgt2⟩ := (hv K hS.old).row.at hk
    have hc : c = [.int .i64 k.1, .int .i64 k.2] := hc
    subst hc
    rw [hve2] at t17
    have q0 : (0 : Int) ≤ (j : Int) := by omega
    have q1 : (j : Int) < (q.2.length : Int) := by omega
    have w2 : IntKind.i64.wrap ((j : Int) + 1) = ((j + 1 : Nat) : Int) := by rw [wi (by omega) (by omega)]; rfl
    have hat2 := flat_at (f := ptO) hk
    rw [pt_len] at hat2
    (refine sg (et t0 (et t17 (et t18 (et t19 (et (dt q1) (et q0 (et q1 (et Int.toNat_natCast (et Nat.zero_add (et hb2 (et hld2 (et kd kd0)))))))))))) ?_; try exact ⟨⟩)
    have hB := hS.app [⟨[.int .i64 k.1, .int .i64 k.2], 0, true⟩, ⟨[.int .i64 k.1, .int .i64 k.2], 0, true⟩]
    refine (wwhole_ [k.1, k.2] _ p b _ _ hB.ink (fun J o => ins_new hI [k.1, k.2] (by simp) (c := K.length + 1) (by have := hS.len; omega) (by rw [hget_app]; rfl) o) (by unfold roomP at hn ⊢; simp only [List.length_append, List.length_singleton, List.length_cons, List.length_nil]; omega)).x ?_
    rintro v H2 W2 ⟨rfl, hW2, hS2⟩
    have hS2 := hB.trans hS2
    have hfm : [k.1, k.2].flatMap lng = ptO k := by simp [ptO]
    rw [hfm] at hS2
    (refine sg (et t0 (et t17 (et t18 (et t19 (et kd (et kd0 w2)))))) ?_; try exact ⟨⟩)
    refine ⟨r - 1, by omega, hD.app hW2.filt, j + 1, by omega, ?_, hve2.symm, rfl⟩
    rw [take_snoc hk, List.flatMap_append, List.flatMap_singleton, ← List.append_assoc]
    exact hS2
  · have hjl : j = q.2.length := by omega
    (refine sg (et t0 (et t17 (et t18 (et t19 (df (show ¬ (j : Int) < (q.2.length : Int) by omega)))))) ?_; try exact ⟨⟩)
    rw [show q.2.take j = q.2 by rw [hjl, List.take_length]] at hS
    refine ⟨hD, ?_⟩
    rw [show pathO q = yesO q.1 ++ ([u8 q.2.length] ++ q.2.flatMap ptO) from rfl, ← List.append_assoc, ← List.append_assoc]
    exact hS
end Go.Proofs.YtlcdbangmbdlcaaGreat
/- Writing: the walks of shape, layer (printed by genInk.py). -/
namespace Go.Proofs.YtlcdbangmbdlcaaGreat
open Go Go.RowKit E
attribute [local irreducible] XRun XOps XCode XCal XLoop XQ SemCall
set_option linter.unusedSimpArgs false
set_option linter.unusedVariables false
/-- A part of a row, in all heaps in which all but p stands. -/
theorem row_el {α : Type} {s : Nat} {E : AH → List Value → α → Prop} {p : Nat → Prop} {K : AH} {v : Value} {l : List α} (h : ∀ J, OlP p K J → RowOf s E J v l) {i : Nat} {x : α} (hx : l[i]? = some x) :
    ∃ b g cells rw_ c, v = sl b 0 g l.length s ∧ ¬ p b ∧ K[b]? = some ⟨cells, g, rw_⟩ ∧ c.length = s ∧ (∀ b', ald (some true) (some s) (some ⟨cells, g, rw_⟩) b' (i * s) g = some (.agg c.toArray, b')) ∧ ∀ J, OlP p K J → E J c x := by
  obtain ⟨b, g, cells, rw_, c, hve, hb, hc, hcl, hle, hld, hgt⟩ := (h K (OlP.refl _ _)).at hx
  rcases row_apart h with ⟨e, _⟩ | ⟨b', g', rest, rw', cs, hp, hv, hb', hl, hle', hel⟩
  · rw [e] at hx; simp at hx
  · rw [hve] at hv
    obtain ⟨rfl, rfl⟩ := sl_inj hv
    rw [hb] at hb'
    cases hb'
    obtain ⟨c', hc', hcl', hE⟩ := hel i x hx
    have hall : ∀ c ∈ cs, c.length = s := fun c hc => by
      obtain ⟨k, hk⟩ := List.getElem?_of_mem hc
      have hkl := (List.getElem?_eq_some_iff.1 hk).1
      obtain ⟨c', e1, e2, _⟩ := hel k _ (List.getElem?_eq_getElem (by omega))
      rw [hk] at e1; cases e1; exact e2
    have e : c = c' := by
      refine List.ext_getElem? fun j => ?_
      by_cases hj : j < s
      · have h1 := hgt j hj
        have h2 := flatten_get hall hc' (j := j) hj
        have h3 : cs.flatten[i * s + j]? = some c'[j] := by rw [h2]; exact List.getElem?_eq_getElem (by omega)
        rw [List.getElem?_append_left (List.getElem?_eq_some_iff.1 h3).1] at h1
        rw [← h1, h2]
      · rw [List.getElem?_eq_none (by omega), List.getElem?_eq_none (by omega)]
    subst e
    exact ⟨b, g, _, rw_, c, hve, hp, hb, hcl, hld, hE⟩
/-- A new row of rows of keys. -/
theorem kys_new {H H' J : AH} {p b : Nat} {xs : List Int} (h : InkAt H p b xs) (vs : List Value) (ll : List (List Ky)) (hl : vs.length = ll.length) (hn : ll.length ≤ 1000) {c : Nat} (hc : H.length ≤ c) (hg : H'[c]? = some ⟨vs, 0, true⟩) (o : OlP (pbP p b) H' J)
    (hk : ∀ (i : Nat) v l, vs[i]? = some v → ll[i]? = some l → Kys J v l) : RowOf 1 KsE J (sl c 0 0 ll.length 1) ll := by
  have hf : ∀ vs : List Value, (vs.map fun v => [v]).flatten = vs := fun vs => by
    induction vs with
    | nil => rfl
    | cons x l ih => rw [List.map_cons, List.flatten_cons, ih]; rfl
  refine .inr ⟨c, 0, [], true, vs.map fun v => [v], rfl, by rw [hf, List.append_nil]; exact o _ _ (pb_no h hc) hg, by rw [List.length_map, hl], by omega, fun i l hx => ?_⟩
  have hi := (List.getElem?_eq_some_iff.1 hx).1
  exact ⟨[vs[i]'(by omega)], by simp [show i < vs.length by omega], rfl, _, rfl, hk i _ l (List.getElem?_eq_getElem (by omega)) hx⟩
theorem kys1 {J : AH} {v0 : Value} {l0 : List Ky} (h0 : Kys J v0 l0) : ∀ (i : Nat) v l, [v0][i]? = some v → [l0][i]? = some l → Kys J v l := fun i v l h1 h2 => by
  match i, h1, h2 with
  | 0, h1, h2 => cases h1; cases h2; exact h0
theorem kys2 {J : AH} {v0 v1 : Value} {l0 l1 : List Ky} (h0 : Kys J v0 l0) (h1 : Kys J v1 l1) : ∀ (i : Nat) v l, [v0, v1][i]? = some v → [l0, l1][i]? = some l → Kys J v l := fun i v l e1 e2 => by
  match i, e1, e2 with
  | 0, e1, e2 => cases e1; cases e2; exact h0
  | 1, e1, e2 => cases e1; cases e2; exact h1
theorem col_len (c : C4) : (colO c).length = 4 := rfl
theorem yes_len (v : Bool) : (yesO v).length = 1 := rfl
end Go.Proofs.YtlcdbangmbdlcaaGreat
/- Writing: the walk of shape. -/
namespace Go.Proofs.YtlcdbangmbdlcaaGreat
open Go Go.RowKit E
attribute [local irreducible] XRun XOps XCode XCal XLoop XQ SemCall
set_option linter.unusedSimpArgs false
set_option linter.unusedVariables false
theorem OlP.app {q : Nat → Prop} {H K : AH} (o : OlP q H K) (L : AH) : OlP q H (K ++ L) := o.trans (OlP.old (Old.app' _ _))
theorem sh_len (s : Sh) : (shO s).length = 2 + (keysO s.w).length + (keysO s.h).length + 1 + (s.paths.flatMap pkO).length + 3 + 8 + 40 + 1 + (s.colors.flatMap ckO).length + 1 + (keysO s.width).length + 4 + 2 + (s.dash.flatMap lng).length + (keysO s.frm).length + (keysO s.to).length := by
  unfold shO
  simp only [List.length_append, List.length_cons, List.length_nil, col_len, yes_len, pt_len, lng_len]
  omega
theorem pk_len (k : Pk) : (pkO k).length = 8 + (pathO k.p).length + (easeO k.how k.e).length := by unfold pkO; simp only [List.length_append, lng_len]
theorem ck_len (k : Ck) : (ckO k).length = 12 + (easeO k.how k.e).length := by unfold ckO; simp only [List.length_append, lng_len, col_len]
set_option maxHeartbeats 8000000 in
theorem wshape_ (s : Sh) (vw vh vp vc vd vda vf vt : Value) (p b : Nat) (xs : List Int) (H : AH) (hI : InkAt H p b xs) (hv : ∀ J, OlP (pbP p b) H J → ShV J s vw vh vp vc vd vda vf vt) (hn : roomP (xs.length + (shO s).length + 64)) :
    Cal Tryz.prog 37 [ap p 0 0, .agg (shC s vw vh vp vc vd vda vf vt).toArray] H fun v' H' W => v' = .tuple #[] ∧ OnW W p b ∧ InkS H H' p b (xs ++ shO s) := by
  refine of_x ?_
  have hO := sh_len s
  have hV := hv H (OlP.refl _ _)
  have lp := hV.paths.len
  have lc := hV.colors.len
  have ld := hV.dash.len
  obtain ⟨pa, pe, rfl⟩ := hV.paths.form
  obtain ⟨ca, ce, rfl⟩ := hV.colors.form
  obtain ⟨da, de, rfl⟩ := hV.dash.form
  obtain ⟨wa, we, rfl⟩ := hV.w.form
  obtain ⟨ha, he, rfl⟩ := hV.h.form
  obtain ⟨ia, ie, rfl⟩ := hV.width.form
  obtain ⟨fa, fe, rfl⟩ := hV.frm.form
  obtain ⟨ta, te, rfl⟩ := hV.to.form
  have kd : ∀ n, decide (H.length + n < H.length) = false := fun n => df (by omega)
  have kd0 : decide (H.length < H.length) = false := df (by omega)
  have hnB : roomP (xs.length + 2 + (keysO s.w).length + (keysO s.h).length + 1 + (s.paths.flatMap pkO).length + 3 + 8 + 40 + 1 + (s.colors.flatMap ckO).length + 1 + (keysO s.width).length + 4 + 2 + (s.dash.flatMap lng).length + (keysO s.frm).length + (keysO s.to).length + 64) := by unfold roomP at hn ⊢; omega
  refine XCal.of hm Tryz.func37 rfl (fun xs w => Tryz.call37 xs w) Tryz.ntmps37 Tryz.results37 rfl ?_
  (refine sg (et kd kd0) ?_; try exact ⟨⟩)
  obtain ⟨blk, hblk⟩ : ∃ blk, blk = (⟨shC s (.slice wa s.w.length we) (.slice ha s.h.length he) (.slice pa s.paths.length pe) (.slice ca s.colors.length ce) (.slice ia s.width.length ie) (.slice da s.dash.length de) (.slice fa s.frm.length fe) (.slice ta s.to.length te), 0, true⟩ : Blk) := ⟨_, rfl⟩
  have hB := (InkS.refl hI).app [blk, ⟨[.int .i64 s.form, .int .i64 s.n], 0, true⟩]
  refine (wsmall_ [s.form, s.n] _ p b _ _ (by rw [hblk] at hB; exact hB.ink) (fun J o => ins_new hI [s.form, s.n] (by simp) (c := H.length + 1) (by omega) (by rw [hget_app]; rfl) o) (by unfold roomP at hnB ⊢; simp only [List.length_cons, List.length_nil]; omega)).x ?_
  rintro v K1 W1 ⟨rfl, hW1, hS'⟩
  rw [hblk] at hB
  have gz : K1[H.length]? = some ⟨shC s (.slice wa s.w.length we) (.slice ha s.h.length he) (.slice pa s.paths.length pe) (.slice ca s.colors.length ce) (.slice ia s.width.length ie) (.slice da s.dash.length de) (.slice fa s.frm.length fe) (.slice ta s.to.length te), 0, true⟩ := hS'.old _ _ (pb_no hI (Nat.le_refl _)) (by rw [hget_app0]; rfl)
  have hS : InkS H K1 p b (xs ++ [u8 s.form, u8 s.n]) := hB.trans hS'
  clear hB hS' hblk
  have kd : ∀ n, decide (K1.length + n < H.length) = false := fun n => df (by have := hS.len; omega)
  have kd0 : decide (K1.length < H.length) = false := df (by have := hS.len; omega)
  (refine sg (et kd (et kd0 (et gz (old_get gz)))) ?_; try exact ⟨⟩)
  have hB := hS.app [⟨[.slice wa s.w.length we, .slice ha s.h.length he], 0, true⟩]
  refine (wkeys_ [s.w, s.h] _ p b _ _ hB.ink (fun J o => kys_new hI [.slice wa s.w.length we, .slice ha s.h.length he] [s.w, s.h] rfl (by simp) (c := K1.length) hS.len (by rw [hget_app0]; rfl) o (kys2 (hv J (hB.old.trans o)).w (hv J (hB.old.trans o)).h)) (by unfold roomP at hnB ⊢; simp only [List.flatMap_cons, List.flatMap_nil, List.append_nil, List.length_append, List.length_cons, List.length_nil]; omega)).x ?_
  rintro v K2 W2 ⟨rfl, hW2, hS'⟩
  have gz := hS'.old _ _ (pb_no hI (Nat.le_refl _)) (old_get gz _)
  have hS : InkS H K2 p b (xs ++ [u8 s.form, u8 s.n] ++ (keysO s.w ++ keysO s.h)) := by
    have := hB.trans hS'
    rwa [show [s.w, s.h].flatMap keysO = keysO s.w ++ keysO s.h by simp] at this
  clear hB hS'
  have kd : ∀ n, decide (K2.length + n < H.length) = false := fun n => df (by have := hS.len; omega)
  have kd0 : decide (K2.length < H.length) = false := df (by have := hS.len; omega)
  (refine sg (et kd (et kd0 (et gz (old_get gz)))) ?_; try exact ⟨⟩)
  have hB := hS.app [⟨[.int .i64 (s.paths.length : Int)], 0, true⟩]
  refine (wsmall_ [(s.paths.length : Int)] _ p b _ _ hB.ink (fun J o => ins_new hI [(s.paths.length : Int)] (by simp) hS.len (by rw [hget_app0]; rfl) o) (by unfold roomP at hnB ⊢; simp only [List.length_append, List.length_cons, List.length_nil]; omega)).x ?_
  rintro v K3 W3 ⟨rfl, hW3, hS'⟩
  have gz := hS'.old _ _ (pb_no hI (Nat.le_refl _)) (old_get gz _)
  have hS : InkS H K3 p b (xs ++ [u8 s.form, u8 s.n] ++ (keysO s.w ++ keysO s.h) ++ [u8 s.paths.length]) := hB.trans hS'
  clear hB hS'
  have kd : ∀ n, decide (K3.length + n < H.length) = false := fun n => df (by have := hS.len; omega)
  have kd0 : decide (K3.length < H.length) = false := df (by have := hS.len; omega)
  obtain ⟨ys, hys⟩ : ∃ ys, ys = xs ++ [u8 s.form, u8 s.n] ++ (keysO s.w ++ keysO s.h) ++ [u8 s.paths.length] := ⟨_, rfl⟩
  have hyl : ys.length = xs.length + 2 + (keysO s.w).length + (keysO s.h).length + 1 := by rw [hys]; simp only [List.length_append, List.length_cons, List.length_nil]; omega
  rw [← hys] at hS
  (refine sg (et kd (et kd0 gz)) ?_; try exact ⟨⟩)
  have hD := (hW1.filt (q := fun b => decide (b < H.length))).app ((hW2.filt (q := fun b => decide (b < H.length))).app (hW3.filt (q := fun b => decide (b < H.length))))
  rw [← List.append_assoc] at hD
  refine keep (fun r T K D => OnW D p b ∧ ∃ (j : Nat), j + r = s.paths.length ∧ InkS H K p b (ys ++ (s.paths.take j).flatMap pkO) ∧ K[H.length]? = some ⟨shC s (.slice wa s.w.length we) (.slice ha s.h.length he) (.slice pa s.paths.length pe) (.slice ca s.colors.length ce) (.slice ia s.width.length ie) (.slice da s.dash.length de) (.slice fa s.frm.length fe) (.slice ta s.to.length te), 0, true⟩ ∧ T 0 = ap p 0 0 ∧ T 3 = ap H.length 0 0 ∧ T 29 = .slice pa s.paths.length pe ∧ T 30 = .int .i64 (s.paths.length : Int) ∧ T 31 = .int .i64 (j : Int)) s.paths.length
    ⟨hD, 0, by omega, by simpa using hS, gz, by (refine sg trivial ?_; try exact ⟨⟩), by (refine sg trivial ?_; try exact ⟨⟩), by (refine sg trivial ?_; try exact ⟨⟩), by (refine sg trivial ?_; try exact ⟨⟩), by (refine sg trivial ?_; try exact ⟨⟩) <;> rfl⟩ ?_
  clear hS hD gz hW1 hW2 hW3 kd kd0
  rintro r T K D ⟨hD, j, hjr, hS, gz, t0, t3, t29, t30, t31⟩
  have kd : ∀ n, decide (K.length + n < H.length) = false := fun n => df (by have := hS.len; omega)
  have kd0 : decide (K.length < H.length) = false := df (by have := hS.len; omega)
  by_cases hj : j < s.paths.length
  · obtain ⟨k, hk⟩ : ∃ k, s.paths[j]? = some k := ⟨_, List.getElem?_eq_getElem hj⟩
    obtain ⟨b2, g2, cells2, rw2, c, hve2, hpb2, hb2, hcl2, hld2, hE⟩ := row_el (fun J o => (hv J (hS.old.trans o)).paths) hk
    obtain ⟨pv, rfl, _⟩ := hE K (OlP.refl _ _)
    have hP : ∀ J, OlP (pbP p b) K J → Pts J pv k.p.2 := fun J o => by
      obtain ⟨pv', e, h⟩ := hE J o
      cases e; exact h
    obtain ⟨qa, qe, rfl⟩ := (hP K (OlP.refl _ _)).form
    clear hE
    rw [hve2] at t29
    have q0 : (0 : Int) ≤ (j : Int) := by omega
    have q1 : (j : Int) < (s.paths.length : Int) := by omega
    have w2 : IntKind.i64.wrap ((j : Int) + 1) = ((j + 1 : Nat) : Int) := by rw [wi (by omega) (by omega)]; rfl
    have hat := flat_at (f := pkO) hk
    rw [pk_len] at hat
    (refine sg (et t0 (et t3 (et t29 (et t30 (et t31 (et (dt q1) (et q0 (et q1 (et Int.toNat_natCast (et Nat.zero_add (et hb2 (et hld2 (et kd kd0))))))))))))) ?_; try exact ⟨⟩)
    have hB := hS.app [⟨[.int .i64 k.t, .bool k.p.1, .slice qa k.p.2.length qe, .int .i64 k.how, .int .i64 k.e.x1, .int .i64 k.e.y1, .int .i64 k.e.x2, .int .i64 k.e.y2], 0, true⟩, ⟨[.int .i64 k.t], 0, true⟩]
    refine (wwhole_ [k.t] _ p b _ _ hB.ink (fun J o => ins_new hI [k.t] (by simp) (c := K.length + 1) (by have := hS.len; omega) (by rw [hget_app]; rfl) o) (by unfold roomP at hnB ⊢; simp only [List.length_append, List.length_cons, List.length_nil]; omega)).x ?_
    rintro v K4 W4 ⟨rfl, hW4, hS'⟩
    have gz4 := hS'.old _ _ (pb_no hI (Nat.le_refl _)) (old_get gz _)
    have gk : K4[K.length]? = some ⟨[.int .i64 k.t, .bool k.p.1, .slice qa k.p.2.length qe, .int .i64 k.how, .int .i64 k.e.x1, .int .i64 k.e.y1, .int .i64 k.e.x2, .int .i64 k.e.y2], 0, true⟩ := hS'.old _ _ (pb_no hI hS.len) (by rw [hget_app0]; rfl)
    have oA := ((OlP.refl (pbP p b) K).app [⟨[.int .i64 k.t, .bool k.p.1, .slice qa k.p.2.length qe, .int .i64 k.how, .int .i64 k.e.x1, .int .i64 k.e.y1, .int .i64 k.e.x2, .int .i64 k.e.y2], 0, true⟩, ⟨[.int .i64 k.t], 0, true⟩]).trans hS'.old
    have hS4 : InkS H K4 p b (ys ++ (s.paths.take j).flatMap pkO ++ lng k.t) := by
      have := hB.trans hS'
      rwa [List.flatMap_singleton] at this
    clear hB hS'
    (refine sg (et t0 (et t3 (et t29 (et t30 (et t31 (et kd (et kd0 gk))))))) ?_; try exact ⟨⟩)
    refine (wpath_ k.p _ p b _ _ hS4.ink (fun J o => hP J (oA.trans o)) (by unfold roomP at hnB ⊢; simp only [List.length_append, lng_len]; omega)).x ?_
    rintro v K5 W5 ⟨rfl, hW5, hS'⟩
    have gz5 := hS'.old _ _ (pb_no hI (Nat.le_refl _)) gz4
    have gk5 := hS'.old _ _ (pb_no hI hS.len) gk
    have hS5 := hS4.trans hS'
    (refine sg (et t0 (et t3 (et t29 (et t30 (et t31 (et kd (et kd0 gk5))))))) ?_; try exact ⟨⟩)
    refine (wgoes_ k.how k.e p b _ _ hS5.ink (by unfold roomP at hnB ⊢; simp only [List.length_append, lng_len]; omega)).x ?_
    rintro v K6 W6 ⟨rfl, hW6, hS'⟩
    have gz6 := hS'.old _ _ (pb_no hI (Nat.le_refl _)) gz5
    have hS6 := hS5.trans hS'
    (refine sg (et t0 (et t3 (et t29 (et t30 (et t31 (et kd (et kd0 w2))))))) ?_; try exact ⟨⟩)
    refine ⟨r - 1, by omega, ((hD.app hW4.filt).app hW5.filt).app hW6.filt, j + 1, by omega, ?_, gz6, hve2.symm, rfl⟩
    rw [take_snoc hk, List.flatMap_append, List.flatMap_singleton, ← List.append_assoc, show pkO k = lng k.t ++ pathO k.p ++ easeO k.how k.e from rfl, ← List.append_assoc, ← List.append_assoc]
    exact hS6
  · have hjl : j = s.paths.length := by omega
    rw [show s.paths.take j = s.paths by rw [hjl, List.take_length]] at hS
    (refine sg (et t0 (et t3 (et t29 (et t30 (et t31 (df (show ¬ (j : Int) < (s.paths.length : Int) by omega))))))) ?_; try exact ⟨⟩)
    -- behind the paths
    obtain ⟨zs, hzs⟩ : ∃ zs, zs = ys ++ s.paths.flatMap pkO := ⟨_, rfl⟩
    have hzl : zs.length = ys.length + (s.paths.flatMap pkO).length := by rw [hzs, List.length_append]
    rw [← hzs] at hS
    have kd : ∀ n, decide (K.length + n < H.length) = false := fun n => df (by have := hS.len; omega)
    have kd0 : decide (K.length < H.length) = false := df (by have := hS.len; omega)
    (refine sg (et t0 (et t3 (et kd (et kd0 (et gz (old_get gz)))))) ?_; try exact ⟨⟩)
    have hB := hS
    refine (wyes_ s.fill p b _ _ hB.ink (by unfold roomP at hnB ⊢; (try simp only [List.length_append, List.length_cons, List.length_nil, lng_len, col_len, yes_len, pt_len, List.flatMap_cons, List.flatMap_nil, List.append_nil]); omega)).x ?_
    rintro v K10 W10 ⟨rfl, hW10, hS'⟩
    have gz := hS'.old _ _ (pb_no hI (Nat.le_refl _)) gz
    have hS : InkS H K10 p b (zs ++ yesO s.fill) := by
      have := hB.trans hS'
      exact this
    clear hB hS'
    have kd : ∀ n, decide (K10.length + n < H.length) = false := fun n => df (by have := hS.len; omega)
    have kd0 : decide (K10.length < H.length) = false := df (by have := hS.len; omega)
    (refine sg (et t0 (et t3 (et kd (et kd0 (et gz (old_get gz)))))) ?_; try exact ⟨⟩)
    have hB := hS.app [⟨[.int .i64 (s.rule), .int .i64 (s.paint.kind)], 0, true⟩]
    refine (wsmall_ [s.rule, s.paint.kind] _ p b _ _ hB.ink (fun J o => ins_new hI [s.rule, s.paint.kind] (by simp) hS.len (by rw [hget_app0]; rfl) o) (by unfold roomP at hnB ⊢; (try simp only [List.length_append, List.length_cons, List.length_nil, lng_len, col_len, yes_len, pt_len, List.flatMap_cons, List.flatMap_nil, List.append_nil]); omega)).x ?_
    rintro v K11 W11 ⟨rfl, hW11, hS'⟩
    have gz := hS'.old _ _ (pb_no hI (Nat.le_refl _)) (old_get gz _)
    have hS : InkS H K11 p b (zs ++ yesO s.fill ++ [u8 s.rule, u8 s.paint.kind]) := by
      have := hB.trans hS'
      exact this
    clear hB hS'
    have kd : ∀ n, decide (K11.length + n < H.length) = false := fun n => df (by have := hS.len; omega)
    have kd0 : decide (K11.length < H.length) = false := df (by have := hS.len; omega)
    (refine sg (et t0 (et t3 (et kd (et kd0 (et gz (old_get gz)))))) ?_; try exact ⟨⟩)
    have hB := hS
    refine (wcolor_ s.paint.a p b _ _ hB.ink (by unfold roomP at hnB ⊢; (try simp only [List.length_append, List.length_cons, List.length_nil, lng_len, col_len, yes_len, pt_len, List.flatMap_cons, List.flatMap_nil, List.append_nil]); omega)).x ?_
    rintro v K12 W12 ⟨rfl, hW12, hS'⟩
    have gz := hS'.old _ _ (pb_no hI (Nat.le_refl _)) gz
    have hS : InkS H K12 p b (zs ++ yesO s.fill ++ [u8 s.rule, u8 s.paint.kind] ++ colO s.paint.a) := by
      have := hB.trans hS'
      exact this
    clear hB hS'
    have kd : ∀ n, decide (K12.length + n < H.length) = false := fun n => df (by have := hS.len; omega)
    have kd0 : decide (K12.length < H.length) = false := df (by have := hS.len; omega)
    (refine sg (et t0 (et t3 (et kd (et kd0 (et gz (old_get gz)))))) ?_; try exact ⟨⟩)
    have hB := hS
    refine (wcolor_ s.paint.b p b _ _ hB.ink (by unfold roomP at hnB ⊢; (try simp only [List.length_append, List.length_cons, List.length_nil, lng_len, col_len, yes_len, pt_len, List.flatMap_cons, List.flatMap_nil, List.append_nil]); omega)).x ?_
    rintro v K13 W13 ⟨rfl, hW13, hS'⟩
    have gz := hS'.old _ _ (pb_no hI (Nat.le_refl _)) gz
    have hS : InkS H K13 p b (zs ++ yesO s.fill ++ [u8 s.rule, u8 s.paint.kind] ++ colO s.paint.a ++ colO s.paint.b) := by
      have := hB.trans hS'
      exact this
    clear hB hS'
    have kd : ∀ n, decide (K13.length + n < H.length) = false := fun n => df (by have := hS.len; omega)
    have kd0 : decide (K13.length < H.length) = false := df (by have := hS.len; omega)
    (refine sg (et t0 (et t3 (et kd (et kd0 (et gz (old_get gz)))))) ?_; try exact ⟨⟩)
    have hB := hS.app [⟨[.int .i64 s.paint.p.1, .int .i64 s.paint.p.2, .int .i64 s.paint.q.1, .int .i64 s.paint.q.2, .int .i64 s.paint.r], 0, true⟩]
    refine (wwhole_ [s.paint.p.1, s.paint.p.2, s.paint.q.1, s.paint.q.2, s.paint.r] _ p b _ _ hB.ink (fun J o => ins_new hI [s.paint.p.1, s.paint.p.2, s.paint.q.1, s.paint.q.2, s.paint.r] (by simp) hS.len (by rw [hget_app0]; rfl) o) (by unfold roomP at hnB ⊢; (try simp only [List.length_append, List.length_cons, List.length_nil, lng_len, col_len, yes_len, pt_len, List.flatMap_cons, List.flatMap_nil, List.append_nil]); omega)).x ?_
    rintro v K14 W14 ⟨rfl, hW14, hS'⟩
    have gz := hS'.old _ _ (pb_no hI (Nat.le_refl _)) (old_get gz _)
    have hS : InkS H K14 p b (zs ++ yesO s.fill ++ [u8 s.rule, u8 s.paint.kind] ++ colO s.paint.a ++ colO s.paint.b ++ (ptO s.paint.p ++ ptO s.paint.q ++ lng s.paint.r)) := by
      have := hB.trans hS'
      rwa [show [s.paint.p.1, s.paint.p.2, s.paint.q.1, s.paint.q.2, s.paint.r].flatMap lng = ptO s.paint.p ++ ptO s.paint.q ++ lng s.paint.r by simp [ptO]] at this
    clear hB hS'
    have kd : ∀ n, decide (K14.length + n < H.length) = false := fun n => df (by have := hS.len; omega)
    have kd0 : decide (K14.length < H.length) = false := df (by have := hS.len; omega)
    (refine sg (et t0 (et t3 (et kd (et kd0 (et gz (old_get gz)))))) ?_; try exact ⟨⟩)
    have hB := hS.app [⟨[.int .i64 ((s.colors.length : Int))], 0, true⟩]
    refine (wsmall_ [(s.colors.length : Int)] _ p b _ _ hB.ink (fun J o => ins_new hI [(s.colors.length : Int)] (by simp) hS.len (by rw [hget_app0]; rfl) o) (by unfold roomP at hnB ⊢; (try simp only [List.length_append, List.length_cons, List.length_nil, lng_len, col_len, yes_len, pt_len, List.flatMap_cons, List.flatMap_nil, List.append_nil]); omega)).x ?_
    rintro v K15 W15 ⟨rfl, hW15, hS'⟩
    have gz := hS'.old _ _ (pb_no hI (Nat.le_refl _)) (old_get gz _)
    have hS : InkS H K15 p b (zs ++ yesO s.fill ++ [u8 s.rule, u8 s.paint.kind] ++ colO s.paint.a ++ colO s.paint.b ++ (ptO s.paint.p ++ ptO s.paint.q ++ lng s.paint.r) ++ [u8 s.colors.length]) := by
      have := hB.trans hS'
      exact this
    clear hB hS'
    have kd : ∀ n, decide (K15.length + n < H.length) = false := fun n => df (by have := hS.len; omega)
    have kd0 : decide (K15.length < H.length) = false := df (by have := hS.len; omega)
    have hD := ((((((hD).app (hW10.filt (q := fun b => decide (b < H.length)))).app (hW11.filt (q := fun b => decide (b < H.length)))).app (hW12.filt (q := fun b => decide (b < H.length)))).app (hW13.filt (q := fun b => decide (b < H.length)))).app (hW14.filt (q := fun b => decide (b < H.length)))).app (hW15.filt (q := fun b => decide (b < H.length)))
    obtain ⟨us, hus⟩ : ∃ us, us = zs ++ yesO s.fill ++ [u8 s.rule, u8 s.paint.kind] ++ colO s.paint.a ++ colO s.paint.b ++ (ptO s.paint.p ++ ptO s.paint.q ++ lng s.paint.r) ++ [u8 s.colors.length] := ⟨_, rfl⟩
    have hul : us.length = zs.length + 1 + 2 + 4 + 4 + 40 + 1 := by rw [hus]; simp only [List.length_append, List.length_cons, List.length_nil, lng_len, col_len, yes_len, pt_len, List.flatMap_cons, List.flatMap_nil, List.append_nil]
    rw [← hus] at hS
    (refine sg (et t0 (et t3 (et kd (et kd0 gz)))) ?_; try exact ⟨⟩)
    clear hjl
    refine keep (fun r T K D => OnW D p b ∧ ∃ (j : Nat), j + r = s.colors.length ∧ InkS H K p b (us ++ (s.colors.take j).flatMap ckO) ∧ K[H.length]? = some ⟨shC s (.slice wa s.w.length we) (.slice ha s.h.length he) (.slice pa s.paths.length pe) (.slice ca s.colors.length ce) (.slice ia s.width.length ie) (.slice da s.dash.length de) (.slice fa s.frm.length fe) (.slice ta s.to.length te), 0, true⟩ ∧ T 0 = ap p 0 0 ∧ T 3 = ap H.length 0 0 ∧ T 102 = .slice ca s.colors.length ce ∧ T 103 = .int .i64 (s.colors.length : Int) ∧ T 104 = .int .i64 (j : Int)) s.colors.length
      ⟨hD, 0, by omega, by simpa using hS, gz, by (refine sg t0 ?_; try exact ⟨⟩), by (refine sg t3 ?_; try exact ⟨⟩), by (refine sg trivial ?_; try exact ⟨⟩), by (refine sg trivial ?_; try exact ⟨⟩), by (refine sg trivial ?_; try exact ⟨⟩) <;> rfl⟩ ?_
    clear hS hD gz hW10 hW11 hW12 hW13 hW14 hW15 kd kd0 t0 t3 t29 t30 t31
    rintro r T K D ⟨hD, j, hjr, hS, gz, t0, t3, t29, t30, t31⟩
    have kd : ∀ n, decide (K.length + n < H.length) = false := fun n => df (by have := hS.len; omega)
    have kd0 : decide (K.length < H.length) = false := df (by have := hS.len; omega)
    by_cases hj : j < s.colors.length
    · obtain ⟨k, hk⟩ : ∃ k, s.colors[j]? = some k := ⟨_, List.getElem?_eq_getElem hj⟩
      obtain ⟨b2, g2, cells2, rw2, c, hve2, hb2, hc, hcl2, hle2, hld2, hgt2⟩ := ((hv K hS.old).colors).at hk
      have hc : c = ckC k := hc
      subst hc
      rw [hve2] at t29
      have q0 : (0 : Int) ≤ (j : Int) := by omega
      have q1 : (j : Int) < (s.colors.length : Int) := by omega
      have w2 : IntKind.i64.wrap ((j : Int) + 1) = ((j + 1 : Nat) : Int) := by rw [wi (by omega) (by omega)]; rfl
      have hat := flat_at (f := ckO) hk
      rw [ck_len] at hat
      (refine sg (et t0 (et t3 (et t29 (et t30 (et t31 (et (dt q1) (et q0 (et q1 (et Int.toNat_natCast (et Nat.zero_add (et hb2 (et hld2 (et kd kd0))))))))))))) ?_; try exact ⟨⟩)
      have hB := hS.app [⟨ckC k, 0, true⟩, ⟨[.int .i64 k.t], 0, true⟩]
      refine (wwhole_ [k.t] _ p b _ _ hB.ink (fun J o => ins_new hI [k.t] (by simp) (c := K.length + 1) (by have := hS.len; omega) (by rw [hget_app]; rfl) o) (by unfold roomP at hnB ⊢; simp only [List.length_append, List.length_cons, List.length_nil]; omega)).x ?_
      rintro v K4 W4 ⟨rfl, hW4, hS'⟩
      have gz4 := hS'.old _ _ (pb_no hI (Nat.le_refl _)) (old_get gz _)
      have gk : K4[K.length]? = some ⟨ckC k, 0, true⟩ := hS'.old _ _ (pb_no hI hS.len) (by rw [hget_app0]; rfl)
      have hS4 : InkS H K4 p b (us ++ (s.colors.take j).flatMap ckO ++ lng k.t) := by have := hB.trans hS'; rwa [List.flatMap_singleton] at this
      clear hB hS'
      (refine sg (et t0 (et t3 (et t29 (et t30 (et t31 (et kd (et kd0 gk))))))) ?_; try exact ⟨⟩)
      refine (wcolor_ k.c p b _ _ hS4.ink (by unfold roomP at hnB ⊢; simp only [List.length_append, lng_len]; omega)).x ?_
      rintro v K5 W5 ⟨rfl, hW5, hS'⟩
      have gz5 := hS'.old _ _ (pb_no hI (Nat.le_refl _)) gz4
      have gk5 := hS'.old _ _ (pb_no hI hS.len) gk
      have hS5 := hS4.trans hS'
      (refine sg (et t0 (et t3 (et t29 (et t30 (et t31 (et kd (et kd0 gk5))))))) ?_; try exact ⟨⟩)
      refine (wgoes_ k.how k.e p b _ _ hS5.ink (by unfold roomP at hnB ⊢; simp only [List.length_append, lng_len, col_len]; omega)).x ?_
      rintro v K6 W6 ⟨rfl, hW6, hS'⟩
      have gz6 := hS'.old _ _ (pb_no hI (Nat.le_refl _)) gz5
      have hS6 := hS5.trans hS'
      (refine sg (et t0 (et t3 (et t29 (et t30 (et t31 (et kd (et kd0 w2))))))) ?_; try exact ⟨⟩)
      refine ⟨r - 1, by omega, ((hD.app hW4.filt).app hW5.filt).app hW6.filt, j + 1, by omega, ?_, gz6, hve2.symm, rfl⟩
      rw [take_snoc hk, List.flatMap_append, List.flatMap_singleton, ← List.append_assoc, show ckO k = lng k.t ++ colO k.c ++ easeO k.how k.e from rfl, ← List.append_assoc, ← List.append_assoc]
      exact hS6
    · have hjl : j = s.colors.length := by omega
      rw [show s.colors.take j = s.colors by rw [hjl, List.take_length]] at hS
      (refine sg (et t0 (et t3 (et t29 (et t30 (et t31 (df (show ¬ (j : Int) < (s.colors.length : Int) by omega))))))) ?_; try exact ⟨⟩)
      obtain ⟨zs2, hzs2⟩ : ∃ zs2, zs2 = us ++ s.colors.flatMap ckO := ⟨_, rfl⟩
      have hzl2 : zs2.length = us.length + (s.colors.flatMap ckO).length := by rw [hzs2, List.length_append]
      rw [← hzs2] at hS
      (refine sg (et t0 (et t3 (et kd (et kd0 (et gz (old_get gz)))))) ?_; try exact ⟨⟩)
      have hB := hS
      refine (wyes_ s.stroke p b _ _ hB.ink (by unfold roomP at hnB ⊢; (try simp only [List.length_append, List.length_cons, List.length_nil, lng_len, col_len, yes_len, pt_len, List.flatMap_cons, List.flatMap_nil, List.append_nil]); omega)).x ?_
      rintro v K20 W20 ⟨rfl, hW20, hS'⟩
      have gz := hS'.old _ _ (pb_no hI (Nat.le_refl _)) gz
      have hS : InkS H K20 p b (zs2 ++ yesO s.stroke) := by
        have := hB.trans hS'
        exact this
      clear hB hS'
      have kd : ∀ n, decide (K20.length + n < H.length) = false := fun n => df (by have := hS.len; omega)
      have kd0 : decide (K20.length < H.length) = false := df (by have := hS.len; omega)
      (refine sg (et t0 (et t3 (et kd (et kd0 (et gz (old_get gz)))))) ?_; try exact ⟨⟩)
      have hB := hS.app [⟨[.slice ia s.width.length ie], 0, true⟩]
      refine (wkeys_ [s.width] _ p b _ _ hB.ink (fun J o => kys_new hI [.slice ia s.width.length ie] [s.width] rfl (by simp) hS.len (by rw [hget_app0]; rfl) o (kys1 (hv J (hB.old.trans o)).width)) (by unfold roomP at hnB ⊢; (try simp only [List.length_append, List.length_cons, List.length_nil, lng_len, col_len, yes_len, pt_len, List.flatMap_cons, List.flatMap_nil, List.append_nil]); omega)).x ?_
      rintro v K21 W21 ⟨rfl, hW21, hS'⟩
      have gz := hS'.old _ _ (pb_no hI (Nat.le_refl _)) (old_get gz _)
      have hS : InkS H K21 p b (zs2 ++ yesO s.stroke ++ keysO s.width) := by
        have := hB.trans hS'
        rwa [show [s.width].flatMap keysO = keysO s.width by simp] at this
      clear hB hS'
      have kd : ∀ n, decide (K21.length + n < H.length) = false := fun n => df (by have := hS.len; omega)
      have kd0 : decide (K21.length < H.length) = false := df (by have := hS.len; omega)
      (refine sg (et t0 (et t3 (et kd (et kd0 (et gz (old_get gz)))))) ?_; try exact ⟨⟩)
      have hB := hS
      refine (wcolor_ s.line p b _ _ hB.ink (by unfold roomP at hnB ⊢; (try simp only [List.length_append, List.length_cons, List.length_nil, lng_len, col_len, yes_len, pt_len, List.flatMap_cons, List.flatMap_nil, List.append_nil]); omega)).x ?_
      rintro v K22 W22 ⟨rfl, hW22, hS'⟩
      have gz := hS'.old _ _ (pb_no hI (Nat.le_refl _)) gz
      have hS : InkS H K22 p b (zs2 ++ yesO s.stroke ++ keysO s.width ++ colO s.line) := by
        have := hB.trans hS'
        exact this
      clear hB hS'
      have kd : ∀ n, decide (K22.length + n < H.length) = false := fun n => df (by have := hS.len; omega)
      have kd0 : decide (K22.length < H.length) = false := df (by have := hS.len; omega)
      (refine sg (et t0 (et t3 (et kd (et kd0 (et gz (old_get gz)))))) ?_; try exact ⟨⟩)
      have hB := hS.app [⟨[.int .i64 (s.cap), .int .i64 ((s.dash.length : Int))], 0, true⟩]
      refine (wsmall_ [s.cap, (s.dash.length : Int)] _ p b _ _ hB.ink (fun J o => ins_new hI [s.cap, (s.dash.length : Int)] (by simp) hS.len (by rw [hget_app0]; rfl) o) (by unfold roomP at hnB ⊢; (try simp only [List.length_append, List.length_cons, List.length_nil, lng_len, col_len, yes_len, pt_len, List.flatMap_cons, List.flatMap_nil, List.append_nil]); omega)).x ?_
      rintro v K23 W23 ⟨rfl, hW23, hS'⟩
      have gz := hS'.old _ _ (pb_no hI (Nat.le_refl _)) (old_get gz _)
      have hS : InkS H K23 p b (zs2 ++ yesO s.stroke ++ keysO s.width ++ colO s.line ++ [u8 s.cap, u8 s.dash.length]) := by
        have := hB.trans hS'
        exact this
      clear hB hS'
      have kd : ∀ n, decide (K23.length + n < H.length) = false := fun n => df (by have := hS.len; omega)
      have kd0 : decide (K23.length < H.length) = false := df (by have := hS.len; omega)
      (refine sg (et t0 (et t3 (et kd (et kd0 (et gz (old_get gz)))))) ?_; try exact ⟨⟩)
      have hB := hS
      refine (wwhole_ s.dash _ p b _ _ hB.ink (fun J o => (hv J (hB.old.trans o)).dash) (by unfold roomP at hnB ⊢; rw [lngs_len] at hnB; simp only [List.length_append, List.length_cons, List.length_nil, lng_len, col_len, yes_len, pt_len, List.flatMap_cons, List.flatMap_nil, List.append_nil]; omega)).x ?_
      rintro v K24 W24 ⟨rfl, hW24, hS'⟩
      have gz := hS'.old _ _ (pb_no hI (Nat.le_refl _)) gz
      have hS : InkS H K24 p b (zs2 ++ yesO s.stroke ++ keysO s.width ++ colO s.line ++ [u8 s.cap, u8 s.dash.length] ++ s.dash.flatMap lng) := by
        have := hB.trans hS'
        exact this
      clear hB hS'
      have kd : ∀ n, decide (K24.length + n < H.length) = false := fun n => df (by have := hS.len; omega)
      have kd0 : decide (K24.length < H.length) = false := df (by have := hS.len; omega)
      (refine sg (et t0 (et t3 (et kd (et kd0 (et gz (old_get gz)))))) ?_; try exact ⟨⟩)
      have hB := hS.app [⟨[.slice fa s.frm.length fe, .slice ta s.to.length te], 0, true⟩]
      refine (wkeys_ [s.frm, s.to] _ p b _ _ hB.ink (fun J o => kys_new hI [.slice fa s.frm.length fe, .slice ta s.to.length te] [s.frm, s.to] rfl (by simp) hS.len (by rw [hget_app0]; rfl) o (kys2 (hv J (hB.old.trans o)).frm (hv J (hB.old.trans o)).to)) (by unfold roomP at hnB ⊢; (try simp only [List.length_append, List.length_cons, List.length_nil, lng_len, col_len, yes_len, pt_len, List.flatMap_cons, List.flatMap_nil, List.append_nil]); omega)).x ?_
      rintro v K25 W25 ⟨rfl, hW25, hS'⟩
      have gz := hS'.old _ _ (pb_no hI (Nat.le_refl _)) (old_get gz _)
      have hS : InkS H K25 p b (zs2 ++ yesO s.stroke ++ keysO s.width ++ colO s.line ++ [u8 s.cap, u8 s.dash.length] ++ s.dash.flatMap lng ++ (keysO s.frm ++ keysO s.to)) := by
        have := hB.trans hS'
        rwa [show [s.frm, s.to].flatMap keysO = (keysO s.frm ++ keysO s.to) by simp] at this
      clear hB hS'
      have kd : ∀ n, decide (K25.length + n < H.length) = false := fun n => df (by have := hS.len; omega)
      have kd0 : decide (K25.length < H.length) = false := df (by have := hS.len; omega)
      (refine sg (et t0 (et t3 (et kd kd0))) ?_; try exact ⟨⟩)
      refine ⟨((((((hD).app hW20.filt).app hW21.filt).app hW22.filt).app hW23.filt).app hW24.filt).app hW25.filt, ?_⟩
      have e : xs ++ shO s = zs2 ++ yesO s.stroke ++ keysO s.width ++ colO s.line ++ [u8 s.cap, u8 s.dash.length] ++ s.dash.flatMap lng ++ (keysO s.frm ++ keysO s.to) := by
        rw [hzs2, hus, hzs, hys]
        simp [shO]
      rw [e]
      exact hS
end Go.Proofs.YtlcdbangmbdlcaaGreat
/- Writing: the walk of layer (printed by genLayer.py). -/
namespace Go.Proofs.YtlcdbangmbdlcaaGreat
open Go Go.RowKit E
attribute [local irreducible] XRun XOps XCode XCal XLoop XQ SemCall
set_option linter.unusedSimpArgs false
set_option linter.unusedVariables false
theorem kys9 {J : AH} {vs : List Value} {ls : List (List Ky)} (h : ∀ i, i < ls.length → ∃ v l, vs[i]? = some v ∧ ls[i]? = some l ∧ Kys J v l) : ∀ (i : Nat) v l, vs[i]? = some v → ls[i]? = some l → Kys J v l := fun i v l e1 e2 => by
  obtain ⟨v', l', h1, h2, h3⟩ := h i (List.getElem?_eq_some_iff.1 e2).1
  rw [e1] at h1; rw [e2] at h2; cases h1; cases h2; exact h3
def lyO0 (l : Ly) : List Int := if l.kind = 0 then shO l.shape else []
theorem ly_len (l : Ly) : (lyO l).length = 4 + 24 + (keysO l.x).length + (keysO l.y).length + (keysO l.ax).length + (keysO l.ay).length + (keysO l.sx).length + (keysO l.sy).length + (keysO l.turn).length + (keysO l.opac).length + (keysO l.remap).length + (pathO l.mask).length + (lyO0 l).length := by
  unfold lyO lyO0
  simp only [List.length_append, List.length_cons, List.length_nil, lng_len]
set_option maxHeartbeats 8000000 in
theorem wlayer_ (l : Ly) (v0 v1 v2 v3 v4 v5 v6 v7 v8 pm vw vh vp vc vd vda vf vt : Value) (p b : Nat) (xs : List Int) (H : AH) (hI : InkAt H p b xs) (hv : ∀ J, OlP (pbP p b) H J → LyV J l v0 v1 v2 v3 v4 v5 v6 v7 v8 pm ∧ ShV J l.shape vw vh vp vc vd vda vf vt) (hn : roomP (xs.length + (lyO l).length + 64)) :
    Cal Tryz.prog 20 [ap p 0 0, .agg (lyVs l v0 v1 v2 v3 v4 v5 v6 v7 v8 pm vw vh vp vc vd vda vf vt).toArray] H fun v' H' W => v' = .tuple #[] ∧ OnW W p b ∧ InkS H H' p b (xs ++ lyO l) := by
  refine of_x ?_
  have hO := ly_len l
  have hV := (hv H (OlP.refl _ _)).1
  have hW0 := (hv H (OlP.refl _ _)).2
  obtain ⟨a0, e0, rfl⟩ := hV.x.form
  obtain ⟨a1, e1, rfl⟩ := hV.y.form
  obtain ⟨a2, e2, rfl⟩ := hV.ax.form
  obtain ⟨a3, e3, rfl⟩ := hV.ay.form
  obtain ⟨a4, e4, rfl⟩ := hV.sx.form
  obtain ⟨a5, e5, rfl⟩ := hV.sy.form
  obtain ⟨a6, e6, rfl⟩ := hV.turn.form
  obtain ⟨a7, e7, rfl⟩ := hV.opac.form
  obtain ⟨a8, e8, rfl⟩ := hV.remap.form
  obtain ⟨qa, qe, rfl⟩ := hV.mask.form
  obtain ⟨s0, r0, rfl⟩ := hW0.w.form
  obtain ⟨s1, r1, rfl⟩ := hW0.h.form
  obtain ⟨s2, r2, rfl⟩ := hW0.paths.form
  obtain ⟨s3, r3, rfl⟩ := hW0.colors.form
  obtain ⟨s4, r4, rfl⟩ := hW0.width.form
  obtain ⟨s5, r5, rfl⟩ := hW0.dash.form
  obtain ⟨s6, r6, rfl⟩ := hW0.frm.form
  obtain ⟨s7, r7, rfl⟩ := hW0.to.form
  have kd : ∀ n, decide (H.length + n < H.length) = false := fun n => df (by omega)
  have kd0 : decide (H.length < H.length) = false := df (by omega)
  have hnB : roomP (xs.length + 4 + 24 + (keysO l.x).length + (keysO l.y).length + (keysO l.ax).length + (keysO l.ay).length + (keysO l.sx).length + (keysO l.sy).length + (keysO l.turn).length + (keysO l.opac).length + (keysO l.remap).length + (pathO l.mask).length + (lyO0 l).length + 64) := by unfold roomP at hn ⊢; omega
  refine XCal.of hm Tryz.func20 rfl (fun xs w => Tryz.call20 xs w) Tryz.ntmps20 Tryz.results20 rfl ?_
  (refine sg (et kd kd0) ?_; try exact ⟨⟩)
  have hB := (InkS.refl hI).app [⟨lyVs l (.slice a0 l.x.length e0) (.slice a1 l.y.length e1) (.slice a2 l.ax.length e2) (.slice a3 l.ay.length e3) (.slice a4 l.sx.length e4) (.slice a5 l.sy.length e5) (.slice a6 l.turn.length e6) (.slice a7 l.opac.length e7) (.slice a8 l.remap.length e8) (.slice qa l.mask.2.length qe) (.slice s0 l.shape.w.length r0) (.slice s1 l.shape.h.length r1) (.slice s2 l.shape.paths.length r2) (.slice s3 l.shape.colors.length r3) (.slice s4 l.shape.width.length r4) (.slice s5 l.shape.dash.length r5) (.slice s6 l.shape.frm.length r6) (.slice s7 l.shape.to.length r7), 0, true⟩, ⟨[.int .i64 l.kind, .int .i64 (IntKind.i64.wrap (l.parent + 1)), .int .i64 l.comp, .int .i64 l.matte], 0, true⟩]
  refine (wsmall_ [l.kind, IntKind.i64.wrap (l.parent + 1), l.comp, l.matte] _ p b _ _ hB.ink (fun J o => ins_new hI [l.kind, IntKind.i64.wrap (l.parent + 1), l.comp, l.matte] (by simp) (c := H.length + 1) (by omega) (by rw [hget_app]; rfl) o) (by unfold roomP at hnB ⊢; simp only [List.length_cons, List.length_nil]; omega)).x ?_
  rintro v K1 W1 ⟨rfl, hW1, hS'⟩
  have gz : K1[H.length]? = some ⟨lyVs l (.slice a0 l.x.length e0) (.slice a1 l.y.length e1) (.slice a2 l.ax.length e2) (.slice a3 l.ay.length e3) (.slice a4 l.sx.length e4) (.slice a5 l.sy.length e5) (.slice a6 l.turn.length e6) (.slice a7 l.opac.length e7) (.slice a8 l.remap.length e8) (.slice qa l.mask.2.length qe) (.slice s0 l.shape.w.length r0) (.slice s1 l.shape.h.length r1) (.slice s2 l.shape.paths.length r2) (.slice s3 l.shape.colors.length r3) (.slice s4 l.shape.width.length r4) (.slice s5 l.shape.dash.length r5) (.slice s6 l.shape.frm.length r6) (.slice s7 l.shape.to.length r7), 0, true⟩ := hS'.old _ _ (pb_no hI (Nat.le_refl _)) (by rw [hget_app0]; rfl)
  have hS : InkS H K1 p b (xs ++ [u8 l.kind, u8 (IntKind.i64.wrap (l.parent + 1)), u8 l.comp, u8 l.matte]) := hB.trans hS'
  clear hB hS'
  have kd : ∀ n, decide (K1.length + n < H.length) = false := fun n => df (by have := hS.len; omega)
  have kd0 : decide (K1.length < H.length) = false := df (by have := hS.len; omega)
  (refine sg (et kd (et kd0 (et gz (old_get gz)))) ?_; try exact ⟨⟩)
  have hB := hS.app [⟨[.int .i64 l.in_, .int .i64 l.out, .int .i64 l.start], 0, true⟩]
  refine (wwhole_ [l.in_, l.out, l.start] _ p b _ _ hB.ink (fun J o => ins_new hI [l.in_, l.out, l.start] (by simp) hS.len (by rw [hget_app0]; rfl) o) (by unfold roomP at hnB ⊢; (try simp only [List.length_append, List.length_cons, List.length_nil, lng_len, col_len, yes_len, pt_len, List.flatMap_cons, List.flatMap_nil, List.append_nil]); omega)).x ?_
  rintro v K2 W2 ⟨rfl, hW2, hS'⟩
  have gz := hS'.old _ _ (pb_no hI (Nat.le_refl _)) (old_get gz _)
  have hS : InkS H K2 p b (xs ++ [u8 l.kind, u8 (IntKind.i64.wrap (l.parent + 1)), u8 l.comp, u8 l.matte] ++ (lng l.in_ ++ lng l.out ++ lng l.start)) := by have := hB.trans hS'; rwa [show [l.in_, l.out, l.start].flatMap lng = (lng l.in_ ++ lng l.out ++ lng l.start) by simp] at this
  clear hB hS'
  have kd : ∀ n, decide (K2.length + n < H.length) = false := fun n => df (by have := hS.len; omega)
  have kd0 : decide (K2.length < H.length) = false := df (by have := hS.len; omega)
  (refine sg (et kd (et kd0 (et gz (old_get gz)))) ?_; try exact ⟨⟩)
  have hB := hS.app [⟨[.slice a0 l.x.length e0, .slice a1 l.y.length e1, .slice a2 l.ax.length e2, .slice a3 l.ay.length e3, .slice a4 l.sx.length e4, .slice a5 l.sy.length e5, .slice a6 l.turn.length e6, .slice a7 l.opac.length e7, .slice a8 l.remap.length e8], 0, true⟩]
  refine (wkeys_ [l.x, l.y, l.ax, l.ay, l.sx, l.sy, l.turn, l.opac, l.remap] _ p b _ _ hB.ink (fun J o => kys_new hI [.slice a0 l.x.length e0, .slice a1 l.y.length e1, .slice a2 l.ax.length e2, .slice a3 l.ay.length e3, .slice a4 l.sx.length e4, .slice a5 l.sy.length e5, .slice a6 l.turn.length e6, .slice a7 l.opac.length e7, .slice a8 l.remap.length e8] [l.x, l.y, l.ax, l.ay, l.sx, l.sy, l.turn, l.opac, l.remap] rfl (by simp) hS.len (by rw [hget_app0]; rfl) o (kys9 (fun i hi => by
    have hV' := (hv J (hB.old.trans o)).1
    match i, hi with
    | 0, _ => exact ⟨_, _, rfl, rfl, hV'.x⟩
    | 1, _ => exact ⟨_, _, rfl, rfl, hV'.y⟩
    | 2, _ => exact ⟨_, _, rfl, rfl, hV'.ax⟩
    | 3, _ => exact ⟨_, _, rfl, rfl, hV'.ay⟩
    | 4, _ => exact ⟨_, _, rfl, rfl, hV'.sx⟩
    | 5, _ => exact ⟨_, _, rfl, rfl, hV'.sy⟩
    | 6, _ => exact ⟨_, _, rfl, rfl, hV'.turn⟩
    | 7, _ => exact ⟨_, _, rfl, rfl, hV'.opac⟩
    | 8, _ => exact ⟨_, _, rfl, rfl, hV'.remap⟩))) (by unfold roomP at hnB ⊢; (try simp only [List.length_append, List.length_cons, List.length_nil, lng_len, col_len, yes_len, pt_len, List.flatMap_cons, List.flatMap_nil, List.append_nil]); omega)).x ?_
  rintro v K3 W3 ⟨rfl, hW3, hS'⟩
  have gz := hS'.old _ _ (pb_no hI (Nat.le_refl _)) (old_get gz _)
  have hS : InkS H K3 p b (xs ++ [u8 l.kind, u8 (IntKind.i64.wrap (l.parent + 1)), u8 l.comp, u8 l.matte] ++ (lng l.in_ ++ lng l.out ++ lng l.start) ++ (keysO l.x ++ keysO l.y ++ keysO l.ax ++ keysO l.ay ++ keysO l.sx ++ keysO l.sy ++ keysO l.turn ++ keysO l.opac ++ keysO l.remap)) := by have := hB.trans hS'; rwa [show [l.x, l.y, l.ax, l.ay, l.sx, l.sy, l.turn, l.opac, l.remap].flatMap keysO = (keysO l.x ++ keysO l.y ++ keysO l.ax ++ keysO l.ay ++ keysO l.sx ++ keysO l.sy ++ keysO l.turn ++ keysO l.opac ++ keysO l.remap) by simp] at this
  clear hB hS'
  have kd : ∀ n, decide (K3.length + n < H.length) = false := fun n => df (by have := hS.len; omega)
  have kd0 : decide (K3.length < H.length) = false := df (by have := hS.len; omega)
  (refine sg (et kd (et kd0 (et gz (old_get gz)))) ?_; try exact ⟨⟩)
  have hB := hS
  refine (wpath_ l.mask _ p b _ _ hB.ink (fun J o => (hv J (hB.old.trans o)).1.mask) (by unfold roomP at hnB ⊢; (try simp only [List.length_append, List.length_cons, List.length_nil, lng_len, col_len, yes_len, pt_len, List.flatMap_cons, List.flatMap_nil, List.append_nil]); omega)).x ?_
  rintro v K4 W4 ⟨rfl, hW4, hS'⟩
  have gz := hS'.old _ _ (pb_no hI (Nat.le_refl _)) gz
  have hS : InkS H K4 p b (xs ++ [u8 l.kind, u8 (IntKind.i64.wrap (l.parent + 1)), u8 l.comp, u8 l.matte] ++ (lng l.in_ ++ lng l.out ++ lng l.start) ++ (keysO l.x ++ keysO l.y ++ keysO l.ax ++ keysO l.ay ++ keysO l.sx ++ keysO l.sy ++ keysO l.turn ++ keysO l.opac ++ keysO l.remap) ++ pathO l.mask) := by have := hB.trans hS'; exact this
  clear hB hS'
  have kd : ∀ n, decide (K4.length + n < H.length) = false := fun n => df (by have := hS.len; omega)
  have kd0 : decide (K4.length < H.length) = false := df (by have := hS.len; omega)
  have e : xs ++ lyO l = xs ++ [u8 l.kind, u8 (IntKind.i64.wrap (l.parent + 1)), u8 l.comp, u8 l.matte] ++ (lng l.in_ ++ lng l.out ++ lng l.start) ++ (keysO l.x ++ keysO l.y ++ keysO l.ax ++ keysO l.ay ++ keysO l.sx ++ keysO l.sy ++ keysO l.turn ++ keysO l.opac ++ keysO l.remap) ++ pathO l.mask ++ lyO0 l := by simp [lyO, lyO0]
  rw [e]
  by_cases h0 : l.kind = 0
  · simp only [go_sem, Nat.reduceEqDiff, Nat.reduceAdd, Nat.reduceSub, Nat.reduceMul, Nat.reduceLT, Nat.reduceLeDiff, Int.reducePow, Int.reduceBEq, Int.reduceBNe, Int.reduceDiv, Int.reduceMod, Int.reduceEq, Int.reduceLT, Int.reduceLE, Int.reduceAdd, Int.reduceSub, Int.reduceMul, Int.reduceNeg, Int.reduceToNat, Int.reduceTDiv, Int.reduceTMod, ↓reduceIte, kd, kd0, gz, h0, beq_self_eq_true]
    have hl0 : lyO0 l = shO l.shape := by unfold lyO0; rw [if_pos h0]
    rw [hl0] at hnB ⊢
    refine (wshape_ l.shape _ _ _ _ _ _ _ _ p b _ _ hS.ink (fun J o => (hv J (hS.old.trans o)).2) (by unfold roomP at hnB ⊢; (try simp only [List.length_append, List.length_cons, List.length_nil, lng_len, col_len, yes_len, pt_len, List.flatMap_cons, List.flatMap_nil, List.append_nil]); omega)).x ?_
    rintro v K9 W9 ⟨rfl, hW9, hS'⟩
    have hS := hS.trans hS'
    (refine sg (et kd kd0) ?_; try exact ⟨⟩)
    exact ⟨(((hW1.filt.app hW2.filt).app hW3.filt).app hW4.filt).app hW9.filt, hS⟩
  · have hl0 : lyO0 l = [] := by unfold lyO0; rw [if_neg h0]
    rw [hl0, List.append_nil]
    (refine sg (et kd (et kd0 (et gz (bf h0)))) ?_; try exact ⟨⟩)
    exact ⟨((hW1.filt.app hW2.filt).app hW3.filt).app hW4.filt, hS⟩
end Go.Proofs.YtlcdbangmbdlcaaGreat
/- Writing: the walk of sums. -/
namespace Go.Proofs.YtlcdbangmbdlcaaGreat
open Go Go.RowKit E
attribute [local irreducible] XRun XOps XCode XCal XLoop XQ SemCall
set_option linter.unusedSimpArgs false
set_option linter.unusedVariables false
def ByE (_ : AH) (c : List Value) (x : Int) : Prop := c = [.int .u8 x]
abbrev Bys (K : AH) (v : Value) (l : List Int) : Prop := RowOf 1 ByE K v l
def sumS (s : Int × Int) (c : Int) : Int × Int :=
  let x := (IntKind.u32.wrap (s.1 + IntKind.u32.wrap c)).tmod 65521
  (x, (IntKind.u32.wrap (s.2 + x)).tmod 65521)
def sumP (l : List Int) : Int × Int := l.foldl sumS (1, 0)
theorem sumP_snoc (l : List Int) (c : Int) : sumP (l ++ [c]) = sumS (sumP l) c := by unfold sumP; rw [List.foldl_append]; rfl
theorem u32_mod (n : Int) : 0 ≤ (IntKind.u32.wrap n).tmod 65521 ∧ (IntKind.u32.wrap n).tmod 65521 < 65521 := by
  have h : 0 ≤ IntKind.u32.wrap n := by
    unfold IntKind.wrap
    simp [IntKind.signed, IntKind.bits]
    omega
  exact ⟨Int.tmod_nonneg _ h, Int.tmod_lt_of_pos _ (by omega)⟩
theorem sumP_lt (l : List Int) : 0 ≤ (sumP l).1 ∧ (sumP l).1 < 65521 ∧ 0 ≤ (sumP l).2 ∧ (sumP l).2 < 65521 := by
  have hs : ∀ s c, 0 ≤ (sumS s c).1 ∧ (sumS s c).1 < 65521 ∧ 0 ≤ (sumS s c).2 ∧ (sumS s c).2 < 65521 := fun s c => by
    have h1 := u32_mod (s.1 + IntKind.u32.wrap c)
    have h2 := u32_mod (s.2 + (IntKind.u32.wrap (s.1 + IntKind.u32.wrap c)).tmod 65521)
    exact ⟨h1.1, h1.2, h2.1, h2.2⟩
  unfold sumP
  have : ∀ (l : List Int) s, (0 ≤ s.1 ∧ s.1 < 65521 ∧ 0 ≤ s.2 ∧ s.2 < 65521) → 0 ≤ (l.foldl sumS s).1 ∧ (l.foldl sumS s).1 < 65521 ∧ 0 ≤ (l.foldl sumS s).2 ∧ (l.foldl sumS s).2 < 65521 := fun l => by
    induction l with
    | nil => exact fun s h => h
    | cons c l ih => exact fun s _ => ih _ (hs s c)
  exact this l _ (by decide)
def sumE (l : List Int) : Int := (sumP l).2 * 65536 + (sumP l).1
theorem wu32 (n : Int) : IntKind.u32.wrap n = n % 4294967296 := by
  simp [IntKind.wrap, IntKind.bits, IntKind.signed]
theorem or_u32 (a b : Nat) (ha : a < 4294967296) (hb : b < 4294967296) : bits .or .u32 (a : Int) (b : Int) = ((a ||| b : Nat) : Int) := by
  have h : a ||| b < 2 ^ 32 := Nat.or_lt_two_pow (by omega) (by omega)
  have hn : ∀ a : Nat, a < 4294967296 → (BitVec.ofInt 32 (a : Int)).toNat = a := fun a ha => by rw [BitVec.toNat_ofInt]; omega
  change IntKind.u32.wrap (((BitVec.ofInt 32 (a : Int)) ||| (BitVec.ofInt 32 (b : Int))).toNat : Int) = _
  rw [BitVec.toNat_or, hn a ha, hn b hb, wu32]; omega
theorem sum_or (l : List Int) : bits .or .u32 (IntKind.u32.wrap ((sumP l).2 * 65536)) (sumP l).1 = sumE l := by
  obtain ⟨h1, h2, h3, h4⟩ := sumP_lt l
  unfold sumE
  generalize (sumP l).1 = x at *
  generalize (sumP l).2 = y at *
  obtain ⟨x, rfl⟩ := Int.eq_ofNat_of_zero_le h1
  obtain ⟨y, rfl⟩ := Int.eq_ofNat_of_zero_le h3
  have e : IntKind.u32.wrap ((y : Int) * 65536) = ((y * 2 ^ 16 : Nat) : Int) := by rw [wu32]; omega
  rw [e, or_u32 _ _ (by omega) (by omega), or_add 16 y x (by omega)]
  omega
set_option maxHeartbeats 4000000 in
theorem wsum_ (l : List Int) (v : Value) (H : AH) (h : Bys H v l) : SemCall Tryz.prog 8 [v] H (.int .u32 (sumE l)) H [] := by
  refine pure_of ?_ rfl
  have hln := h.len
  obtain ⟨la, le, hlf⟩ := h.form
  subst hlf
  refine XCal.of hm Tryz.func8 rfl (fun xs w => Tryz.call8 xs w) Tryz.ntmps8 Tryz.results8 rfl ?_
  (refine sg trivial ?_; try exact ⟨⟩)
  refine keep (fun r T K D => D = [] ∧ K = H ∧ ∃ (i : Nat), i + r = l.length ∧ T 3 = .int .u32 (sumP (l.take i)).1 ∧ T 4 = .int .u32 (sumP (l.take i)).2 ∧ T 7 = .slice la l.length le ∧ T 8 = .int .i64 (l.length : Int) ∧ T 9 = .int .i64 (i : Int)) l.length
    ⟨rfl, rfl, 0, by omega, by (refine sg trivial ?_; try exact ⟨⟩) <;> rfl, by (refine sg trivial ?_; try exact ⟨⟩) <;> rfl, by (refine sg trivial ?_; try exact ⟨⟩), by (refine sg trivial ?_; try exact ⟨⟩), by (refine sg trivial ?_; try exact ⟨⟩) <;> rfl⟩ ?_
  rintro r T K D ⟨rfl, hK, i, hir, t3, t4, t7, t8, t9⟩
  subst hK
  by_cases hi : i < l.length
  · obtain ⟨x, hx⟩ : ∃ x, l[i]? = some x := ⟨_, List.getElem?_eq_getElem hi⟩
    obtain ⟨bl, gl, cells, rw_, c, hve, hb, hc, hcl, hle, hld, hgt⟩ := h.at hx
    have hc : c = [.int .u8 x] := hc
    subst hc
    have hc0 : cells[i * 1]? = some (.int .u8 x) := hgt 0 (by omega)
    rw [hve] at t7
    have q0 : (0 : Int) ≤ (i : Int) := by omega
    have q1 : (i : Int) < (l.length : Int) := by omega
    have w1 : IntKind.i64.wrap ((i : Int) + 1) = ((i + 1 : Nat) : Int) := by rw [wi (by omega) (by omega)]; rfl
    (refine sg (et t3 (et t4 (et t7 (et t8 (et t9 (et (dt q1) (et q0 (et q1 (et Int.toNat_natCast (et Nat.zero_add (et hb (et hc0 w1)))))))))))) ?_; try exact ⟨⟩)
    refine ⟨r - 1, by omega, i + 1, by omega, ?_, ?_, hve.symm, rfl⟩
    · rw [take_snoc hx, sumP_snoc]; rfl
    · rw [take_snoc hx, sumP_snoc]; rfl
  · have hi : i = l.length := by omega
    rw [show l.take i = l by rw [hi, List.take_length]] at t3 t4
    (refine sg (et t3 (et t4 (et t7 (et t8 (et t9 (df (show ¬ (i : Int) < (l.length : Int) by omega))))))) ?_; try exact ⟨⟩)
    rw [sum_or]
end Go.Proofs.YtlcdbangmbdlcaaGreat
/- Writing: the walk of write.Doc. -/
namespace Go.Proofs.YtlcdbangmbdlcaaGreat
open Go Go.RowKit E
attribute [local irreducible] XRun XOps XCode XCal XLoop XQ SemCall
set_option linter.unusedSimpArgs false
set_option linter.unusedVariables false
def sum4 (n : Int) : List Int := [u8 (n / 16777216), u8 (n / 65536), u8 (n / 256), u8 n]
theorem sumE_lt (l : List Int) : 0 ≤ sumE l ∧ sumE l < 4294967296 := by
  have := sumP_lt l
  unfold sumE; omega
def docO (d : Dc) : List Int := bodyO d ++ sum4 (sumE (bodyO d))
theorem mark_ok {P : Program} {H : AH} {t e : TypeId} {b n s : Nat} {cells : List Value} (h1 : tslice P t = some e) (h2 : tkind P e = some .u8) (h3 : tstr P t = false) (hk : H[b]? = some ⟨cells, 0, true⟩) (hn : 0 < n) {R : KV} :
    Kt P H t t (sl b 0 0 n s) (aconv P t t (sl b 0 0 n s)) = R.go (sl b 0 0 n s) H ⟨[b], some [b]⟩ :=
  kt_mark rfl rfl (by simp [abstr, h1, h2, h3]) (by simp [amark, sl, hk, h1, h2, hn])
theorem ink_bys {K : AH} {b g : Nat} {xs : List Int} (h : K[b]? = some ⟨byC xs, g, true⟩) (hl : xs.length ≤ 9223372036854775807) : Bys K (sl b 0 g xs.length 1) xs := by
  have hf : (xs.map fun x => [Value.int .u8 x]).flatten = byC xs := by
    clear h hl
    induction xs with
    | nil => rfl
    | cons x l ih => rw [List.map_cons, List.flatten_cons, ih]; rfl
  exact .inr ⟨b, g, [], true, xs.map fun x => [.int .u8 x], rfl, by rw [hf, List.append_nil]; exact h, List.length_map .., hl, fun i x hx => ⟨[.int .u8 x], by simp [hx], rfl, rfl⟩⟩
theorem filt_on {W : List Nat} {p b n : Nat} (h : OnW W p b) (hp : n ≤ p) (hb : n ≤ b) : W.filter (fun x => decide (x < n)) = [] := by
  rw [List.filter_eq_nil_iff]
  intro x hx
  have := h x hx
  simp; omega
set_option maxHeartbeats 8000000 in
theorem wdoc_ (d : Dc) (cv : Value) (H : AH) (h : Cos H cv d.comps) (hn : roomP ((bodyO d).length + 128)) :
    Cal Tryz.prog 12 [dcV d cv] H fun v' H' W => W = [] ∧ (∃ L, H' = H ++ L) ∧ ((¬ rightE d = 0 ∧ v' = .tuple #[nl, .int .i64 (rightE d)]) ∨ (rightE d = 0 ∧ (((1048576 : Int) < (docO d).length ∧ v' = .tuple #[nl, .int .i64 3]) ∨ (¬ (1048576 : Int) < (docO d).length ∧ ∃ bv, v' = .tuple #[bv, .int .i64 0] ∧ Dep H.length H' (fun J => Bys J bv (docO d)))))) := by
  refine adds_of ?_
  have kd : ∀ n, decide (H.length + n < H.length) = false := fun n => df (by omega)
  have kd0 : decide (H.length < H.length) = false := df (by omega)
  have hln := h.len
  obtain ⟨ca, ce, hcf⟩ := h.form
  subst hcf
  refine XCal.of hm Tryz.func12 rfl (fun xs w => Tryz.call12 xs w) Tryz.ntmps12 Tryz.results12 rfl ?_
  (refine sg (et kd kd0) ?_; try exact ⟨⟩)
  have c1 := fun L => dright_ d _ (H ++ L) (h.old CoE.m (Old.app' _ L))
  refine (c1 _).x ?_
  by_cases h0 : rightE d = 0
  · have hmk := fun {R : KV} => mark_ok (P := Tryz.prog) (t := 29) (e := 5) (R := R) (H := H ++ [(⟨[.int .i64 d.in_, .int .i64 d.out, .slice ca d.comps.length ce], 0, true⟩ : Blk), ⟨[.int .u8 75, .int .u8 86, .int .u8 65, .int .u8 49], 0, true⟩]) (b := H.length + 1) (n := 4) (s := 1) (by kernel_rfl) (by kernel_rfl) (by kernel_rfl) (by rw [hget_app]; rfl) (by omega)
    simp only [go_sem, Nat.reduceEqDiff, Nat.reduceAdd, Nat.reduceSub, Nat.reduceMul, Nat.reduceLT, Nat.reduceLeDiff, Int.reducePow, Int.reduceBEq, Int.reduceBNe, Int.reduceDiv, Int.reduceMod, Int.reduceEq, Int.reduceLT, Int.reduceLE, Int.reduceAdd, Int.reduceSub, Int.reduceMul, Int.reduceNeg, Int.reduceToNat, Int.reduceTDiv, Int.reduceTMod, ↓reduceIte, kd, kd0, nt h0, hmk]
    have hI : InkAt (H ++ [(⟨[.int .i64 d.in_, .int .i64 d.out, .slice ca d.comps.length ce], 0, true⟩ : Blk), ⟨[.int .u8 75, .int .u8 86, .int .u8 65, .int .u8 49], 0, true⟩, ⟨[sl (H.length + 1) 0 0 4 1], 0, true⟩, ⟨[.int .i64 d.in_, .int .i64 d.out], 0, true⟩]) (H.length + 2) (H.length + 1) [75, 86, 65, 49] := ⟨by omega, 0, by rw [hget_app]; rfl, by rw [hget_app]; rfl⟩
    have hbl : (bodyO d).length = 4 + 16 + 1 + (d.comps.flatMap coO).length := by unfold bodyO; simp only [List.length_append, List.length_cons, List.length_nil, lng_len]; omega
    refine (wwhole_ [d.in_, d.out] _ (H.length + 2) (H.length + 1) _ _ hI (fun J o => ins_new (H := H ++ [⟨[.int .i64 d.in_, .int .i64 d.out, .slice ca d.comps.length ce], 0, true⟩, ⟨[.int .u8 75, .int .u8 86, .int .u8 65, .int .u8 49], 0, true⟩, ⟨[sl (H.length + 1) 0 0 4 1], 0, true⟩]) (xs := [75, 86, 65, 49]) ⟨by omega, 0, by rw [hget_app]; rfl, by rw [hget_app]; rfl⟩ [d.in_, d.out] (by simp) (c := H.length + 3) (by simp) (by rw [hget_app]; rfl) o) (by unfold roomP at hn ⊢; simp only [List.length_cons, List.length_nil]; omega)).x ?_
    rintro v K1 W1 ⟨rfl, hW1, hS⟩
    have gB : (H ++ [(⟨[.int .i64 d.in_, .int .i64 d.out, .slice ca d.comps.length ce], 0, true⟩ : Blk), ⟨[.int .u8 75, .int .u8 86, .int .u8 65, .int .u8 49], 0, true⟩, ⟨[sl (H.length + 1) 0 0 4 1], 0, true⟩, ⟨[.int .i64 d.in_, .int .i64 d.out], 0, true⟩])[H.length]? = some ⟨[.int .i64 d.in_, .int .i64 d.out, .slice ca d.comps.length ce], 0, true⟩ := by rw [hget_app0]; rfl
    have oB : Old H (H ++ [(⟨[.int .i64 d.in_, .int .i64 d.out, .slice ca d.comps.length ce], 0, true⟩ : Blk), ⟨[.int .u8 75, .int .u8 86, .int .u8 65, .int .u8 49], 0, true⟩, ⟨[sl (H.length + 1) 0 0 4 1], 0, true⟩, ⟨[.int .i64 d.in_, .int .i64 d.out], 0, true⟩]) := Old.app' _ _
    have lB : (H ++ [(⟨[.int .i64 d.in_, .int .i64 d.out, .slice ca d.comps.length ce], 0, true⟩ : Blk), ⟨[.int .u8 75, .int .u8 86, .int .u8 65, .int .u8 49], 0, true⟩, ⟨[sl (H.length + 1) 0 0 4 1], 0, true⟩, ⟨[.int .i64 d.in_, .int .i64 d.out], 0, true⟩]).length = H.length + 4 := by simp
    generalize H ++ [(⟨[.int .i64 d.in_, .int .i64 d.out, .slice ca d.comps.length ce], 0, true⟩ : Blk), ⟨[.int .u8 75, .int .u8 86, .int .u8 65, .int .u8 49], 0, true⟩, ⟨[sl (H.length + 1) 0 0 4 1], 0, true⟩, ⟨[.int .i64 d.in_, .int .i64 d.out], 0, true⟩] = B at *
    clear hmk c1
    have nz : ¬ pbP (H.length + 2) (H.length + 1) H.length := fun e => by rcases e with e | e <;> omega
    have hOld : ∀ J, OlP (pbP (H.length + 2) (H.length + 1)) B J → Old H J := fun J o c k e => by
      have := (List.getElem?_eq_some_iff.1 e).1
      exact o c k (fun e => by rcases e with e | e <;> omega) (oB c k e)
    have fl : ∀ {W}, OnW W (H.length + 2) (H.length + 1) → W.filter (fun b => decide (b < H.length)) = [] := fun {W} h => filt_on h (by omega) (by omega)
    have gz := hS.old _ _ nz gB
    have hS : InkS B K1 (H.length + 2) (H.length + 1) ([75, 86, 65, 49] ++ (lng d.in_ ++ lng d.out)) := by rwa [show [d.in_, d.out].flatMap lng = lng d.in_ ++ lng d.out by simp] at hS
    have kd : ∀ n, decide (K1.length + n < H.length) = false := fun n => df (by have := hS.len; omega)
    have kd0 : decide (K1.length < H.length) = false := df (by have := hS.len; omega)
    (refine sg (et kd (et kd0 (et gz (et (old_get gz) (fl hW1))))) ?_; try exact ⟨⟩)
    have hB := hS.app [⟨[.int .i64 (d.comps.length : Int)], 0, true⟩]
    refine (wsmall_ [(d.comps.length : Int)] _ _ _ _ _ hB.ink (fun J o => ins_new hI [(d.comps.length : Int)] (by simp) hS.len (by rw [hget_app0]; rfl) o) (by unfold roomP at hn ⊢; simp only [List.length_append, List.length_cons, List.length_nil, lng_len]; omega)).x ?_
    rintro v K2 W2 ⟨rfl, hW2, hS'⟩
    have gz := hS'.old _ _ nz (old_get gz _)
    have hS : InkS B K2 (H.length + 2) (H.length + 1) ([75, 86, 65, 49] ++ (lng d.in_ ++ lng d.out) ++ [u8 d.comps.length]) := hB.trans hS'
    clear hB hS'
    obtain ⟨ys, hys⟩ : ∃ ys, ys = [75, 86, 65, 49] ++ (lng d.in_ ++ lng d.out) ++ [u8 (d.comps.length : Int)] := ⟨_, rfl⟩
    have hyl : ys.length = 21 := by rw [hys]; simp only [List.length_append, List.length_cons, List.length_nil, lng_len]
    rw [← hys] at hS
    (refine sg (et gz (et (fl hW1) (fl hW2))) ?_; try exact ⟨⟩)
    refine keep (fun r T K D => D = [] ∧ ∃ (i : Nat), i + r = d.comps.length ∧ InkS B K (H.length + 2) (H.length + 1) (ys ++ (d.comps.take i).flatMap coO) ∧ T 1 = ap H.length 0 0 ∧ T 5 = ap (H.length + 2) 0 0 ∧ T 34 = .slice ca d.comps.length ce ∧ T 35 = .int .i64 (d.comps.length : Int) ∧ T 36 = .int .i64 (i : Int)) d.comps.length
      ⟨rfl, 0, by omega, by simpa using hS, by (refine sg trivial ?_; try exact ⟨⟩), by (refine sg trivial ?_; try exact ⟨⟩), by (refine sg trivial ?_; try exact ⟨⟩), by (refine sg trivial ?_; try exact ⟨⟩), by (refine sg trivial ?_; try exact ⟨⟩) <;> rfl⟩ ?_
    clear hS gz hW1 hW2 kd kd0 hI
    rintro r T K D ⟨rfl, i, hir, hS, t1, t5, t34, t35, t36⟩
    have hI := hS.ink
    have kd : ∀ n, decide (K.length + n < H.length) = false := fun n => df (by have := hS.len; omega)
    have kd0 : decide (K.length < H.length) = false := df (by have := hS.len; omega)
    by_cases hi : i < d.comps.length
    · obtain ⟨l, hx⟩ : ∃ l, d.comps[i]? = some l := ⟨_, List.getElem?_eq_getElem hi⟩
      obtain ⟨b2, g2, cells2, rw2, c, hve2, hpb2, hb2, hcl2, hld2, hE⟩ := row_el (fun J o => h.old CoE.m (hOld J (hS.old.trans o))) hx
      obtain ⟨lv, rfl, _⟩ := hE K (OlP.refl _ _)
      have hL : ∀ J, OlP (pbP (H.length + 2) (H.length + 1)) K J → Lys J lv l := fun J o => by
        obtain ⟨lv', e, hh⟩ := hE J o
        cases e; exact hh
      have hll := (hL K (OlP.refl _ _)).len
      obtain ⟨la, le, rfl⟩ := (hL K (OlP.refl _ _)).form
      clear hE
      rw [hve2] at t34
      have q0 : (0 : Int) ≤ (i : Int) := by omega
      have q1 : (i : Int) < (d.comps.length : Int) := by omega
      have w1 : IntKind.i64.wrap ((i : Int) + 1) = ((i + 1 : Nat) : Int) := by rw [wi (by omega) (by omega)]; rfl
      have hat := flat_at (f := coO) hx
      have hcO : (coO l).length = 1 + (l.flatMap lyO).length := by unfold coO; rw [List.length_cons]; omega
      (refine sg (et t1 (et t5 (et t34 (et t35 (et t36 (et (dt q1) (et q0 (et q1 (et Int.toNat_natCast (et Nat.zero_add (et hb2 (et hld2 (et kd kd0))))))))))))) ?_; try exact ⟨⟩)
      have hB := hS.app [⟨[.slice la l.length le], 0, true⟩, ⟨[.int .i64 (l.length : Int)], 0, true⟩]
      refine (wsmall_ [(l.length : Int)] _ _ _ _ _ hB.ink (fun J o => ins_new hI [(l.length : Int)] (by simp) (c := K.length + 1) (by omega) (by rw [hget_app]; rfl) o) (by unfold roomP at hn ⊢; simp only [List.length_append, List.length_cons, List.length_nil]; omega)).x ?_
      rintro v K3 W3 ⟨rfl, hW3, hS'⟩
      have gc : K3[K.length]? = some ⟨[.slice la l.length le], 0, true⟩ := hS'.old _ _ (pb_no hI (Nat.le_refl _)) (by rw [hget_app0]; rfl)
      have hL3 : ∀ J, OlP (pbP (H.length + 2) (H.length + 1)) K3 J → Lys J (.slice la l.length le) l := fun J o => hL J (((OlP.old (Old.app' _ _)).trans hS'.old).trans o)
      have hS3 : InkS B K3 (H.length + 2) (H.length + 1) (ys ++ (d.comps.take i).flatMap coO ++ [u8 l.length]) := hB.trans hS'
      clear hB hS' hL hS
      (refine sg (et t1 (et t5 (et t34 (et t35 (et t36 (et gc (et kd (et kd0 (fl hW3))))))))) ?_; try exact ⟨⟩)
      refine keep (fun r T V D => D = [] ∧ ∃ (j : Nat), j + r = l.length ∧ InkS B V (H.length + 2) (H.length + 1) (ys ++ (d.comps.take i).flatMap coO ++ [u8 l.length] ++ (l.take j).flatMap lyO) ∧ OlP (pbP (H.length + 2) (H.length + 1)) K3 V ∧ T 1 = ap H.length 0 0 ∧ T 5 = ap (H.length + 2) 0 0 ∧ T 34 = sl b2 0 g2 d.comps.length 1 ∧ T 35 = .int .i64 (d.comps.length : Int) ∧ T 36 = .int .i64 (i : Int) ∧ T 47 = .slice la l.length le ∧ T 48 = .int .i64 (l.length : Int) ∧ T 49 = .int .i64 (j : Int)) l.length
        ⟨rfl, 0, by omega, by simpa using hS3, OlP.refl _ _, by (refine sg t1 ?_; try exact ⟨⟩), by (refine sg t5 ?_; try exact ⟨⟩), by (refine sg t34 ?_; try exact ⟨⟩), by (refine sg t35 ?_; try exact ⟨⟩), by (refine sg t36 ?_; try exact ⟨⟩), by (refine sg trivial ?_; try exact ⟨⟩), by (refine sg trivial ?_; try exact ⟨⟩), by (refine sg trivial ?_; try exact ⟨⟩) <;> rfl⟩ ?_
      clear hS3 gc hW3 kd kd0 t1 t5 t34 t35 t36
      rintro r2 T2 V D ⟨rfl, j, hjr, hS, o3, s1, s5, s34, s35, s36, s47, s48, s49⟩
      have kd : ∀ n, decide (V.length + n < H.length) = false := fun n => df (by have := hS.len; omega)
      have kd0 : decide (V.length < H.length) = false := df (by have := hS.len; omega)
      by_cases hj : j < l.length
      · obtain ⟨y, hy⟩ : ∃ y, l[j]? = some y := ⟨_, List.getElem?_eq_getElem hj⟩
        obtain ⟨b4, g4, cells4, rw4, c, hve4, hpb4, hb4, hcl4, hld4, hE⟩ := row_el (fun J o => hL3 J (o3.trans o)) hy
        obtain ⟨v0, v1, v2, v3, v4, v5, v6, v7, v8, pm, vw, vh, vp, vc, vd, vda, vf, vt, rfl, _, _⟩ := hE V (OlP.refl _ _)
        have hV : ∀ J, OlP (pbP (H.length + 2) (H.length + 1)) V J → LyV J y v0 v1 v2 v3 v4 v5 v6 v7 v8 pm ∧ ShV J y.shape vw vh vp vc vd vda vf vt := fun J o => by
          obtain ⟨v0', v1', v2', v3', v4', v5', v6', v7', v8', pm', vw', vh', vp', vc', vd', vda', vf', vt', e, h1, h2⟩ := hE J o
          cases e; exact ⟨h1, h2⟩
        clear hE
        obtain ⟨a0, e0, rfl⟩ := (hV V (OlP.refl _ _)).1.x.form
        obtain ⟨a1, e1, rfl⟩ := (hV V (OlP.refl _ _)).1.y.form
        obtain ⟨a2, e2, rfl⟩ := (hV V (OlP.refl _ _)).1.ax.form
        obtain ⟨a3, e3, rfl⟩ := (hV V (OlP.refl _ _)).1.ay.form
        obtain ⟨a4, e4, rfl⟩ := (hV V (OlP.refl _ _)).1.sx.form
        obtain ⟨a5, e5, rfl⟩ := (hV V (OlP.refl _ _)).1.sy.form
        obtain ⟨a6, e6, rfl⟩ := (hV V (OlP.refl _ _)).1.turn.form
        obtain ⟨a7, e7, rfl⟩ := (hV V (OlP.refl _ _)).1.opac.form
        obtain ⟨a8, e8, rfl⟩ := (hV V (OlP.refl _ _)).1.remap.form
        obtain ⟨a9, e9, rfl⟩ := (hV V (OlP.refl _ _)).1.mask.form
        obtain ⟨c0, f0, rfl⟩ := (hV V (OlP.refl _ _)).2.w.form
        obtain ⟨c1, f1, rfl⟩ := (hV V (OlP.refl _ _)).2.h.form
        obtain ⟨c2, f2, rfl⟩ := (hV V (OlP.refl _ _)).2.paths.form
        obtain ⟨c3, f3, rfl⟩ := (hV V (OlP.refl _ _)).2.colors.form
        obtain ⟨c4, f4, rfl⟩ := (hV V (OlP.refl _ _)).2.width.form
        obtain ⟨c5, f5, rfl⟩ := (hV V (OlP.refl _ _)).2.dash.form
        obtain ⟨c6, f6, rfl⟩ := (hV V (OlP.refl _ _)).2.frm.form
        obtain ⟨c7, f7, rfl⟩ := (hV V (OlP.refl _ _)).2.to.form
        rw [hve4] at s47
        have q0 : (0 : Int) ≤ (j : Int) := by omega
        have q1 : (j : Int) < (l.length : Int) := by omega
        have w2 : IntKind.i64.wrap ((j : Int) + 1) = ((j + 1 : Nat) : Int) := by rw [wi (by omega) (by omega)]; rfl
        have hat2 := flat_at (f := lyO) hy
        (refine sg (et s1 (et s5 (et s34 (et s35 (et s36 (et s47 (et s48 (et s49 (et (dt q1) (et q0 (et q1 (et Int.toNat_natCast (et Nat.zero_add (et hb4 (et hld4 (et kd kd0)))))))))))))))) ?_; try exact ⟨⟩)
        have hB := hS.app [⟨lyVs y (.slice a0 y.x.length e0) (.slice a1 y.y.length e1) (.slice a2 y.ax.length e2) (.slice a3 y.ay.length e3) (.slice a4 y.sx.length e4) (.slice a5 y.sy.length e5) (.slice a6 y.turn.length e6) (.slice a7 y.opac.length e7) (.slice a8 y.remap.length e8) (.slice a9 y.mask.2.length e9) (.slice c0 y.shape.w.length f0) (.slice c1 y.shape.h.length f1) (.slice c2 y.shape.paths.length f2) (.slice c3 y.shape.colors.length f3) (.slice c4 y.shape.width.length f4) (.slice c5 y.shape.dash.length f5) (.slice c6 y.shape.frm.length f6) (.slice c7 y.shape.to.length f7), 0, true⟩]
        refine (wlayer_ y _ _ _ _ _ _ _ _ _ _ _ _ _ _ _ _ _ _ _ _ _ _ hB.ink (fun J o => hV J ((OlP.old (Old.app' _ _)).trans o)) (by unfold roomP at hn ⊢; simp only [List.length_append, List.length_cons, List.length_nil]; omega)).x ?_
        rintro v K5 W5 ⟨rfl, hW5, hS'⟩
        have o5 := (o3.trans (OlP.old (Old.app' _ _))).trans hS'.old
        have hS5 := hB.trans hS'
        (refine sg (et s1 (et s5 (et s34 (et s35 (et s36 (et s47 (et s48 (et s49 (et kd (et kd0 (et (fl hW5) w2))))))))))) ?_; try exact ⟨⟩)
        refine ⟨r2 - 1, by omega, j + 1, by omega, ?_, o5, hve4.symm, rfl⟩
        rw [take_snoc hy, List.flatMap_append, List.flatMap_singleton, ← List.append_assoc]
        exact hS5
      · have hjl : j = l.length := by omega
        rw [show l.take j = l by rw [hjl, List.take_length]] at hS
        (refine sg (et s1 (et s5 (et s34 (et s35 (et s36 (et s47 (et s48 (et s49 (et (df (show ¬ (j : Int) < (l.length : Int) by omega)) w1))))))))) ?_; try exact ⟨⟩)
        refine ⟨r - 1, by omega, i + 1, by omega, ?_, hve2.symm, rfl⟩
        rw [take_snoc hx, List.flatMap_append, List.flatMap_singleton, ← List.append_assoc, show coO l = [u8 l.length] ++ l.flatMap lyO from rfl, ← List.append_assoc]
        exact hS
    · have hi : i = d.comps.length := by omega
      rw [show d.comps.take i = d.comps by rw [hi, List.take_length], show ys ++ d.comps.flatMap coO = bodyO d by rw [hys]; simp [bodyO]] at hS
      obtain ⟨hne, g, gp, gb⟩ := hS.ink
      have hbd : (bodyO d).length ≤ 9223372036854775807 := by unfold roomP at hn; omega
      (refine sg (et t1 (et t5 (et t34 (et t35 (et t36 (et (df (show ¬ (i : Int) < (d.comps.length : Int) by omega)) gp)))))) ?_; try exact ⟨⟩)
      refine (wsum_ (bodyO d) _ K (ink_bys gb hbd)).x ?_
      obtain ⟨n0, n1⟩ := sumE_lt (bodyO d)
      have hdl : (docO d).length = (bodyO d).length + 4 := by unfold docO sum4; rw [List.length_append]; rfl
      have hdO : bodyO d ++ [sumE (bodyO d) / 16777216, sumE (bodyO d) / 65536, sumE (bodyO d) / 256, sumE (bodyO d)].map u8 = docO d := rfl
      generalize sumE (bodyO d) = n at *
      have e1 : IntKind.i64.wrap (n / 16777216) = n / 16777216 := wi (by omega) (by omega)
      have e2 : IntKind.i64.wrap (n / 65536) = n / 65536 := wi (by omega) (by omega)
      have e3 : IntKind.i64.wrap (n / 256) = n / 256 := wi (by omega) (by omega)
      have e4 : IntKind.i64.wrap n = n := wi (by omega) (by omega)
      (refine sg (et t1 (et t5 (et kd (et kd0 (et e1 (et e2 (et e3 e4))))))) ?_; try exact ⟨⟩)
      have hB := hS.app [⟨[.int .i64 (n / 16777216), .int .i64 (n / 65536), .int .i64 (n / 256), .int .i64 n], 0, true⟩]
      refine (wsmall_ [n / 16777216, n / 65536, n / 256, n] _ _ _ _ _ hB.ink (fun J o => ins_new hI [n / 16777216, n / 65536, n / 256, n] (by simp) (c := K.length) (Nat.le_refl _) (by rw [hget_app0]; rfl) o) (by unfold roomP at hn ⊢; simp only [List.length_cons, List.length_nil]; omega)).x ?_
      rintro v K6 W6 ⟨rfl, hW6, hS'⟩
      have hS6 := hB.trans hS'
      rw [hdO] at hS6
      obtain ⟨_, g6, gp6, gb6⟩ := hS6.ink
      have l6 := hS6.len
      by_cases hbig : (1048576 : Int) < (docO d).length
      · (refine sg (et t1 (et t5 (et gp6 (et (fl hW6) (et (dt hbig) (show ((docO d).length : Int) > 1048576 from hbig)))))) ?_; try exact ⟨⟩)
        exact .inr ⟨h0, .inl trivial⟩
      · (refine sg (et t1 (et t5 (et gp6 (et (fl hW6) (df hbig))))) ?_; try exact ⟨⟩)
        exact .inr ⟨h0, .inr ⟨hbig, _, rfl, fun J hJ => ink_bys (hJ _ _ (by omega) gb6) (by unfold roomP at hn; omega)⟩⟩
  · (refine sg (et kd (et kd0 (nf h0))) ?_; try exact ⟨⟩)
    exact .inl h0
end Go.Proofs.YtlcdbangmbdlcaaGreat
/- Writing: the walks of the document's answer's small things. -/
namespace Go.Proofs.YtlcdbangmbdlcaaGreat
open Go Go.RowKit E
attribute [local irreducible] XRun XOps XCode XCal XLoop XQ SemCall
set_option linter.unusedSimpArgs false
set_option linter.unusedVariables false
theorem rwsmall_ (n : Int) (p b : Nat) (xs : List Int) (H : AH) (hI : InkAt H p b xs) (hn : roomP (xs.length + 1)) :
    Cal Tryz.prog 44 [ap p 0 0, .int .i64 n] H fun v' H' W => v' = .tuple #[] ∧ OnW W p b ∧ InkS H H' p b (xs ++ [u8 n]) := by
  refine of_x ?_
  have kd : ∀ n, decide (H.length + n < H.length) = false := fun n => df (by omega)
  have kd0 : decide (H.length < H.length) = false := df (by omega)
  obtain ⟨hpl, hbl⟩ := hI.lt
  have dp : decide (p < H.length) = true := dt hpl
  have db : decide (b < H.length) = true := dt hbl
  obtain ⟨hne, g, gp, gb⟩ := hI
  have hbc : xs.length * 1 = (byC xs).length := by rw [byC_len, Nat.mul_one]
  obtain ⟨r1, r2⟩ := room1 hn
  refine XCal.of hm Tryz.func44 rfl (fun xs w => Tryz.call44 xs w) Tryz.ntmps44 Tryz.results44 rfl ?_
  (refine sg (et kd (et kd0 (et dp (et db (et gp (et (old_get gp) (et gb (et (old_get gb) (et (old_set gb) (et (ink_get hne gp) (et hbc (et r1 r2)))))))))))) ?_; try exact ⟨⟩)
  exact ⟨OnW.one.1, (InkS.refl ⟨hne, g, gp, gb⟩).put _ _ (by rw [List.length_append]; rfl) (byC_app xs [u8 n])⟩
set_option maxHeartbeats 4000000 in
theorem rwlong_ (x : Int) (p b : Nat) (xs : List Int) (H : AH) (hI : InkAt H p b xs) (hn : roomP (xs.length + 8)) :
    Cal Tryz.prog 43 [ap p 0 0, .int .i64 x] H fun v' H' W => v' = .tuple #[] ∧ OnW W p b ∧ InkS H H' p b (xs ++ lng x) := by
  refine of_x ?_
  obtain ⟨hpl, hbl⟩ := hI.lt
  have dp : decide (p < H.length) = true := dt hpl
  have db : decide (b < H.length) = true := dt hbl
  refine XCal.of hm Tryz.func43 rfl (fun xs w => Tryz.call43 xs w) Tryz.ntmps43 Tryz.results43 rfl ?_
  (refine sg trivial ?_; try exact ⟨⟩)
  refine keep (fun r T K D => OnW D p b ∧ ∃ (j : Nat), j + r = 8 ∧ InkS H K p b (xs ++ (lng x).take j) ∧ T 0 = ap p 0 0 ∧ T 1 = .int .i64 x ∧ T 4 = .int .i64 (56 - 8 * (j : Int))) 8
    ⟨OnW.nil _ _, 0, by omega, by simpa using InkS.refl hI, by (refine sg trivial ?_; try exact ⟨⟩), by (refine sg trivial ?_; try exact ⟨⟩), by (refine sg trivial ?_; try exact ⟨⟩) <;> rfl⟩ ?_
  rintro r2 T2 K D ⟨hD, j, hjr, hS, s0, s1, s4⟩
  have kd : ∀ n, decide (K.length + n < H.length) = false := fun n => df (by have := hS.len; omega)
  have kd0 : decide (K.length < H.length) = false := df (by have := hS.len; omega)
  by_cases hj : j < 8
  · obtain ⟨hne, g, gp, gb⟩ := hS.ink
    have hl : (xs ++ (lng x).take j).length = xs.length + j := by rw [List.length_append, List.length_take, lng_len]; omega
    rw [hl] at gp
    obtain ⟨r1, r2'⟩ := room1 (n := xs.length + j) (by unfold roomP at hn ⊢; omega)
    have hbc : (xs.length + j) * 1 = (byC (xs ++ (lng x).take j)).length := by rw [byC_len, hl, Nat.mul_one]
    have hsh : ∀ {t yk}, abin Tryz.prog .shr t (.int .i64 x) (.int yk (56 - 8 * (j : Int))) = some (.int .i64 (x.fdiv (2 ^ (56 - 8 * j)))) := fun {t yk} => by
      rw [abin_shrv (by omega), show (56 - 8 * (j : Int)).toNat = 56 - 8 * j by omega, Nat.min_eq_left (by show 56 - 8 * j ≤ 64; omega)]
    have w2 : IntKind.i64.wrap (56 - 8 * (j : Int) - 8) = 56 - 8 * ((j + 1 : Nat) : Int) := by rw [wi (by omega) (by omega)]; omega
    have w3 : IntKind.u64.wrap (56 - 8 * (j : Int)) = 56 - 8 * (j : Int) := by rw [wu64]; omega
    (refine sg (et s0 (et s1 (et s4 (et (dt (show (0 : Int) ≤ 56 - 8 * (j : Int) by omega)) (show (56 - 8 * (j : Int) ≥ 0) = True by simp; omega))))) ?_; try exact ⟨⟩)
    simp only [go_sem, Nat.reduceEqDiff, Nat.reduceAdd, Nat.reduceSub, Nat.reduceMul, Nat.reduceLT, Nat.reduceLeDiff, Int.reducePow, Int.reduceBEq, Int.reduceBNe, Int.reduceDiv, Int.reduceMod, Int.reduceEq, Int.reduceLT, Int.reduceLE, Int.reduceAdd, Int.reduceSub, Int.reduceMul, Int.reduceNeg, Int.reduceToNat, Int.reduceTDiv, Int.reduceTMod, ↓reduceIte, s0, s1, s4, hsh, w3, kd, kd0, dp, db, gp, old_get gp, old_get gb, old_set gb, ink_get hne gp, hbc, r1, r2', w2]
    refine ⟨r2 - 1, by omega, (hD.app OnW.one.2.2.1).app OnW.one.2.1, j + 1, by omega, hS.put _ _ (by rw [List.length_append, List.length_take, lng_len]; omega) (by rw [lng_take x hj, ← List.append_assoc]; exact byC_app _ [lngAt x j]), rfl⟩
  · have hj8 : j = 8 := by omega
    subst hj8
    rw [show (lng x).take 8 = lng x from List.take_of_length_le (by rw [lng_len]; omega)] at hS
    simp only [go_sem, Nat.reduceEqDiff, Nat.reduceAdd, Nat.reduceSub, Nat.reduceMul, Nat.reduceLT, Nat.reduceLeDiff, Int.reducePow, Int.reduceBEq, Int.reduceBNe, Int.reduceDiv, Int.reduceMod, Int.reduceEq, Int.reduceLT, Int.reduceLE, Int.reduceAdd, Int.reduceSub, Int.reduceMul, Int.reduceNeg, Int.reduceToNat, Int.reduceTDiv, Int.reduceTMod, ↓reduceIte, s0, s1, s4, Int.reduceMul, Int.reduceSub]
    exact ⟨hD, hS⟩
theorem rwyes_ (v : Bool) (p b : Nat) (xs : List Int) (H : AH) (hI : InkAt H p b xs) (hn : roomP (xs.length + 1)) :
    Cal Tryz.prog 70 [ap p 0 0, .bool v] H fun v' H' W => v' = .tuple #[] ∧ OnW W p b ∧ InkS H H' p b (xs ++ yesO v) := by
  refine of_x ?_
  cases v with
  | true =>
    refine XCal.of hm Tryz.func70 rfl (fun xs w => Tryz.call70 xs w) Tryz.ntmps70 Tryz.results70 rfl ?_
    (refine sg trivial ?_; try exact ⟨⟩)
    refine (rwsmall_ 1 p b xs _ hI hn).x ?_
    rintro v H1 W ⟨rfl, hW, hS⟩
    (refine sg trivial ?_; try exact ⟨⟩)
    rw [u8_1] at hS
    exact ⟨hW.filt, hS⟩
  | false =>
    refine XCal.of hm Tryz.func70 rfl (fun xs w => Tryz.call70 xs w) Tryz.ntmps70 Tryz.results70 rfl ?_
    (refine sg trivial ?_; try exact ⟨⟩)
    refine (rwsmall_ 0 p b xs _ hI hn).x ?_
    rintro v H1 W ⟨rfl, hW, hS⟩
    (refine sg trivial ?_; try exact ⟨⟩)
    rw [u8_0] at hS
    exact ⟨hW.filt, hS⟩
theorem rwcolor_ (c : C4) (p b : Nat) (xs : List Int) (H : AH) (hI : InkAt H p b xs) (hn : roomP (xs.length + 4)) :
    Cal Tryz.prog 71 [ap p 0 0, .agg (c4C c).toArray] H fun v' H' W => v' = .tuple #[] ∧ OnW W p b ∧ InkS H H' p b (xs ++ colO c) := by
  refine of_x ?_
  have kd : ∀ n, decide (H.length + n < H.length) = false := fun n => df (by omega)
  have kd0 : decide (H.length < H.length) = false := df (by omega)
  obtain ⟨hpl, hbl⟩ := hI.lt
  have dp : decide (p < H.length) = true := dt hpl
  have db : decide (b < H.length) = true := dt hbl
  obtain ⟨hne, g, gp, gb⟩ := hI
  have hbc : xs.length * 1 = (byC xs).length := by rw [byC_len, Nat.mul_one]
  have r2 : xs.length + 4 - 140737488355328 = 0 := Nat.sub_eq_zero_of_le (Nat.le_trans hn (by decide))
  have r1 : (xs.length + 4) * 1 - 140737488355328 = 0 := by rw [Nat.mul_one]; exact r2
  refine XCal.of hm Tryz.func71 rfl (fun xs w => Tryz.call71 xs w) Tryz.ntmps71 Tryz.results71 rfl ?_
  (refine sg kd0 ?_; try exact ⟨⟩)
  first | refine drawnF ?_ (by decide +kernel) | refine drawnU [(0, 14)] (by decide +kernel) ?_
  (refine sg (et kd (et kd0 (et dp (et db (et gp (et (old_get gp) (et gb (et (old_get gb) (et (old_set gb) (et (ink_get hne gp) (et hget_app0 (et hbc (et r1 r2))))))))))))) ?_; try exact ⟨⟩)
  exact ⟨OnW.one.1, (InkS.refl ⟨hne, g, gp, gb⟩).put _ _ (by rw [List.length_append]; rfl) (byC_app xs (colO c))⟩
theorem rwhow_ (how : Int) (e : Ez) (p b : Nat) (xs : List Int) (H : AH) (hI : InkAt H p b xs) (hn : roomP (xs.length + 33)) :
    Cal Tryz.prog 69 [ap p 0 0, .int .i64 how, .agg (ezC e).toArray] H fun v' H' W => v' = .tuple #[] ∧ OnW W p b ∧ InkS H H' p b (xs ++ easeO how e) := by
  refine of_x ?_
  have kd : ∀ n, decide (H.length + n < H.length) = false := fun n => df (by omega)
  have kd0 : decide (H.length < H.length) = false := df (by omega)
  refine XCal.of hm Tryz.func69 rfl (fun xs w => Tryz.call69 xs w) Tryz.ntmps69 Tryz.results69 rfl ?_
  (refine sg (et kd kd0) ?_; try exact ⟨⟩)
  have hB := (InkS.refl hI).app [⟨ezC e, 0, true⟩]
  refine (rwsmall_ how p b xs _ hB.ink (by unfold roomP at hn ⊢; omega)).x ?_
  rintro v H1 W1 ⟨rfl, hW1, hS⟩
  have gz : H1[H.length]? = some ⟨ezC e, 0, true⟩ := hS.old _ _ (pb_no hI (Nat.le_refl _)) (by rw [hget_app0]; rfl)
  have hS := hB.trans hS
  by_cases h2 : how = 2
  · subst h2
    simp only [go_sem, Nat.reduceEqDiff, Nat.reduceAdd, Nat.reduceSub, Nat.reduceMul, Nat.reduceLT, Nat.reduceLeDiff, Int.reducePow, Int.reduceBEq, Int.reduceBNe, Int.reduceDiv, Int.reduceMod, Int.reduceEq, Int.reduceLT, Int.reduceLE, Int.reduceAdd, Int.reduceSub, Int.reduceMul, Int.reduceNeg, Int.reduceToNat, Int.reduceTDiv, Int.reduceTMod, ↓reduceIte, gz, beq_self_eq_true]
    refine (rwlong_ e.x1 p b _ _ hS.ink (by unfold roomP at hn ⊢; simp only [List.length_append, List.length_cons, List.length_nil, lng_len]; omega)).x ?_
    rintro v H2 W2 ⟨rfl, hW2, hS2⟩
    have gz2 := hS2.old _ _ (pb_no hI (Nat.le_refl _)) gz
    have hS := hS.trans hS2
    (refine sg gz2 ?_; try exact ⟨⟩)
    refine (rwlong_ e.y1 p b _ _ hS.ink (by unfold roomP at hn ⊢; simp only [List.length_append, List.length_cons, List.length_nil, lng_len]; omega)).x ?_
    rintro v H3 W3 ⟨rfl, hW3, hS3⟩
    have gz3 := hS3.old _ _ (pb_no hI (Nat.le_refl _)) gz2
    have hS := hS.trans hS3
    (refine sg gz3 ?_; try exact ⟨⟩)
    refine (rwlong_ e.x2 p b _ _ hS.ink (by unfold roomP at hn ⊢; simp only [List.length_append, List.length_cons, List.length_nil, lng_len]; omega)).x ?_
    rintro v H4 W4 ⟨rfl, hW4, hS4⟩
    have gz4 := hS4.old _ _ (pb_no hI (Nat.le_refl _)) gz3
    have hS := hS.trans hS4
    (refine sg gz4 ?_; try exact ⟨⟩)
    refine (rwlong_ e.y2 p b _ _ hS.ink (by unfold roomP at hn ⊢; simp only [List.length_append, List.length_cons, List.length_nil, lng_len]; omega)).x ?_
    rintro v H5 W5 ⟨rfl, hW5, hS5⟩
    have hS := hS.trans hS5
    (refine sg trivial ?_; try exact ⟨⟩)
    refine ⟨(((hW1.filt.app hW2.filt).app hW3.filt).app hW4.filt).app hW5.filt, ?_⟩
    rw [show xs ++ easeO 2 e = xs ++ [u8 2] ++ lng e.x1 ++ lng e.y1 ++ lng e.x2 ++ lng e.y2 by simp [easeO]]
    exact hS
  · (refine sg (et gz (bf h2)) ?_; try exact ⟨⟩)
    refine ⟨hW1.filt, ?_⟩
    rw [show xs ++ easeO how e = xs ++ [u8 how] by simp [easeO, h2]]
    exact hS
end Go.Proofs.YtlcdbangmbdlcaaGreat
/- Writing: the walks of the document's answer's keys, path. -/
namespace Go.Proofs.YtlcdbangmbdlcaaGreat
open Go Go.RowKit E
attribute [local irreducible] XRun XOps XCode XCal XLoop XQ SemCall
set_option linter.unusedSimpArgs false
set_option linter.unusedVariables false
set_option maxHeartbeats 4000000 in
theorem rwkeys_ (l : List Ky) (lv : Value) (p b : Nat) (xs : List Int) (H : AH) (hI : InkAt H p b xs) (hv : ∀ J, OlP (pbP p b) H J → Kys J lv l) (hn : roomP (xs.length + (keysO l).length + 64)) :
    Cal Tryz.prog 46 [ap p 0 0, lv] H fun v' H' W => v' = .tuple #[] ∧ OnW W p b ∧ InkS H H' p b (xs ++ keysO l) := by
  refine of_x ?_
  have hln := (hv H (OlP.refl _ _)).len
  obtain ⟨ka, ke, hlf⟩ := (hv H (OlP.refl _ _)).form
  subst hlf
  have hkO : (keysO l).length = 1 + (l.flatMap keyO).length := by unfold keysO; rw [List.length_cons]; omega
  refine XCal.of hm Tryz.func46 rfl (fun xs w => Tryz.call46 xs w) Tryz.ntmps46 Tryz.results46 rfl ?_
  (refine sg trivial ?_; try exact ⟨⟩)
  refine (rwsmall_ (l.length : Int) p b xs _ hI (by unfold roomP at hn ⊢; omega)).x ?_
  rintro v H1 W ⟨rfl, hW, hS1⟩
  (refine sg trivial ?_; try exact ⟨⟩)
  refine keep (fun r T K D => OnW D p b ∧ ∃ (j : Nat), j + r = l.length ∧ InkS H K p b (xs ++ [u8 l.length] ++ (l.take j).flatMap keyO) ∧ T 0 = ap p 0 0 ∧ T 10 = .slice ka l.length ke ∧ T 11 = .int .i64 (l.length : Int) ∧ T 12 = .int .i64 (j : Int)) l.length
    ⟨hW.filt, 0, by omega, by simpa using hS1, by (refine sg trivial ?_; try exact ⟨⟩), by (refine sg trivial ?_; try exact ⟨⟩), by (refine sg trivial ?_; try exact ⟨⟩), by (refine sg trivial ?_; try exact ⟨⟩) <;> rfl⟩ ?_
  clear hS1 hW
  rintro r2 T2 K D ⟨hD, j, hjr, hS, s0, s19, s20, s21⟩
  have kd : ∀ n, decide (K.length + n < H.length) = false := fun n => df (by have := hS.len; omega)
  have kd0 : decide (K.length < H.length) = false := df (by have := hS.len; omega)
  by_cases hj : j < l.length
  · obtain ⟨k, hk⟩ : ∃ k, l[j]? = some k := ⟨_, List.getElem?_eq_getElem hj⟩
    obtain ⟨b2, g2, cells2, rw2, c, hve2, hb2, hc, hcl2, hle2, hld2, hgt2⟩ := (hv K hS.old).at hk
    have hc : c = kyC k := hc
    subst hc
    rw [hve2] at s19
    have q0 : (0 : Int) ≤ (j : Int) := by omega
    have q1 : (j : Int) < (l.length : Int) := by omega
    have w2 : IntKind.i64.wrap ((j : Int) + 1) = ((j + 1 : Nat) : Int) := by rw [wi (by omega) (by omega)]; rfl
    have hat2 := flat_at (f := keyO) hk
    have hkk : (keyO k).length = 16 + (easeO k.how k.e).length := by unfold keyO; rw [List.length_append, List.length_append, lng_len, lng_len]
    (refine sg (et s0 (et s19 (et s20 (et s21 (et (dt q1) (et q0 (et q1 (et Int.toNat_natCast (et Nat.zero_add (et hb2 (et hld2 (et kd kd0)))))))))))) ?_; try exact ⟨⟩)
    have hB := hS.app [⟨kyC k, 0, true⟩]
    refine (rwlong_ k.t p b _ _ hB.ink (by unfold roomP at hn ⊢; simp only [List.length_append, List.length_cons, List.length_nil]; omega)).x ?_
    rintro v H2 W2 ⟨rfl, hW2, hS2⟩
    have gk : H2[K.length]? = some ⟨kyC k, 0, true⟩ := hS2.old _ _ (pb_no hI hS.len) (by rw [hget_app0]; rfl)
    have hS2 := hB.trans hS2
    (refine sg (et s0 (et s19 (et s20 (et s21 (et gk (et kd kd0)))))) ?_; try exact ⟨⟩)
    refine (rwlong_ k.v p b _ _ hS2.ink (by unfold roomP at hn ⊢; simp only [List.length_append, List.length_cons, List.length_nil, lng_len]; omega)).x ?_
    rintro v H3 W3 ⟨rfl, hW3, hS3⟩
    have gk3 := hS3.old _ _ (pb_no hI hS.len) gk
    have hS3 := hS2.trans hS3
    (refine sg (et s0 (et s19 (et s20 (et s21 (et gk3 (et kd kd0)))))) ?_; try exact ⟨⟩)
    refine (rwhow_ k.how k.e p b _ _ hS3.ink (by unfold roomP at hn ⊢; simp only [List.length_append, List.length_cons, List.length_nil, lng_len]; omega)).x ?_
    rintro v H4 W4 ⟨rfl, hW4, hS4⟩
    have hS4 := hS3.trans hS4
    (refine sg (et s0 (et s19 (et s20 (et s21 (et kd (et kd0 w2)))))) ?_; try exact ⟨⟩)
    refine ⟨r2 - 1, by omega, ((hD.app hW2.filt).app hW3.filt).app hW4.filt, j + 1, by omega, ?_, hve2.symm, rfl⟩
    rw [take_snoc hk, List.flatMap_append, List.flatMap_singleton, ← List.append_assoc, show keyO k = lng k.t ++ lng k.v ++ easeO k.how k.e from rfl, ← List.append_assoc, ← List.append_assoc]
    exact hS4
  · have hjl : j = l.length := by omega
    (refine sg (et s0 (et s19 (et s20 (et s21 (df (show ¬ (j : Int) < (l.length : Int) by omega)))))) ?_; try exact ⟨⟩)
    rw [show l.take j = l by rw [hjl, List.take_length]] at hS
    refine ⟨hD, ?_⟩
    rw [show keysO l = [u8 l.length] ++ l.flatMap keyO from rfl, ← List.append_assoc]
    exact hS
end Go.Proofs.YtlcdbangmbdlcaaGreat
/- Writing: the walks of the document's answer's path, sums. -/
namespace Go.Proofs.YtlcdbangmbdlcaaGreat
open Go Go.RowKit E
attribute [local irreducible] XRun XOps XCode XCal XLoop XQ SemCall
set_option linter.unusedSimpArgs false
set_option linter.unusedVariables false
set_option maxHeartbeats 4000000 in
theorem rwpath_ (q : PL) (pv : Value) (p b : Nat) (xs : List Int) (H : AH) (hI : InkAt H p b xs) (hv : ∀ J, OlP (pbP p b) H J → Pts J pv q.2) (hn : roomP (xs.length + (pathO q).length + 64)) :
    Cal Tryz.prog 47 [ap p 0 0, .agg [.bool q.1, pv].toArray] H fun v' H' W => v' = .tuple #[] ∧ OnW W p b ∧ InkS H H' p b (xs ++ pathO q) := by
  refine of_x ?_
  have hln := (hv H (OlP.refl _ _)).len
  obtain ⟨la, le, hlf⟩ := (hv H (OlP.refl _ _)).form
  subst hlf
  have kd : ∀ n, decide (H.length + n < H.length) = false := fun n => df (by omega)
  have kd0 : decide (H.length < H.length) = false := df (by omega)
  have hpO : (pathO q).length = 2 + (q.2.flatMap ptO).length := by unfold pathO yesO; rw [List.length_append, List.length_singleton, List.length_cons]; omega
  refine XCal.of hm Tryz.func47 rfl (fun xs w => Tryz.call47 xs w) Tryz.ntmps47 Tryz.results47 rfl ?_
  (refine sg (et kd kd0) ?_; try exact ⟨⟩)
  have hB := (InkS.refl hI).app [⟨[.bool q.1, .slice la q.2.length le], 0, true⟩]
  have gB : (H ++ [(⟨[.bool q.1, .slice la q.2.length le], 0, true⟩ : Blk)])[H.length]? = some ⟨[.bool q.1, .slice la q.2.length le], 0, true⟩ := by rw [hget_app0]; rfl
  generalize H ++ [(⟨[.bool q.1, .slice la q.2.length le], 0, true⟩ : Blk)] = B at *
  refine (rwyes_ q.1 p b _ _ hB.ink (by unfold roomP at hn ⊢; omega)).x ?_
  rintro v H1 W ⟨rfl, hW, hS⟩
  have gz := hS.old _ _ (pb_no hI (Nat.le_refl _)) gB
  have hS := hB.trans hS
  (refine sg gz ?_; try exact ⟨⟩)
  have hy : (yesO q.1).length = 1 := rfl
  refine (rwsmall_ (q.2.length : Int) p b _ _ hS.ink (by unfold roomP at hn ⊢; simp only [List.length_append]; omega)).x ?_
  rintro v H2 W2 ⟨rfl, hW2, hS2⟩
  have gz2 := hS2.old _ _ (pb_no hI (Nat.le_refl _)) gz
  have hS2 := hS.trans hS2
  clear hS hB gz gB
  have hD : OnW (W.filter (fun b => decide (b < H.length)) ++ W2.filter (fun b => decide (b < H.length))) p b := hW.filt.app hW2.filt
  (refine sg gz2 ?_; try exact ⟨⟩)
  refine keep (fun r T K D => OnW D p b ∧ ∃ (j : Nat), j + r = q.2.length ∧ InkS H K p b (xs ++ yesO q.1 ++ [u8 q.2.length] ++ (q.2.take j).flatMap ptO) ∧ T 0 = ap p 0 0 ∧ T 16 = .slice la q.2.length le ∧ T 17 = .int .i64 (q.2.length : Int) ∧ T 18 = .int .i64 (j : Int)) q.2.length
    ⟨hD, 0, by omega, by simpa using hS2, by (refine sg trivial ?_; try exact ⟨⟩), by (refine sg trivial ?_; try exact ⟨⟩), by (refine sg trivial ?_; try exact ⟨⟩), by (refine sg trivial ?_; try exact ⟨⟩) <;> rfl⟩ ?_
  clear hS2 hD gz2 hW hW2
  rintro r T K D ⟨hD, j, hjr, hS, t0, t17, t18, t19⟩
  have kd : ∀ n, decide (K.length + n < H.length) = false := fun n => df (by have := hS.len; omega)
  have kd0 : decide (K.length < H.length) = false := df (by have := hS.len; omega)
  by_cases hj : j < q.2.length
  · obtain ⟨k, hk⟩ : ∃ k, q.2[j]? = some k := ⟨_, List.getElem?_eq_getElem hj⟩
    obtain ⟨b2, g2, cells2, rw2, c, hve2, hb2, hc, hcl2, hle2, hld2, hgt2⟩ := (hv K hS.old).row.at hk
    have hc : c = [.int .i64 k.1, .int .i64 k.2] := hc
    subst hc
    rw [hve2] at t17
    have q0 : (0 : Int) ≤ (j : Int) := by omega
    have q1 : (j : Int) < (q.2.length : Int) := by omega
    have w2 : IntKind.i64.wrap ((j : Int) + 1) = ((j + 1 : Nat) : Int) := by rw [wi (by omega) (by omega)]; rfl
    have hat2 := flat_at (f := ptO) hk
    rw [pt_len] at hat2
    (refine sg (et t0 (et t17 (et t18 (et t19 (et (dt q1) (et q0 (et q1 (et Int.toNat_natCast (et Nat.zero_add (et hb2 (et hld2 (et kd kd0)))))))))))) ?_; try exact ⟨⟩)
    have hB := hS.app [⟨[.int .i64 k.1, .int .i64 k.2], 0, true⟩]
    refine (rwlong_ k.1 p b _ _ hB.ink (by unfold roomP at hn ⊢; simp only [List.length_append, List.length_cons, List.length_nil]; omega)).x ?_
    rintro v H3 W3 ⟨rfl, hW3, hS3⟩
    have gk : H3[K.length]? = some ⟨[.int .i64 k.1, .int .i64 k.2], 0, true⟩ := hS3.old _ _ (pb_no hI hS.len) (by rw [hget_app0]; rfl)
    have hS3 := hB.trans hS3
    (refine sg (et t0 (et t17 (et t18 (et t19 (et gk (et kd kd0)))))) ?_; try exact ⟨⟩)
    refine (rwlong_ k.2 p b _ _ hS3.ink (by unfold roomP at hn ⊢; simp only [List.length_append, List.length_cons, List.length_nil, lng_len]; omega)).x ?_
    rintro v H4 W4 ⟨rfl, hW4, hS4⟩
    have hS4 := hS3.trans hS4
    (refine sg (et t0 (et t17 (et t18 (et t19 (et kd (et kd0 w2)))))) ?_; try exact ⟨⟩)
    refine ⟨r - 1, by omega, (hD.app hW3.filt).app hW4.filt, j + 1, by omega, ?_, hve2.symm, rfl⟩
    rw [take_snoc hk, List.flatMap_append, List.flatMap_singleton, ← List.append_assoc, show ptO k = lng k.1 ++ lng k.2 from rfl, ← List.append_assoc]
    exact hS4
  · have hjl : j = q.2.length := by omega
    (refine sg (et t0 (et t17 (et t18 (et t19 (df (show ¬ (j : Int) < (q.2.length : Int) by omega)))))) ?_; try exact ⟨⟩)
    rw [show q.2.take j = q.2 by rw [hjl, List.take_length]] at hS
    refine ⟨hD, ?_⟩
    rw [show pathO q = yesO q.1 ++ ([u8 q.2.length] ++ q.2.flatMap ptO) from rfl, ← List.append_assoc, ← List.append_assoc]
    exact hS
set_option maxHeartbeats 4000000 in
theorem rwsum_ (l : List Int) (v : Value) (H : AH) (h : Bys H v l) : SemCall Tryz.prog 9 [v] H (.int .u32 (sumE l)) H [] := by
  refine pure_of ?_ rfl
  have hln := h.len
  obtain ⟨la, le, hlf⟩ := h.form
  subst hlf
  refine XCal.of hm Tryz.func9 rfl (fun xs w => Tryz.call9 xs w) Tryz.ntmps9 Tryz.results9 rfl ?_
  (refine sg trivial ?_; try exact ⟨⟩)
  refine keep (fun r T K D => D = [] ∧ K = H ∧ ∃ (i : Nat), i + r = l.length ∧ T 3 = .int .u32 (sumP (l.take i)).1 ∧ T 4 = .int .u32 (sumP (l.take i)).2 ∧ T 0 = .slice la l.length le ∧ T 5 = .int .i64 (i : Int)) l.length
    ⟨rfl, rfl, 0, by omega, by (refine sg trivial ?_; try exact ⟨⟩) <;> rfl, by (refine sg trivial ?_; try exact ⟨⟩) <;> rfl, by (refine sg trivial ?_; try exact ⟨⟩), by (refine sg trivial ?_; try exact ⟨⟩) <;> rfl⟩ ?_
  rintro r T K D ⟨rfl, hK, i, hir, t3, t4, t7, t9⟩
  subst hK
  by_cases hi : i < l.length
  · obtain ⟨x, hx⟩ : ∃ x, l[i]? = some x := ⟨_, List.getElem?_eq_getElem hi⟩
    obtain ⟨bl, gl, cells, rw_, c, hve, hb, hc, hcl, hle, hld, hgt⟩ := h.at hx
    have hc : c = [.int .u8 x] := hc
    subst hc
    have hc0 : cells[i * 1]? = some (.int .u8 x) := hgt 0 (by omega)
    rw [hve] at t7
    have q0 : (0 : Int) ≤ (i : Int) := by omega
    have q1 : (i : Int) < (l.length : Int) := by omega
    have w1 : IntKind.i64.wrap ((i : Int) + 1) = ((i + 1 : Nat) : Int) := by rw [wi (by omega) (by omega)]; rfl
    (refine sg (et t3 (et t4 (et t7 (et t9 (et (dt q1) (et q0 (et q1 (et Int.toNat_natCast (et Nat.zero_add (et hb (et hc0 w1))))))))))) ?_; try exact ⟨⟩)
    refine ⟨r - 1, by omega, i + 1, by omega, ?_, ?_, hve.symm, rfl⟩
    · rw [take_snoc hx, sumP_snoc]; rfl
    · rw [take_snoc hx, sumP_snoc]; rfl
  · have hi : i = l.length := by omega
    rw [show l.take i = l by rw [hi, List.take_length]] at t3 t4
    obtain ⟨h1, h2, h3, h4⟩ := sumP_lt l
    have w3 : IntKind.u32.wrap (65536 * (sumP l).2) = 65536 * (sumP l).2 := by rw [wu32]; omega
    have w4 : IntKind.u32.wrap (65536 * (sumP l).2 + (sumP l).1) = sumE l := by rw [wu32]; unfold sumE; omega
    (refine sg (et t3 (et t4 (et t7 (et t9 (et (df (show ¬ (i : Int) < (l.length : Int) by omega)) (et w3 w4)))))) ?_; try exact ⟨⟩)
end Go.Proofs.YtlcdbangmbdlcaaGreat
