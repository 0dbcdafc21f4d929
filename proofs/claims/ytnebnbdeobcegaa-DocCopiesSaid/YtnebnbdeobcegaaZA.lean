/- Merged texts: DocV DocY. -/
import Derived.Test.YtnebnbdeobcegaaZY
/- Documents: a copy that is written; the walk of DocCopies. -/
namespace Go.Proofs.Ytnebnbdeobcegaa
open Go Go.RowKit E
attribute [local irreducible] XRun XOps XCode XCal XLoop XQ SemCall
set_option linter.unusedSimpArgs false
set_option linter.unusedVariables false
theorem keysB_len {l : List Ky} (h : keysB l = true) : l.length ≤ 1000 := by
  unfold keysB at h
  simp only [Bool.and_eq_true, decide_eq_true_eq] at h
  omega
theorem rightB_len {c : Bool} {l : List Pt} (h : rightB c l = true) : l.length ≤ 1000 := by
  unfold rightB at h
  by_cases e : l.length = 0
  · omega
  · rw [if_neg e] at h
    simp only [Bool.and_eq_true, decide_eq_true_eq] at h
    omega
theorem pksGo_pts {z : PL} : ∀ {l : List Pk} {f : Bool} {a : Int}, pksGo z f a l = true → ∀ p ∈ l, p.p.2.length ≤ 1000
  | [], _, _, _, p, hp => by cases hp
  | k :: l, f, a, h, p, hp => by
    simp only [pksGo, Bool.and_eq_true] at h
    rcases List.mem_cons.1 hp with rfl | hp
    · exact rightB_len h.1.1.2
    · exact pksGo_pts h.2 p hp
theorem shapeB_small {s : Sh} (h : shapeB s = true) : s.w.length ≤ 1000 ∧ s.h.length ≤ 1000 ∧ s.paths.length ≤ 1000 ∧ (∀ p ∈ s.paths, p.p.2.length ≤ 1000) ∧ s.colors.length ≤ 1000 ∧ s.width.length ≤ 1000 ∧ s.dash.length ≤ 1000 ∧ s.frm.length ≤ 1000 ∧ s.to.length ≤ 1000 := by
  unfold shapeB at h
  simp only [Bool.and_eq_true] at h
  obtain ⟨⟨⟨⟨⟨⟨⟨⟨hf, _⟩, _⟩, hc⟩, hw⟩, hr⟩, ht⟩, _⟩, hd⟩ := h
  have hc' : s.colors.length ≤ 1000 := by
    unfold cksB at hc; simp only [Bool.and_eq_true, decide_eq_true_eq] at hc; omega
  have hd' : s.dash.length ≤ 1000 := by
    unfold dashB at hd; simp only [Bool.and_eq_true, decide_eq_true_eq] at hd; omega
  have hp : s.w.length ≤ 1000 ∧ s.h.length ≤ 1000 ∧ s.paths.length ≤ 1000 ∧ (∀ p ∈ s.paths, p.p.2.length ≤ 1000) := by
    unfold formB at hf
    by_cases e1 : s.form < 0 ∨ 3 < s.form
    · rw [if_pos e1] at hf; cases hf
    rw [if_neg e1] at hf
    by_cases e2 : (s.form = 2 ∧ (s.n < 2 ∨ 16 < s.n)) ∨ (¬ s.form = 2 ∧ ¬ s.n = 0)
    · rw [if_pos e2] at hf; cases hf
    rw [if_neg e2] at hf
    by_cases e3 : s.form = 3
    · rw [if_pos e3] at hf
      simp only [Bool.and_eq_true, decide_eq_true_eq] at hf
      obtain ⟨⟨a, b⟩, c⟩ := hf
      unfold pksB at c
      simp only [Bool.and_eq_true, decide_eq_true_eq] at c
      exact ⟨by omega, by omega, by omega, pksGo_pts c.1⟩
    · rw [if_neg e3] at hf
      simp only [Bool.and_eq_true, decide_eq_true_eq] at hf
      obtain ⟨⟨a, b⟩, c⟩ := hf
      have : s.paths = [] := List.eq_nil_of_length_eq_zero (by omega)
      exact ⟨keysB_len b, keysB_len c, by omega, fun p hp => by rw [this] at hp; cases hp⟩
  exact ⟨hp.1, hp.2.1, hp.2.2.1, hp.2.2.2, hc', keysB_len hw, hd', keysB_len hr, keysB_len ht⟩
theorem LyB.small {k c m : Int} {ah : Bool} {l : Ly} (h : LyB k c m ah l) : LyS l := by
  have hm : l.mask.2.length ≤ 1000 := by
    have := h.ma
    unfold maskB at this
    simp only [Bool.and_eq_true] at this
    exact rightB_len this.1
  have hr : l.remap.length ≤ 1000 := by
    rcases h.kd with ⟨_, _, e, _⟩ | ⟨_, _, _, e, _⟩
    · rw [e]; simp
    · exact keysB_len e
  have hs : l.shape.w.length ≤ 1000 ∧ l.shape.h.length ≤ 1000 ∧ l.shape.paths.length ≤ 1000 ∧ (∀ p ∈ l.shape.paths, p.p.2.length ≤ 1000) ∧ l.shape.colors.length ≤ 1000 ∧ l.shape.width.length ≤ 1000 ∧ l.shape.dash.length ≤ 1000 ∧ l.shape.frm.length ≤ 1000 ∧ l.shape.to.length ≤ 1000 := by
    rcases h.kd with ⟨_, _, _, e⟩ | ⟨_, _, _, _, e⟩
    · exact shapeB_small e
    · rw [e]
      exact ⟨by simp [sh00], by simp [sh00], by simp [sh00], fun p hp => by simp [sh00] at hp, by simp [sh00], by simp [sh00], by simp [sh00], by simp [sh00], by simp [sh00]⟩
  obtain ⟨h1, h2, h3, h4, h5, h6, h7, h8, h9⟩ := hs
  exact ⟨keysB_len h.x, keysB_len h.y, keysB_len h.ax, keysB_len h.ay, keysB_len h.sx, keysB_len h.sy, keysB_len h.tu, keysB_len h.op, hr, hm, h1, h2, h3, h4, h5, h6, h7, h8, h9⟩
theorem DcB.small {d : Dc} (h : DcB d) : DcS d := by
  refine ⟨by have := h.n; omega, fun c hc => ?_⟩
  obtain ⟨i, hi⟩ := List.getElem?_of_mem hc
  obtain ⟨h1, h2, h3⟩ := h.cs i c hi
  refine ⟨by omega, fun l hl => ?_⟩
  obtain ⟨j, hj⟩ := List.getElem?_of_mem hl
  obtain ⟨ah, h4, _⟩ := h1 j l hj
  exact h4.small
theorem kyQ_refl (x : Ky) : kyQ x x = true := by simp [kyQ]
theorem ckQ_refl (x : Ck) : ckQ x x = true := by simp [ckQ]
theorem inQ_refl (x : Int) : inQ x x = true := by simp [inQ]
theorem ptQ_refl (x : Pt) : ptQ x x = true := by simp [ptQ]
theorem plQ_refl (x : PL) : plQ x x = true := by
  unfold plQ; rw [eqG_refl ptQ_refl]; simp
theorem pkQ_refl (x : Pk) : pkQ x x = true := by simp [pkQ, ezQ, plQ_refl]
theorem shQ_refl (x : Sh) : shQ x x = true := by
  unfold shQ shP shK
  simp only [eqG_refl pkQ_refl, eqG_refl ckQ_refl, eqG_refl inQ_refl, eqG_refl kyQ_refl]
  simp [pntQ, c4Q]
theorem lyQ_refl (x : Ly) : lyQ x x = true := by
  unfold lyQ lyP; rw [eqG_refl (fun l => eqG_refl kyQ_refl l), plQ_refl, shQ_refl]; simp
theorem dcQ_refl (d : Dc) : dcQ d d = true := by
  unfold dcQ; rw [eqG_refl (fun l => eqG_refl lyQ_refl l)]; simp
/-- The same but for numbers in blocks from n on. -/
def Shp (n : Nat) (K0 K : AH) : Prop := K.length = K0.length ∧ (∀ b k, b < n → K0[b]? = some k → K[b]? = some k) ∧ ∀ (b : Nat) (k : Blk), K0[b]? = some k → ∃ cells : List Value, K[b]? = some ⟨cells, k.gen, k.rw⟩ ∧ cells.length = k.cells.length ∧ (∀ (i : Nat) a l e, k.cells[i]? = some (Value.slice a l e) → cells[i]? = some (Value.slice a l e)) ∧ ∀ (i : Nat) (x : Int), k.cells[i]? = some (Value.int .i64 x) → ∃ y : Int, cells[i]? = some (Value.int .i64 y)
theorem Shp.refl (n : Nat) (K : AH) : Shp n K K := ⟨rfl, fun _ _ _ h => h, fun b k h => ⟨k.cells, h, rfl, fun _ _ _ _ h => h, fun i x h => ⟨x, h⟩⟩⟩
theorem Shp.put {n : Nat} {K0 K : AH} (h : Shp n K0 K) {b g off : Nat} {cs cells : List Value} (hn : n ≤ b) (hk : K0[b]? = some ⟨cs, g, true⟩) (hK : K[b]? = some ⟨cells, g, true⟩) {x : Int} (hx : cs[off]? = some (.int .i64 x)) (z : Int) :
    Shp n K0 (K.set b ⟨cells.set off (.int .i64 z), g, true⟩) := by
  have hbl := (List.getElem?_eq_some_iff.1 hK).1
  obtain ⟨cells', e1, e2, e3, e4⟩ := h.2.2 b _ hk
  rw [hK] at e1
  cases e1
  have hol := (List.getElem?_eq_some_iff.1 hx).1
  have e2 : cells.length = cs.length := e2
  refine ⟨by rw [List.length_set]; exact h.1, fun b' k hb e => by rw [List.getElem?_set_ne (by omega)]; exact h.2.1 b' k hb e, fun b' k e => ?_⟩
  by_cases hb : b = b'
  · subst hb
    rw [hk] at e; cases e
    refine ⟨_, List.getElem?_set_self hbl, by rw [List.length_set]; exact e2, fun i a l e hi => ?_, fun i y hi => ?_⟩
    · by_cases ho : off = i
      · subst ho
        have hi : cs[off]? = some (.slice a l e) := hi
        rw [hx] at hi; cases hi
      · rw [List.getElem?_set_ne ho]; exact e3 i a l e hi
    · by_cases ho : off = i
      · subst ho
        exact ⟨z, List.getElem?_set_self (by omega)⟩
      · rw [List.getElem?_set_ne ho]; exact e4 i y hi
  · rw [List.getElem?_set_ne hb]; exact h.2.2 b' k e
theorem ast_one (J : AH) (cells : List Value) (g b off : Nat) (z : Int) (h : off < cells.length) : ast J (some ⟨cells, g, true⟩) (some [.int .i64 z]) (some 1) b off g = some (J.set b ⟨cells.set off (.int .i64 z), g, true⟩, b) := by
  rw [ast_some (s := 1) rfl (by omega), splice_def, ← set_splice _ _ _ h]
  simp
/-- A row whose cells at one place are numbers, that may be written. -/
def IntAt (n : Nat) (K : AH) (v : Value) (len s j : Nat) : Prop := (∃ a e, v = .slice a len e) ∧ ∀ i, i < len → ∃ b g cs x, v = sl b 0 g len s ∧ n ≤ b ∧ K[b]? = some ⟨cs, g, true⟩ ∧ cs[i * s + j]? = some (.int .i64 x)
theorem IntAt.of {α : Type} {s : Nat} {E : AH → List Value → α → Prop} {n : Nat} {K : AH} {v : Value} {l : List α} (h : Dep n K (fun J => RowOf s E J v l)) (hw : Wr K v) (j : Nat) (hj : j < s) (hE : ∀ K c x, E K c x → ∃ y, c[j]? = some (.int .i64 y)) : IntAt n K v l.length s j := by
  refine ⟨h.here.form, fun i hi => ?_⟩
  rcases RowOf.high h with ⟨rfl, _⟩ | ⟨b, g, rest, rw_, cs, hb, rfl, h2, h3, h4, h5⟩
  · simp at hi
  · obtain ⟨c, e1, e2, e3⟩ := h5 i _ (List.getElem?_eq_getElem hi)
    obtain ⟨y, hy⟩ := hE _ _ _ e3.here
    obtain ⟨k, w1, w2⟩ := hw b 0 g l.length s rfl
    rw [h2] at w1; cases w1
    have w2 : rw_ = true := w2
    subst w2
    have hall : ∀ c ∈ cs, c.length = s := RowOf.all h3 (P := fun c x => Dep n K (fun J => E J c x)) h5
    refine ⟨b, g, _, y, rfl, hb, h2, ?_⟩
    have hf := flatten_get j hall e1 hj
    rw [hy] at hf
    rw [List.getElem?_append_left (by exact (List.getElem?_eq_some_iff.1 hf).1)]
    exact hf
/-- The same where things have changed. -/
theorem IntAt.now {n : Nat} {K0 K : AH} {v : Value} {len s j : Nat} (h : IntAt n K0 v len s j) (hS : Shp n K0 K) {i : Nat} (hi : i < len) : ∃ b g cells y, v = sl b 0 g len s ∧ K[b]? = some ⟨cells, g, true⟩ ∧ cells[i * s + j]? = some (.int .i64 y) ∧ n ≤ b ∧ ∀ z, Shp n K0 (K.set b ⟨cells.set (i * s + j) (.int .i64 z), g, true⟩) := by
  obtain ⟨b, g, cs, x, rfl, h1, h2, h3⟩ := h.2 i hi
  obtain ⟨cells, e1, e2, e3, e4⟩ := hS.2.2 b _ h2
  obtain ⟨y, hy⟩ := e4 _ _ h3
  exact ⟨b, g, cells, y, rfl, e1, hy, h1, fun z => hS.put h1 h2 e1 h3 z⟩
def PathsAt (n : Nat) (K : AH) (v : Value) (ps : List Pk) : Prop := (∃ a e, v = .slice a ps.length e) ∧ ∀ (i : Nat) x, ps[i]? = some x → ∃ b g cs rw_ pv, v = sl b 0 g ps.length 8 ∧ K[b]? = some ⟨cs, g, rw_⟩ ∧ cs[i * 8 + 1 + 1]? = some pv ∧ IntAt n K pv x.p.2.length 2 1
theorem PathsAt.of {n : Nat} {K : AH} {v : Value} {ps : List Pk} (h : Dep n K (fun J => RowOf 8 PkT J v ps)) : PathsAt n K v ps := by
  refine ⟨h.here.form, fun i x hx => ?_⟩
  have hil := (List.getElem?_eq_some_iff.1 hx).1
  rcases RowOf.high h with ⟨rfl, _⟩ | ⟨b, g, rest, rw_, cs, hb, rfl, h2, h3, h4, h5⟩
  · simp at hx
  · obtain ⟨c, e1, e2, e3⟩ := h5 i x hx
    obtain ⟨pv, hc, _, hw⟩ := e3.here
    have hp : Dep n K (fun J => RowOf 2 PtE J pv x.p.2) := fun J hJ => by
      obtain ⟨pv', hc', hp, _⟩ := e3 J hJ
      rw [hc] at hc'
      simp only [List.cons.injEq] at hc'
      rw [hc'.2.2.1]; exact hp.row
    have hall : ∀ c ∈ cs, c.length = 8 := RowOf.all h3 (P := fun c x => Dep n K (fun J => PkT J c x)) h5
    have hf := flatten_get 2 hall e1 (by omega)
    rw [hc] at hf
    have hf : cs.flatten[i * 8 + 2]? = some pv := hf
    refine ⟨b, g, _, rw_, pv, rfl, h2, ?_, IntAt.of hp hw 1 (by omega) fun K c x h => ?_⟩
    · rw [List.getElem?_append_left (by have := (List.getElem?_eq_some_iff.1 hf).1; omega)]; exact hf
    · have h : c = [.int .i64 x.1, .int .i64 x.2] := h
      subst h; exact ⟨_, rfl⟩
/-- What of a copy's layer is written. -/
structure LyA (n : Nat) (K : AH) (lv : Value) (m k : Nat) (l : Ly) (bl gl : Nat) (cells : List Value) (v0 pm vp vda : Value) : Prop where
  lv : lv = sl bl 0 gl m 50
  hi : n ≤ bl
  blk : K[bl]? = some ⟨cells, gl, true⟩
  c4 : cells[k * 50 + 4]? = some (.int .i64 l.in_)
  c7 : cells[k * 50 + 7]? = some v0
  c17 : cells[k * 50 + 16 + 1]? = some pm
  c22 : cells[k * 50 + 18 + 4]? = some vp
  c47 : cells[k * 50 + 18 + 29]? = some vda
  x : IntAt n K v0 l.x.length 7 1
  m : IntAt n K pm l.mask.2.length 2 0
  p : PathsAt n K vp l.shape.paths
  d : IntAt n K vda l.shape.dash.length 1 0
theorem LyA.of {n : Nat} {K : AH} {lv : Value} {c : List Ly} (h : Dep n K (fun J => RowOf 50 LyT J lv c)) (hw : Wr K lv) {k : Nat} {l : Ly} (hk : c[k]? = some l) : ∃ bl gl cells v0 pm vp vda, LyA n K lv c.length k l bl gl cells v0 pm vp vda := by
  rcases RowOf.high h with ⟨rfl, _⟩ | ⟨b, g, rest, rw_, cs, hb, rfl, h2, h3, h4, h5⟩
  · simp at hk
  · obtain ⟨c', e1, e2, e3⟩ := h5 k l hk
    obtain ⟨v0, v1, v2, v3, v4, v5, v6, v7, v8, pm, vw, vh, vp, vc, vd, vda, vf, vt, hc, _, w0, wm, wda, _⟩ := e3.here
    have hd : Dep n K (fun J => (LyV J l v0 v1 v2 v3 v4 v5 v6 v7 v8 pm ∧ ShV J l.shape vw vh vp vc vd vda vf vt) ∧ RowOf 8 PkT J vp l.shape.paths) := fun J hJ => by
      obtain ⟨v0', v1', v2', v3', v4', v5', v6', v7', v8', pm', vw', vh', vp', vc', vd', vda', vf', vt', hc', hl, _, _, _, hp⟩ := e3 J hJ
      rw [hc] at hc'
      simp only [List.cons.injEq, true_and, and_true] at hc'
      obtain ⟨rfl, rfl, rfl, rfl, rfl, rfl, rfl, rfl, rfl, rfl, rfl, rfl, rfl, rfl, rfl, rfl, rfl, rfl⟩ := hc'
      exact ⟨hl, hp⟩
    obtain ⟨kk, w1, w2⟩ := hw b 0 g c.length 50 rfl
    rw [h2] at w1; cases w1
    have w2 : rw_ = true := w2
    subst w2
    have hall : ∀ c ∈ cs, c.length = 50 := RowOf.all h3 (P := fun c x => Dep n K (fun J => LyT J c x)) h5
    have hf : ∀ j, j < 50 → (cs.flatten ++ rest)[k * 50 + j]? = c'[j]? := fun j hj => by
      have hf := flatten_get j hall e1 hj
      rw [List.getElem?_append_left (by
        have : j < c'.length := by omega
        rw [List.getElem?_eq_getElem this] at hf
        exact (List.getElem?_eq_some_iff.1 hf).1)]
      exact hf
    subst hc
    refine ⟨b, g, _, v0, pm, vp, vda, rfl, hb, h2, hf 4 (by omega), hf 7 (by omega), hf 17 (by omega), hf 22 (by omega), hf 47 (by omega),
      IntAt.of (hd.map fun _ h => h.1.1.x) w0 1 (by omega) (fun K c x h => ?_), IntAt.of (hd.map fun _ h => h.1.1.mask.row) wm 0 (by omega) (fun K c x h => ?_), PathsAt.of (hd.map fun _ h => h.2), IntAt.of (hd.map fun _ h => h.1.2.dash) wda 0 (by omega) (fun K c x h => ?_)⟩
    · have h : c = kyC x := h
      subst h; exact ⟨_, rfl⟩
    · have h : c = [.int .i64 x.1, .int .i64 x.2] := h
      subst h; exact ⟨_, rfl⟩
    · have h : c = [.int .i64 x] := h
      subst h; exact ⟨_, rfl⟩
theorem CoA.of {n : Nat} {K : AH} {cw : Value} {cs : List (List Ly)} (h : Dep n K (fun J => RowOf 1 CoT J cw cs)) {i : Nat} {c : List Ly} (hi : cs[i]? = some c) : ∃ b g cells rw_ lv, cw = sl b 0 g cs.length 1 ∧ K[b]? = some ⟨cells, g, rw_⟩ ∧ cells[i]? = some lv ∧ Dep n K (fun J => RowOf 50 LyT J lv c) ∧ Wr K lv := by
  rcases RowOf.high h with ⟨rfl, _⟩ | ⟨b, g, rest, rw_, es, hb, rfl, h2, h3, h4, h5⟩
  · simp at hi
  · obtain ⟨c', e1, e2, e3⟩ := h5 i c hi
    obtain ⟨lv, hc, _, hw⟩ := e3.here
    have hp : Dep n K (fun J => RowOf 50 LyT J lv c) := fun J hJ => by
      obtain ⟨v', hc', hp, _⟩ := e3 J hJ
      rw [hc] at hc'
      simp only [List.cons.injEq, and_true] at hc'
      rw [hc']; exact hp
    have hall : ∀ c ∈ es, c.length = 1 := RowOf.all h3 (P := fun c x => Dep n K (fun J => CoT J c x)) h5
    have hf := flatten_get 0 hall e1 (by omega)
    rw [hc, Nat.mul_one, Nat.add_zero] at hf
    have hf : es.flatten[i]? = some lv := hf
    exact ⟨b, g, _, rw_, lv, rfl, h2, by rw [List.getElem?_append_left (by exact (List.getElem?_eq_some_iff.1 hf).1)]; exact hf, hp, hw⟩
end Go.Proofs.Ytnebnbdeobcegaa
/- Documents: the walk of DocCopies. -/
namespace Go.Proofs.Ytnebnbdeobcegaa
open Go Go.RowKit E
attribute [local irreducible] XRun XOps XCode XCal XLoop XQ SemCall
set_option linter.unusedSimpArgs false
set_option linter.unusedVariables false
set_option maxRecDepth 100000 in
set_option maxHeartbeats 16000000 in
theorem dcopies (lv : Value) (ls : List Int) (t : Nat) (H : AH) (h : Ints H t lv ls) : SemCall Try.prog 5 [lv] H (.bool true) H [] := by
  refine pure_of ?_ rfl
  obtain ⟨d, hD, hq⟩ := kdoc2_ h
  obtain ⟨cv, L, hs1, hd1⟩ := hq []
  obtain ⟨cv2, L2, hs2, hd2⟩ := hq L
  simp only [List.append_nil] at hs1 hd1
  have hsm := hD.small
  have dn := hD.n
  have kd0 : decide (H.length < H.length) = false := df (by omega)
  refine XCal.of hm Try.func5 rfl (fun xs w => Try.call5 xs w) Try.ntmps5 Try.results5 rfl ?_
  (refine sg trivial ?_; try exact ⟨⟩)
  refine hs1.x ?_
  (refine sg trivial ?_; try exact ⟨⟩)
  refine hs2.x ?_
  have oA : Old (H ++ L) (H ++ L ++ L2) := Old.app' _ _
  have hAl : H.length ≤ (H ++ L ++ L2).length := by rw [List.length_append, List.length_append]; omega
  have c1 : Dep H.length (H ++ L ++ L2) (fun J => Cos J cv d.comps) := hd1.old oA
  have c2 : Dep H.length (H ++ L ++ L2) (fun J => Cos J cv2 d.comps) := hd2.low (by simp)
  clear hs1 hs2 hq hd1 hd2 oA
  generalize H ++ L ++ L2 = A at *
  have kdA : ∀ n, decide (A.length + n < H.length) = false := fun n => df (by omega)
  have kdA0 : decide (A.length < H.length) = false := df (by omega)
  obtain ⟨va, ve, hva⟩ := c1.here.form
  subst hva
  obtain ⟨wa, we, hwa⟩ := c2.here.form
  subst hwa
  (refine sg (et kdA kdA0) ?_; try exact ⟨⟩)
  have oB : Old A (A ++ [(⟨[.int .i64 d.in_, .int .i64 d.out, .slice va d.comps.length ve], 0, true⟩ : Blk), ⟨[.int .i64 d.in_, .int .i64 d.out, .slice wa d.comps.length we], 0, true⟩]) := Old.app' _ _
  have hBl : A.length + 2 = (A ++ [(⟨[.int .i64 d.in_, .int .i64 d.out, .slice va d.comps.length ve], 0, true⟩ : Blk), ⟨[.int .i64 d.in_, .int .i64 d.out, .slice wa d.comps.length we], 0, true⟩]).length := by simp
  have g3 : (A ++ [(⟨[.int .i64 d.in_, .int .i64 d.out, .slice va d.comps.length ve], 0, true⟩ : Blk), ⟨[.int .i64 d.in_, .int .i64 d.out, .slice wa d.comps.length we], 0, true⟩])[A.length]? = some ⟨[.int .i64 d.in_, .int .i64 d.out, .slice va d.comps.length ve], 0, true⟩ := by rw [hget_app0]; rfl
  have g4 : (A ++ [(⟨[.int .i64 d.in_, .int .i64 d.out, .slice va d.comps.length ve], 0, true⟩ : Blk), ⟨[.int .i64 d.in_, .int .i64 d.out, .slice wa d.comps.length we], 0, true⟩])[A.length + 1]? = some ⟨[.int .i64 d.in_, .int .i64 d.out, .slice wa d.comps.length we], 0, true⟩ := by rw [hget_app]; rfl
  have cA1 := c1
  have cA2 := c2
  have c1 := c1.old oB
  have c2 := c2.old oB
  generalize A ++ [(⟨[.int .i64 d.in_, .int .i64 d.out, .slice va d.comps.length ve], 0, true⟩ : Blk), ⟨[.int .i64 d.in_, .int .i64 d.out, .slice wa d.comps.length we], 0, true⟩] = B at *
  refine (copy_ d (.slice va d.comps.length ve) B c1.here hsm).x ?_
  rintro v H1 W1 ⟨rfl, ⟨L3, rfl⟩, cw, rfl, hcw⟩
  obtain ⟨ca, ce, hca⟩ := hcw.here.form
  subst hca
  have hBl3 : B.length ≤ (B ++ L3).length := by simp
  have kdB : decide ((B ++ L3).length < H.length) = false := df (by omega)
  (refine sg (et kdB (et (old_get g3) (old_get g4))) ?_; try exact ⟨⟩)
  have oB3 : Old B (B ++ L3 ++ [(⟨[.int .i64 d.in_, .int .i64 d.out, .slice ca d.comps.length ce], 0, true⟩ : Blk)]) := (Old.app' _ _).app _
  have g5 : (B ++ L3 ++ [(⟨[.int .i64 d.in_, .int .i64 d.out, .slice ca d.comps.length ce], 0, true⟩ : Blk)])[(B ++ L3).length]? = some ⟨[.int .i64 d.in_, .int .i64 d.out, .slice ca d.comps.length ce], 0, true⟩ := by rw [hget_app0]; rfl
  have hcw := hcw.old (Old.app' (B ++ L3) [(⟨[.int .i64 d.in_, .int .i64 d.out, .slice ca d.comps.length ce], 0, true⟩ : Blk)])
  have g3 := oB3 _ _ g3
  have g4 := oB3 _ _ g4
  have c1 := c1.old oB3
  have c2 := c2.old oB3
  rw [List.length_append] at g5
  simp only [List.append_assoc] at g3 g4 g5 c1 c2 hcw
  have oAK := oB.trans oB3
  simp only [List.append_assoc] at oAK
  try simp only [List.append_assoc]
  generalize B ++ (L3 ++ [(⟨[.int .i64 d.in_, .int .i64 d.out, .slice ca d.comps.length ce], 0, true⟩ : Blk)]) = K0 at *
  have hsame := dsame_ d d _ _ K0 (hcw.here.sub fun _ _ => CoT.e) c2.here
  rw [dcQ_refl] at hsame
  obtain ⟨n1, hn1⟩ : ∃ n, B.length = n := ⟨_, rfl⟩
  rw [hn1] at hcw hBl
  have hlt3 : A.length < n1 := by omega
  have hlt4 : A.length + 1 < n1 := by omega
  have hHn : H.length ≤ n1 := by omega
  have kdB2 : decide (B.length + L3.length < H.length) = false := df (by omega)
  clear oB oB3 hBl3 kdB hBl hn1
  refine hsame.x ?_
  (refine sg g5 ?_; try exact ⟨⟩)
  refine keep (fun r T J D => D = [] ∧ Shp n1 K0 J ∧ ∃ i : Nat, i + r = d.comps.length ∧ T 3 = ap A.length 0 0 ∧ T 4 = ap (A.length + 1) 0 0 ∧ T 5 = ap (B.length + L3.length) 0 0 ∧ T 26 = .int .i64 (d.comps.length : Int) ∧ T 27 = .int .i64 (i : Int)) d.comps.length
    ⟨by (refine sg (et kdA (et kdA0 kdB2)) ?_; try exact ⟨⟩), Shp.refl _ _, 0, by omega, by (refine sg trivial ?_; try exact ⟨⟩), by (refine sg trivial ?_; try exact ⟨⟩), by (refine sg trivial ?_; try exact ⟨⟩), by (refine sg trivial ?_; try exact ⟨⟩), by (refine sg trivial ?_; try exact ⟨⟩) <;> rfl⟩ ?_
  rintro r T J D ⟨rfl, hS, i, hir, b3, b4, b5, b26, b27⟩
  have e3 := hS.2.1 _ _ hlt3 g3
  have e4 := hS.2.1 _ _ hlt4 g4
  by_cases hi : i < d.comps.length
  case neg =>
    have oJ : ∀ (b : Nat) (k : Blk), H.length ≤ b → A[b]? = some k → J[b]? = some k := fun b k _ h3 => hS.2.1 b k (by have := (List.getElem?_eq_some_iff.1 h3).1; omega) (oAK b k h3)
    have r1 := dsame_ d d _ _ J (cA1 J oJ) (cA2 J oJ)
    have r2 := rdsame_ d d _ _ J (cA1 J oJ) (cA2 J oJ)
    rw [dcQ_refl] at r1 r2
    (refine sg (et b3 (et b4 (et b5 (et b26 (et b27 (et (df (show ¬ (i : Int) < (d.comps.length : Int) by omega)) (et e3 e4))))))) ?_; try exact ⟨⟩)
    repeat ((first | refine (r1).x ?_ | refine (r2).x ?_ | refine (dknown_ _).x ?_ | refine drawnF ?_ (by decide +kernel)); (refine sg (et b3 (et b4 (et b5 (et b26 (et b27 (et e3 e4)))))) ?_; try exact ⟨⟩))
  obtain ⟨c, hci⟩ : ∃ c, d.comps[i]? = some c := ⟨_, List.getElem?_eq_getElem hi⟩
  obtain ⟨bc, gc, ccells, crw, lw, hcv, hcK, hclv, hlw, hww⟩ := CoA.of hcw hci
  obtain ⟨la, le, hlf⟩ := hlw.here.form
  subst hlf
  obtain ⟨f5, z5, _, s5, _⟩ := hS.2.2 _ _ g5
  have z5c := s5 2 _ _ _ rfl
  obtain ⟨fc, zc0, _, sc, _⟩ := hS.2.2 _ _ hcK
  have zcc := sc i _ _ _ hclv
  have z5c' := z5c
  rw [hcv] at z5c'
  have q0 : (0 : Int) ≤ (i : Int) := by omega
  have q1 : (i : Int) < (d.comps.length : Int) := by omega
  have wi1 : IntKind.i64.wrap ((i : Int) + 1) = ((i + 1 : Nat) : Int) := by rw [wi (by omega) (by omega)]; rfl
  have hcl := hlw.here.len
  (refine sg (et b3 (et b4 (et b5 (et b26 (et b27 (et (dt q1) (et q0 (et q1 (et z5 (et z5c' (et zc0 (et zcc (et Int.toNat_natCast (et Nat.zero_add (et Nat.mul_one Nat.add_zero))))))))))))))) ?_; try exact ⟨⟩)
  clear z5 z5c z5c' zc0 zcc s5 sc
  refine keep (fun r T J D => D = [] ∧ Shp n1 K0 J ∧ ∃ k : Nat, k + r = c.length ∧ T 3 = ap A.length 0 0 ∧ T 4 = ap (A.length + 1) 0 0 ∧ T 5 = ap (B.length + L3.length) 0 0 ∧ T 26 = .int .i64 (d.comps.length : Int) ∧ T 27 = .int .i64 (i : Int) ∧ T 6 = .int .i64 (i : Int) ∧ T 36 = .int .i64 (c.length : Int) ∧ T 37 = .int .i64 (k : Int)) c.length
    ⟨rfl, hS, 0, by omega, by (refine sg b3 ?_; try exact ⟨⟩), by (refine sg b4 ?_; try exact ⟨⟩), by (refine sg b5 ?_; try exact ⟨⟩), by (refine sg b26 ?_; try exact ⟨⟩), by (refine sg b27 ?_; try exact ⟨⟩), by (refine sg trivial ?_; try exact ⟨⟩), by (refine sg trivial ?_; try exact ⟨⟩), by (refine sg trivial ?_; try exact ⟨⟩) <;> rfl⟩ ?_
  clear hS e3 e4 b3 b4 b5 b26 b27
  rintro r2 T J D ⟨rfl, hS, k, hkr, b3, b4, b5, b26, b27, l6, l36, l37⟩
  by_cases hk : k < c.length
  case neg =>
    (refine sg (et b3 (et b4 (et b5 (et b26 (et b27 (et l6 (et l36 (et l37 (et (df (show ¬ (k : Int) < (c.length : Int) by omega)) wi1))))))))) ?_; try exact ⟨⟩)
    exact ⟨r - 1, by omega, hS, i + 1, by omega, rfl⟩
  obtain ⟨l, hkl⟩ : ∃ l, c[k]? = some l := ⟨_, List.getElem?_eq_getElem hk⟩
  obtain ⟨bl, gl, lcells, v0, pm, vp, vda, hA⟩ := LyA.of hlw hww hkl
  have hzl := (hsm.c c (List.mem_of_getElem? hci)).2 l (List.mem_of_getElem? hkl)
  obtain ⟨xa, xe, hxf⟩ := hA.x.1
  subst hxf
  obtain ⟨ma, me, hmf⟩ := hA.m.1
  subst hmf
  obtain ⟨pa, pe, hpf⟩ := hA.p.1
  subst hpf
  obtain ⟨da, de, hdf⟩ := hA.d.1
  subst hdf
  have zx := hzl.x
  have zm := hzl.mask
  have zp := hzl.paths
  have zd := hzl.dash
  have hAlv := hA.lv
  obtain ⟨f5, z5, _, s5, _⟩ := hS.2.2 _ _ g5
  have z5c' := s5 2 _ _ _ rfl
  rw [hcv] at z5c'
  obtain ⟨fc, zc0, _, sc, _⟩ := hS.2.2 _ _ hcK
  have zcc := sc i _ _ _ hclv
  rw [hAlv] at zcc
  obtain ⟨lc', zK, zl, zs, zi⟩ := hS.2.2 _ _ hA.blk
  have zK : J[bl]? = some ⟨lc', gl, true⟩ := zK
  obtain ⟨y4, hy4⟩ := zi _ _ hA.c4
  have hast := ast_one J lc' gl bl (k * 50 + 4) (IntKind.i64.wrap (y4 - 1)) (List.getElem?_eq_some_iff.1 hy4).1
  have hS2 := hS.put hA.hi hA.blk zK hA.c4 (IntKind.i64.wrap (y4 - 1))
  have p0 : (0 : Int) ≤ (k : Int) := by omega
  have p1 : (k : Int) < (c.length : Int) := by omega
  have wk1 : IntKind.i64.wrap ((k : Int) + 1) = ((k + 1 : Nat) : Int) := by rw [wi (by omega) (by omega)]; rfl
  have kdb : decide (bl < H.length) = false := df (by have := hA.hi; omega)
  have zbl := (List.getElem?_eq_some_iff.1 zK).1
  have zb2 : ∀ X, (J.set bl X)[bl]? = some X := fun X => List.getElem?_set_self zbl
  have zx2 : ∀ Z, (lc'.set (k * 50 + 4) Z)[k * 50 + 7]? = some (.slice xa l.x.length xe) := fun Z => by rw [List.getElem?_set_ne (by omega)]; exact zs _ _ _ _ hA.c7
  (refine sg (et b3 (et b4 (et b5 (et b26 (et b27 (et l6 (et l36 (et l37 (et (dt p1) (et q0 (et q1 (et p0 (et p1 (et z5 (et z5c' (et zc0 (et zcc (et zK (et hy4 (et hast (et zb2 (et zx2 (et kdb (et Int.toNat_natCast (et Nat.zero_add (et Nat.mul_one Nat.add_zero)))))))))))))))))))))))))) ?_; try exact ⟨⟩)
  clear z5 z5c' zc0 zcc s5 sc hS zK zl zs zi hy4 hast zbl zb2 zx2
  have hS := hS2
  clear hS2
  have n7 := True.intro
  have n8 := True.intro
  refine keep (fun r T J D => D = [] ∧ Shp n1 K0 J ∧ ∃ q : Nat, q + r = l.x.length ∧ T 3 = ap A.length 0 0 ∧ T 4 = ap (A.length + 1) 0 0 ∧ T 5 = ap (B.length + L3.length) 0 0 ∧ T 26 = .int .i64 (d.comps.length : Int) ∧ T 27 = .int .i64 (i : Int) ∧ T 6 = .int .i64 (i : Int) ∧ T 36 = .int .i64 (c.length : Int) ∧ T 37 = .int .i64 (k : Int) ∧ T 7 = .int .i64 (k : Int) ∧ T 8 = ap bl (k * 50) gl ∧ T 59 = .int .i64 ((l.x.length : Nat) : Int) ∧ T 60 = .int .i64 (q : Int)) (l.x.length)
    ⟨rfl, hS, 0, by omega, by (refine sg b3 ?_; try exact ⟨⟩), by (refine sg b4 ?_; try exact ⟨⟩), by (refine sg b5 ?_; try exact ⟨⟩), by (refine sg b26 ?_; try exact ⟨⟩), by (refine sg b27 ?_; try exact ⟨⟩), by (refine sg l6 ?_; try exact ⟨⟩), by (refine sg l36 ?_; try exact ⟨⟩), by (refine sg l37 ?_; try exact ⟨⟩), by (refine sg trivial ?_; try exact ⟨⟩), by (refine sg trivial ?_; try exact ⟨⟩), by (refine sg trivial ?_; try exact ⟨⟩), by (refine sg trivial ?_; try exact ⟨⟩) <;> rfl⟩ ?_
  clear hS b3 b4 b5 b26 b27 l6 l36 l37 n7 n8
  rintro rX T J D ⟨rfl, hS, q, hqr, b3, b4, b5, b26, b27, l6, l36, l37, n7, n8, u1, u2⟩
  obtain ⟨zcells, zK, zl, zs, zi⟩ := hS.2.2 _ _ hA.blk
  have zK : J[bl]? = some ⟨zcells, gl, true⟩ := zK
  by_cases hq : q < l.x.length
  · have zc := zs _ _ _ _ hA.c7
    obtain ⟨rb, rg, rcells, y, hrv, hrK, hry, hrn, hrp⟩ := hA.x.now hS hq
    rw [hrv] at zc
    have hast := ast_one J rcells rg rb (q * 7 + 1) (IntKind.i64.wrap (y + 1)) (List.getElem?_eq_some_iff.1 hry).1
    have q0 : (0 : Int) ≤ (q : Int) := by omega
    have q1 : (q : Int) < ((l.x.length : Nat) : Int) := by omega
    have wq : IntKind.i64.wrap ((q : Int) + 1) = ((q + 1 : Nat) : Int) := by rw [wi (by omega) (by omega)]; rfl
    have kdr : decide (rb < H.length) = false := df (by omega)
    have hrp := hrp (IntKind.i64.wrap (y + 1))
    skip
    (refine sg (et b3 (et b4 (et b5 (et b26 (et b27 (et l6 (et l36 (et l37 (et n7 (et n8 (et u1 (et u2 (et (dt q1) (et q0 (et q1 (et zK (et zc (et hrK (et hry (et hast (et Int.toNat_natCast (et Nat.zero_add (et Nat.mul_one (et Nat.add_zero (et kdr wq))))))))))))))))))))))))) ?_; try exact ⟨⟩)
    exact ⟨rX - 1, by omega, hrp, q + 1, by omega, rfl⟩
  have zc := zs _ _ _ _ hA.c17
  (refine sg (et b3 (et b4 (et b5 (et b26 (et b27 (et l6 (et l36 (et l37 (et n7 (et n8 (et u1 (et u2 (et (df (show ¬ (q : Int) < ((l.x.length : Nat) : Int) by omega)) (et zK zc)))))))))))))) ?_; try exact ⟨⟩)
  clear u1 u2 zc zi zs zl hqr hq
  refine keep (fun r T J D => D = [] ∧ Shp n1 K0 J ∧ ∃ q : Nat, q + r = l.mask.2.length ∧ T 3 = ap A.length 0 0 ∧ T 4 = ap (A.length + 1) 0 0 ∧ T 5 = ap (B.length + L3.length) 0 0 ∧ T 26 = .int .i64 (d.comps.length : Int) ∧ T 27 = .int .i64 (i : Int) ∧ T 6 = .int .i64 (i : Int) ∧ T 36 = .int .i64 (c.length : Int) ∧ T 37 = .int .i64 (k : Int) ∧ T 7 = .int .i64 (k : Int) ∧ T 8 = ap bl (k * 50) gl ∧ T 80 = .int .i64 ((l.mask.2.length : Nat) : Int) ∧ T 81 = .int .i64 (q : Int)) (l.mask.2.length)
    ⟨rfl, hS, 0, by omega, by (refine sg b3 ?_; try exact ⟨⟩), by (refine sg b4 ?_; try exact ⟨⟩), by (refine sg b5 ?_; try exact ⟨⟩), by (refine sg b26 ?_; try exact ⟨⟩), by (refine sg b27 ?_; try exact ⟨⟩), by (refine sg l6 ?_; try exact ⟨⟩), by (refine sg l36 ?_; try exact ⟨⟩), by (refine sg l37 ?_; try exact ⟨⟩), by (refine sg n7 ?_; try exact ⟨⟩), by (refine sg n8 ?_; try exact ⟨⟩), by (refine sg trivial ?_; try exact ⟨⟩), by (refine sg trivial ?_; try exact ⟨⟩) <;> rfl⟩ ?_
  clear hS b3 b4 b5 b26 b27 l6 l36 l37 n7 n8
  rintro rX T J D ⟨rfl, hS, q, hqr, b3, b4, b5, b26, b27, l6, l36, l37, n7, n8, u1, u2⟩
  obtain ⟨zcells, zK, zl, zs, zi⟩ := hS.2.2 _ _ hA.blk
  have zK : J[bl]? = some ⟨zcells, gl, true⟩ := zK
  by_cases hq : q < l.mask.2.length
  · have zc := zs _ _ _ _ hA.c17
    obtain ⟨rb, rg, rcells, y, hrv, hrK, hry, hrn, hrp⟩ := hA.m.now hS hq
    rw [hrv] at zc
    have hast := ast_one J rcells rg rb (q * 2 + 0) (IntKind.i64.wrap (y + 1)) (List.getElem?_eq_some_iff.1 hry).1
    have q0 : (0 : Int) ≤ (q : Int) := by omega
    have q1 : (q : Int) < ((l.mask.2.length : Nat) : Int) := by omega
    have wq : IntKind.i64.wrap ((q : Int) + 1) = ((q + 1 : Nat) : Int) := by rw [wi (by omega) (by omega)]; rfl
    have kdr : decide (rb < H.length) = false := df (by omega)
    have hrp := hrp (IntKind.i64.wrap (y + 1))
    rw [Nat.add_zero] at hry hast hrp
    (refine sg (et b3 (et b4 (et b5 (et b26 (et b27 (et l6 (et l36 (et l37 (et n7 (et n8 (et u1 (et u2 (et (dt q1) (et q0 (et q1 (et zK (et zc (et hrK (et hry (et hast (et Int.toNat_natCast (et Nat.zero_add (et Nat.mul_one (et Nat.add_zero (et kdr wq))))))))))))))))))))))))) ?_; try exact ⟨⟩)
    exact ⟨rX - 1, by omega, hrp, q + 1, by omega, rfl⟩
  have zc := zs _ _ _ _ hA.c22
  (refine sg (et b3 (et b4 (et b5 (et b26 (et b27 (et l6 (et l36 (et l37 (et n7 (et n8 (et u1 (et u2 (et (df (show ¬ (q : Int) < ((l.mask.2.length : Nat) : Int) by omega)) (et zK zc)))))))))))))) ?_; try exact ⟨⟩)
  clear u1 u2 zc zi zs zl hqr hq
  refine keep (fun r T J D => D = [] ∧ Shp n1 K0 J ∧ ∃ j : Nat, j + r = l.shape.paths.length ∧ T 3 = ap A.length 0 0 ∧ T 4 = ap (A.length + 1) 0 0 ∧ T 5 = ap (B.length + L3.length) 0 0 ∧ T 26 = .int .i64 (d.comps.length : Int) ∧ T 27 = .int .i64 (i : Int) ∧ T 6 = .int .i64 (i : Int) ∧ T 36 = .int .i64 (c.length : Int) ∧ T 37 = .int .i64 (k : Int) ∧ T 7 = .int .i64 (k : Int) ∧ T 8 = ap bl (k * 50) gl ∧ T 102 = .int .i64 (l.shape.paths.length : Int) ∧ T 103 = .int .i64 (j : Int)) l.shape.paths.length
    ⟨rfl, hS, 0, by omega, by (refine sg b3 ?_; try exact ⟨⟩), by (refine sg b4 ?_; try exact ⟨⟩), by (refine sg b5 ?_; try exact ⟨⟩), by (refine sg b26 ?_; try exact ⟨⟩), by (refine sg b27 ?_; try exact ⟨⟩), by (refine sg l6 ?_; try exact ⟨⟩), by (refine sg l36 ?_; try exact ⟨⟩), by (refine sg l37 ?_; try exact ⟨⟩), by (refine sg n7 ?_; try exact ⟨⟩), by (refine sg n8 ?_; try exact ⟨⟩), by (refine sg trivial ?_; try exact ⟨⟩), by (refine sg trivial ?_; try exact ⟨⟩) <;> rfl⟩ ?_
  clear hS zK b3 b4 b5 b26 b27 l6 l36 l37 n7 n8
  rintro r3 T J D ⟨rfl, hS, j, hjr, b3, b4, b5, b26, b27, l6, l36, l37, n7, n8, m102, m103⟩
  obtain ⟨zcells, zK, zl, zs, zi⟩ := hS.2.2 _ _ hA.blk
  have zK : J[bl]? = some ⟨zcells, gl, true⟩ := zK
  by_cases hj : j < l.shape.paths.length
  · obtain ⟨x, hxj⟩ : ∃ x, l.shape.paths[j]? = some x := ⟨_, List.getElem?_eq_getElem hj⟩
    obtain ⟨pb, pg, pcs, prw, pv, hpv, hpK, hpc, hpI⟩ := hA.p.2 j x hxj
    obtain ⟨pva, pve, hpvf⟩ := hpI.1
    subst hpvf
    have hxl := hzl.pts x (List.mem_of_getElem? hxj)
    have zc := zs _ _ _ _ hA.c22
    rw [hpv] at zc
    obtain ⟨pcells, pK, _, ps, _⟩ := hS.2.2 _ _ hpK
    have pc := ps _ _ _ _ hpc
    have q0 : (0 : Int) ≤ (j : Int) := by omega
    have q1 : (j : Int) < (l.shape.paths.length : Int) := by omega
    have wj : IntKind.i64.wrap ((j : Int) + 1) = ((j + 1 : Nat) : Int) := by rw [wi (by omega) (by omega)]; rfl
    (refine sg (et b3 (et b4 (et b5 (et b26 (et b27 (et l6 (et l36 (et l37 (et n7 (et n8 (et m102 (et m103 (et (dt q1) (et q0 (et q1 (et zK (et zc (et pK (et pc (et Int.toNat_natCast Nat.zero_add)))))))))))))))))))) ?_; try exact ⟨⟩)
    refine keep (fun r T J D => D = [] ∧ Shp n1 K0 J ∧ ∃ q : Nat, q + r = x.p.2.length ∧ T 3 = ap A.length 0 0 ∧ T 4 = ap (A.length + 1) 0 0 ∧ T 5 = ap (B.length + L3.length) 0 0 ∧ T 26 = .int .i64 (d.comps.length : Int) ∧ T 27 = .int .i64 (i : Int) ∧ T 6 = .int .i64 (i : Int) ∧ T 36 = .int .i64 (c.length : Int) ∧ T 37 = .int .i64 (k : Int) ∧ T 7 = .int .i64 (k : Int) ∧ T 8 = ap bl (k * 50) gl ∧ T 102 = .int .i64 (l.shape.paths.length : Int) ∧ T 103 = .int .i64 (j : Int) ∧ T 11 = .int .i64 (j : Int) ∧ T 116 = .int .i64 (x.p.2.length : Int) ∧ T 117 = .int .i64 (q : Int)) x.p.2.length
      ⟨rfl, hS, 0, by omega, by (refine sg b3 ?_; try exact ⟨⟩), by (refine sg b4 ?_; try exact ⟨⟩), by (refine sg b5 ?_; try exact ⟨⟩), by (refine sg b26 ?_; try exact ⟨⟩), by (refine sg b27 ?_; try exact ⟨⟩), by (refine sg l6 ?_; try exact ⟨⟩), by (refine sg l36 ?_; try exact ⟨⟩), by (refine sg l37 ?_; try exact ⟨⟩), by (refine sg n7 ?_; try exact ⟨⟩), by (refine sg n8 ?_; try exact ⟨⟩), by (refine sg m102 ?_; try exact ⟨⟩), by (refine sg m103 ?_; try exact ⟨⟩), by (refine sg trivial ?_; try exact ⟨⟩), by (refine sg trivial ?_; try exact ⟨⟩), by (refine sg trivial ?_; try exact ⟨⟩) <;> rfl⟩ ?_
    clear hS zK zc pK pc ps zs zi zl b3 b4 b5 b26 b27 l6 l36 l37 n7 n8 m102 m103
    rintro r4 T J D ⟨rfl, hS, n, hnr, b3, b4, b5, b26, b27, l6, l36, l37, n7, n8, m102, m103, m11, u1, u2⟩
    by_cases hn : n < x.p.2.length
    · obtain ⟨zcells, zK, zl, zs, zi⟩ := hS.2.2 _ _ hA.blk
      have zK : J[bl]? = some ⟨zcells, gl, true⟩ := zK
      have zc := zs _ _ _ _ hA.c22
      rw [hpv] at zc
      obtain ⟨pcells, pK, _, ps, _⟩ := hS.2.2 _ _ hpK
      have pc := ps _ _ _ _ hpc
      obtain ⟨rb, rg, rcells, y, hrv, hrK, hry, hrn, hrp⟩ := hpI.now hS hn
      rw [hrv] at pc
      have hast := ast_one J rcells rg rb (n * 2 + 1) (IntKind.i64.wrap (y + 1)) (List.getElem?_eq_some_iff.1 hry).1
      have n0 : (0 : Int) ≤ (n : Int) := by omega
      have n1' : (n : Int) < (x.p.2.length : Int) := by omega
      have wn : IntKind.i64.wrap ((n : Int) + 1) = ((n + 1 : Nat) : Int) := by rw [wi (by omega) (by omega)]; rfl
      have kdr : decide (rb < H.length) = false := df (by omega)
      (refine sg (et b3 (et b4 (et b5 (et b26 (et b27 (et l6 (et l36 (et l37 (et n7 (et n8 (et m102 (et m103 (et m11 (et u1 (et u2 (et (dt n1') (et q0 (et q1 (et n0 (et n1' (et zK (et zc (et pK (et pc (et hrK (et hry (et hast (et Int.toNat_natCast (et Nat.zero_add (et kdr wn)))))))))))))))))))))))))))))) ?_; try exact ⟨⟩)
      exact ⟨r4 - 1, by omega, hrp _, n + 1, by omega, rfl⟩
    · (refine sg (et b3 (et b4 (et b5 (et b26 (et b27 (et l6 (et l36 (et l37 (et n7 (et n8 (et m102 (et m103 (et m11 (et u1 (et u2 (et (df (show ¬ (n : Int) < (x.p.2.length : Int) by omega)) wj)))))))))))))))) ?_; try exact ⟨⟩)
      exact ⟨r3 - 1, by omega, hS, j + 1, by omega, rfl⟩
  have zc := zs _ _ _ _ hA.c47
  (refine sg (et b3 (et b4 (et b5 (et b26 (et b27 (et l6 (et l36 (et l37 (et n7 (et n8 (et m102 (et m103 (et (df (show ¬ (j : Int) < (l.shape.paths.length : Int) by omega)) (et zK zc)))))))))))))) ?_; try exact ⟨⟩)
  clear m102 m103 zc zi zs zl hjr hj
  refine keep (fun r T J D => D = [] ∧ Shp n1 K0 J ∧ ∃ q : Nat, q + r = l.shape.dash.length ∧ T 3 = ap A.length 0 0 ∧ T 4 = ap (A.length + 1) 0 0 ∧ T 5 = ap (B.length + L3.length) 0 0 ∧ T 26 = .int .i64 (d.comps.length : Int) ∧ T 27 = .int .i64 (i : Int) ∧ T 6 = .int .i64 (i : Int) ∧ T 36 = .int .i64 (c.length : Int) ∧ T 37 = .int .i64 (k : Int) ∧ T 7 = .int .i64 (k : Int) ∧ T 8 = ap bl (k * 50) gl ∧ T 144 = .int .i64 ((l.shape.dash.length : Nat) : Int) ∧ T 145 = .int .i64 (q : Int)) (l.shape.dash.length)
    ⟨rfl, hS, 0, by omega, by (refine sg b3 ?_; try exact ⟨⟩), by (refine sg b4 ?_; try exact ⟨⟩), by (refine sg b5 ?_; try exact ⟨⟩), by (refine sg b26 ?_; try exact ⟨⟩), by (refine sg b27 ?_; try exact ⟨⟩), by (refine sg l6 ?_; try exact ⟨⟩), by (refine sg l36 ?_; try exact ⟨⟩), by (refine sg l37 ?_; try exact ⟨⟩), by (refine sg n7 ?_; try exact ⟨⟩), by (refine sg n8 ?_; try exact ⟨⟩), by (refine sg trivial ?_; try exact ⟨⟩), by (refine sg trivial ?_; try exact ⟨⟩) <;> rfl⟩ ?_
  clear hS b3 b4 b5 b26 b27 l6 l36 l37 n7 n8
  rintro rX T J D ⟨rfl, hS, q, hqr, b3, b4, b5, b26, b27, l6, l36, l37, n7, n8, u1, u2⟩
  obtain ⟨zcells, zK, zl, zs, zi⟩ := hS.2.2 _ _ hA.blk
  have zK : J[bl]? = some ⟨zcells, gl, true⟩ := zK
  by_cases hq : q < l.shape.dash.length
  · have zc := zs _ _ _ _ hA.c47
    obtain ⟨rb, rg, rcells, y, hrv, hrK, hry, hrn, hrp⟩ := hA.d.now hS hq
    rw [hrv] at zc
    have hast := ast_one J rcells rg rb (q * 1 + 0) (IntKind.i64.wrap (y + 1)) (List.getElem?_eq_some_iff.1 hry).1
    have q0 : (0 : Int) ≤ (q : Int) := by omega
    have q1 : (q : Int) < ((l.shape.dash.length : Nat) : Int) := by omega
    have wq : IntKind.i64.wrap ((q : Int) + 1) = ((q + 1 : Nat) : Int) := by rw [wi (by omega) (by omega)]; rfl
    have kdr : decide (rb < H.length) = false := df (by omega)
    have hrp := hrp (IntKind.i64.wrap (y + 1))
    rw [Nat.mul_one, Nat.add_zero] at hry hast hrp
    (refine sg (et b3 (et b4 (et b5 (et b26 (et b27 (et l6 (et l36 (et l37 (et n7 (et n8 (et u1 (et u2 (et (dt q1) (et q0 (et q1 (et zK (et zc (et hrK (et hry (et hast (et Int.toNat_natCast (et Nat.zero_add (et Nat.mul_one (et Nat.add_zero (et kdr wq))))))))))))))))))))))))) ?_; try exact ⟨⟩)
    exact ⟨rX - 1, by omega, hrp, q + 1, by omega, rfl⟩
  have zc := zK
  (refine sg (et b3 (et b4 (et b5 (et b26 (et b27 (et l6 (et l36 (et l37 (et n7 (et n8 (et u1 (et u2 (et (df (show ¬ (q : Int) < ((l.shape.dash.length : Nat) : Int) by omega)) wk1))))))))))))) ?_; try exact ⟨⟩)
  exact ⟨r2 - 1, by omega, hS, k + 1, by omega, rfl⟩
end Go.Proofs.Ytnebnbdeobcegaa
