/- Merged texts: DocT DocU DocV Odd1. -/
import Derived.Test.YtnebnbdeobcegaaGreatZY
/- Documents: the walk of a layer's copy. -/
namespace Go.Proofs.YtnebnbdeobcegaaGreat
open Go Go.RowKit E
attribute [local irreducible] XRun XOps XCode XCal XLoop XQ SemCall
set_option linter.unusedSimpArgs false
set_option linter.unusedVariables false
theorem flatten_splice {s : Nat} : ∀ {cs : List (List Value)} {i : Nat} {c : List Value} (j : Nat) (vs : List Value), (∀ c ∈ cs, c.length = s) → cs[i]? = some c → j + vs.length ≤ s → splice cs.flatten (i * s + j) vs = (cs.set i (splice c j vs)).flatten
  | [], i, c, j, vs, _, hi, _ => by simp at hi
  | d :: cs, 0, c, j, vs, h, hi, hj => by
    simp at hi; subst hi
    have hd := h d (by simp)
    rw [Nat.zero_mul, Nat.zero_add, List.set_cons_zero, List.flatten_cons, List.flatten_cons, splice_def, splice_def, List.take_append_of_le_length (by omega), List.drop_append_of_le_length (by omega)]
    simp
  | d :: cs, i + 1, c, j, vs, h, hi, hj => by
    have hd := h d (by simp)
    have ih := flatten_splice (s := s) (cs := cs) (i := i) (c := c) j vs (fun d hd => h d (by simp [hd])) (by simpa using hi) hj
    have e1 : (i + 1) * s + j = d.length + (i * s + j) := by rw [Nat.add_mul, hd]; omega
    have e2 : (i + 1) * s + j + vs.length = d.length + (i * s + j + vs.length) := by rw [Nat.add_mul, hd]; omega
    rw [List.flatten_cons, List.set_cons_succ, List.flatten_cons, ← ih, splice_def, splice_def, e2, e1, List.take_length_add_append, List.drop_length_add_append, List.append_assoc, List.append_assoc, List.append_assoc]
theorem ClRow.dep {α : Type} {s : Nat} {E : AH → List Value → α → Prop} {H H' : AH} {v : Value} {l : List α} (hE : ∀ K J c x, E K c x → E J c x) (h : ClRow s E H H' v l) (hl : l.length ≤ 9223372036854775807) : Dep H.length H' (fun J => RowOf s E J v l) := by
  rcases h with ⟨rfl, rfl⟩ | ⟨b, g, cs, h0, rfl, h2, h3, h4⟩
  · exact fun J _ => RowOf.none
  · exact fun J hJ => .inr ⟨b, g, [], true, cs, rfl, by rw [List.append_nil]; exact hJ _ _ h0 h2, h3, hl, fun i x hx => by obtain ⟨c, e1, e2, e3⟩ := h4 i x hx; exact ⟨c, e1, e2, hE _ _ _ _ e3⟩⟩
theorem ClRow.form {α : Type} {s : Nat} {E : AH → List Value → α → Prop} {H H' : AH} {v : Value} {l : List α} (h : ClRow s E H H' v l) : ∃ a e, v = .slice a l.length e := by
  rcases h with ⟨rfl, rfl⟩ | ⟨b, g, cs, h0, rfl, _⟩
  · exact ⟨_, _, rfl⟩
  · exact ⟨_, _, rfl⟩
theorem ClPts.dep {H H' : AH} {v : Value} {l : List Pt} (h : ClPts H H' v l) (hl : l.length ≤ 9223372036854775807) : Dep H.length H' (fun J => Pts J v l) := by
  rcases h with ⟨rfl, rfl⟩ | ⟨b, g, h0, rfl, h2⟩
  · exact fun J _ => .inl ⟨rfl, .inr rfl⟩
  · exact fun J hJ => .inr ⟨b, g, [], true, rfl, by rw [List.append_nil]; exact hJ _ _ h0 h2, hl⟩
theorem ClPts.form {H H' : AH} {v : Value} {l : List Pt} (h : ClPts H H' v l) : ∃ a e, v = .slice a l.length e := by
  rcases h with ⟨rfl, rfl⟩ | ⟨b, g, h0, rfl, _⟩
  · exact ⟨_, _, rfl⟩
  · exact ⟨_, _, rfl⟩
/-- A slice whose block may be written. -/
def Wr (K : AH) (v : Value) : Prop := ∀ b off g len e, v = .slice (some ⟨b, off, some g⟩) len e → ∃ k : Blk, K[b]? = some k ∧ k.rw = true
theorem Wr.old {K J : AH} {v : Value} (h : Wr K v) (o : Old K J) : Wr J v := fun b off g len e hv => by
  obtain ⟨k, h1, h2⟩ := h b off g len e hv; exact ⟨k, o _ _ h1, h2⟩
theorem Wr.nil (K : AH) (l e : Nat) : Wr K (.slice none l e) := fun b off g len e hv => by cases hv
theorem Wr.sl {K : AH} {b g len e : Nat} {cs : List Value} (h : K[b]? = some ⟨cs, g, true⟩) : Wr K (sl b 0 g len e) := fun b' off g' len' e' hv => by
  injection hv with h1 _ _
  injection h1 with h1
  injection h1 with h1 _ _
  subst h1
  exact ⟨_, h, rfl⟩
theorem ClRow.wr {α : Type} {s : Nat} {E : AH → List Value → α → Prop} {H H' : AH} {v : Value} {l : List α} (h : ClRow s E H H' v l) : Dep H.length H' (fun J => Wr J v) := by
  rcases h with ⟨_, rfl⟩ | ⟨b, g, cs, h0, rfl, h2, _⟩
  · exact fun J _ => Wr.nil _ _ _
  · exact fun J hJ => Wr.sl (hJ _ _ h0 h2)
theorem ClPts.wr {H H' : AH} {v : Value} {l : List Pt} (h : ClPts H H' v l) : Dep H.length H' (fun J => Wr J v) := by
  rcases h with ⟨_, rfl⟩ | ⟨b, g, h0, rfl, h2⟩
  · exact fun J _ => Wr.nil _ _ _
  · exact fun J hJ => Wr.sl (hJ _ _ h0 h2)
theorem MkRow.wr {α : Type} {s : Nat} {E : AH → List Value → α → Prop} {n0 : Nat} {K : AH} {v : Value} {l : List α} (h : MkRow s E n0 K v l) : Dep n0 K (fun J => Wr J v) := by
  rcases h with ⟨_, rfl⟩ | ⟨b, g, cs, h0, rfl, h2, _⟩
  · exact fun J _ => Wr.nil _ _ _
  · exact fun J hJ => Wr.sl (hJ _ _ h0 h2)
def PkT (K : AH) (c : List Value) (x : Pk) : Prop := ∃ pv, c = [.int .i64 x.t, .bool x.p.1, pv, .int .i64 x.how, .int .i64 x.e.x1, .int .i64 x.e.y1, .int .i64 x.e.x2, .int .i64 x.e.y2] ∧ Pts K pv x.p.2 ∧ Wr K pv
/-- A layer with rows that may be written. -/
def LyT (K : AH) (c : List Value) (l : Ly) : Prop := ∃ v0 v1 v2 v3 v4 v5 v6 v7 v8 pm vw vh vp vc vd vda vf vt, c = lyVs l v0 v1 v2 v3 v4 v5 v6 v7 v8 pm vw vh vp vc vd vda vf vt ∧ (LyV K l v0 v1 v2 v3 v4 v5 v6 v7 v8 pm ∧ ShV K l.shape vw vh vp vc vd vda vf vt) ∧ Wr K v0 ∧ Wr K pm ∧ Wr K vda ∧ RowOf 8 PkT K vp l.shape.paths
theorem LyT.e {K : AH} {c : List Value} {l : Ly} (h : LyT K c l) : LyE K c l := by
  obtain ⟨v0, v1, v2, v3, v4, v5, v6, v7, v8, pm, vw, vh, vp, vc, vd, vda, vf, vt, h1, h2, _⟩ := h
  exact ⟨v0, v1, v2, v3, v4, v5, v6, v7, v8, pm, vw, vh, vp, vc, vd, vda, vf, vt, h1, h2.1, h2.2⟩
theorem RowOf.sub {α : Type} {s : Nat} {E F : AH → List Value → α → Prop} {K : AH} {v : Value} {l : List α} (h : RowOf s E K v l) (m : ∀ c x, E K c x → F K c x) : RowOf s F K v l := by
  rcases h with h | ⟨b, g, rest, rw_, cs, h1, h2, h3, h4, h5⟩
  · exact .inl h
  · exact .inr ⟨b, g, rest, rw_, cs, h1, h2, h3, h4, fun i x hx => by obtain ⟨c, e1, e2, e3⟩ := h5 i x hx; exact ⟨c, e1, e2, m _ _ e3⟩⟩
def CoT (K : AH) (c : List Value) (l : List Ly) : Prop := ∃ v, c = [v] ∧ RowOf 50 LyT K v l ∧ Wr K v
theorem CoT.e {K : AH} {c : List Value} {l : List Ly} (h : CoT K c l) : CoE K c l := by
  obtain ⟨v, h1, h2, _⟩ := h
  exact ⟨v, h1, h2.sub fun _ _ => LyT.e⟩
/-- A layer whose rows are no longer than so. -/
structure LyS (l : Ly) : Prop where
  x : l.x.length ≤ 1000
  y : l.y.length ≤ 1000
  ax : l.ax.length ≤ 1000
  ay : l.ay.length ≤ 1000
  sx : l.sx.length ≤ 1000
  sy : l.sy.length ≤ 1000
  turn : l.turn.length ≤ 1000
  opac : l.opac.length ≤ 1000
  remap : l.remap.length ≤ 1000
  mask : l.mask.2.length ≤ 1000
  w : l.shape.w.length ≤ 1000
  h : l.shape.h.length ≤ 1000
  paths : l.shape.paths.length ≤ 1000
  pts : ∀ p ∈ l.shape.paths, p.p.2.length ≤ 1000
  colors : l.shape.colors.length ≤ 1000
  width : l.shape.width.length ≤ 1000
  dash : l.shape.dash.length ≤ 1000
  frm : l.shape.frm.length ≤ 1000
  to : l.shape.to.length ≤ 1000
def ownF (l : Ly) : Nat → List Ky
  | 0 => l.x
  | 1 => l.y
  | 2 => l.ax
  | 3 => l.ay
  | 4 => l.sx
  | 5 => l.sy
  | 6 => l.turn
  | 7 => l.opac
  | 8 => l.remap
  | 9 => l.shape.w
  | 10 => l.shape.h
  | 11 => l.shape.width
  | 12 => l.shape.frm
  | _ => l.shape.to
abbrev ownC (l : Ly) (g : Nat → Value) (pm vp vc vda : Value) : List Value := lyVs l (g 0) (g 1) (g 2) (g 3) (g 4) (g 5) (g 6) (g 7) (g 8) pm (g 9) (g 10) vp vc (g 11) vda (g 12) (g 13)
abbrev ownP (n : Nat) : List Value := [ap n 7 0, ap n 8 0, ap n 9 0, ap n 10 0, ap n 11 0, ap n 12 0, ap n 13 0, ap n 14 0, ap n 15 0, ap n 20 0, ap n 21 0, ap n 41 0, ap n 48 0, ap n 49 0]
def ownG (v0 v1 v2 v3 v4 v5 v6 v7 v8 vw vh vd vf vt : Value) : Nat → Value
  | 0 => v0
  | 1 => v1
  | 2 => v2
  | 3 => v3
  | 4 => v4
  | 5 => v5
  | 6 => v6
  | 7 => v7
  | 8 => v8
  | 9 => vw
  | 10 => vh
  | 11 => vd
  | 12 => vf
  | _ => vt
abbrev ownS (g : Nat → Value) (i : Nat) (v : Value) : Nat → Value := fun j => if j = i then v else g j
theorem ownF_len {l : Ly} (h : LyS l) (j : Nat) : (ownF l j).length ≤ 1000 := by
  unfold ownF; split <;> first | exact h.x | exact h.y | exact h.ax | exact h.ay | exact h.sx | exact h.sy | exact h.turn | exact h.opac | exact h.remap | exact h.w | exact h.h | exact h.width | exact h.frm | exact h.to
/-- Where the loop over a layer's rows of keys is. -/
structure OwK (l : Ly) (H K : AH) (i : Nat) (g : Nat → Value) (pm vp vc vda : Value) : Prop where
  old : Old H K
  len : H.length + 3 ≤ K.length
  c : K[H.length]? = some ⟨ownC l g pm vp vc vda, 0, true⟩
  z : ∃ zc : List Value, zc.length = 50 ∧ K[H.length + 1]? = some ⟨zc, 0, true⟩
  p : K[H.length + 2]? = some ⟨ownP H.length, 0, true⟩
  d : ∀ j, j < i → Dep (H.length + 3) K (fun J => Kys J (g j) (ownF l j) ∧ Wr J (g j))
  u : ∀ j, i ≤ j → j < 14 → Kys H (g j) (ownF l j)
theorem OwK.next {l : Ly} {H K L : AH} {i : Nat} {g : Nat → Value} {pm vp vc vda v : Value} (hz : LyS l) (h : OwK l H K i g pm vp vc vda) (hC : ClRow 7 KyE K (K ++ L) v (ownF l i)) : OwK l H ((K ++ L).set H.length ⟨ownC l (ownS g i v) pm vp vc vda, 0, true⟩) (i + 1) (ownS g i v) pm vp vc vda := by
  have hl := h.len
  have ho : Old K (K ++ L) := Old.app' _ _
  have hx := Olx.set0 H.length (K ++ L) ⟨ownC l (ownS g i v) pm vp vc vda, 0, true⟩
  refine ⟨fun c k e => ?_, by rw [List.length_set, List.length_append]; omega, List.getElem?_set_self (by rw [List.length_append]; omega), ?_, ?_, fun j hj => ?_, fun j h1 h2 => ?_⟩
  · have := (List.getElem?_eq_some_iff.1 e).1
    exact hx _ _ (by omega) (ho _ _ (h.old _ _ e))
  · obtain ⟨zc, h1, h2⟩ := h.z
    exact ⟨zc, h1, hx _ _ (by omega) (ho _ _ h2)⟩
  · exact hx _ _ (by omega) (ho _ _ h.p)
  · by_cases e : j = i
    · subst e
      show Dep _ _ (fun J => Kys J (if j = j then v else g j) (ownF l j) ∧ Wr J (if j = j then v else g j))
      rw [if_pos rfl]
      exact (((hC.dep (fun _ _ _ _ h => h) (by have := ownF_len hz j; omega)).and hC.wr).low hl).olx hx (by omega)
    · show Dep _ _ (fun J => Kys J (if j = i then v else g j) (ownF l j) ∧ Wr J (if j = i then v else g j))
      rw [if_neg e]
      exact ((h.d j (by omega)).old ho).olx hx (by omega)
  · show Kys H (if j = i then v else g j) (ownF l j)
    rw [if_neg (by omega)]
    exact h.u j (by omega) h2
/-- A layer's copy on its way: its cells, what stands. -/
structure OwX (H K : AH) (C : List Value) (b : Nat) (Φ : AH → Prop) : Prop where
  old : Old H K
  len : H.length + 3 ≤ K.length
  c : K[H.length]? = some ⟨C, 0, true⟩
  z : ∃ zc : List Value, zc.length = 50 ∧ K[H.length + 1]? = some ⟨zc, 0, true⟩
  d : Dex (H.length + 3) b K Φ
theorem OwX.step {H K J : AH} {C C' : List Value} {b : Nat} {Φ Ψ : AH → Prop} (h : OwX H K C b Φ) (o : Olx H.length K J) (hl : K.length ≤ J.length) (hc : J[H.length]? = some ⟨C', 0, true⟩) (hd : Dex (H.length + 3) b J Ψ) : OwX H J C' b (fun J => Φ J ∧ Ψ J) := by
  obtain ⟨zc, h1, h2⟩ := h.z
  refine ⟨fun c k e => ?_, Nat.le_trans h.len hl, hc, ⟨zc, h1, o _ _ (by omega) h2⟩, fun J' hJ => ⟨h.d.olt o (by omega) J' hJ, hd J' hJ⟩⟩
  have := (List.getElem?_eq_some_iff.1 e).1
  exact o _ _ (by omega) (h.old _ _ e)
theorem OwX.olx {H K J : AH} {C : List Value} {b : Nat} {Φ : AH → Prop} (h : OwX H K C b Φ) (hb : H.length + 3 ≤ b) (o : Olx b K J) (hl : K.length ≤ J.length) : OwX H J C b Φ := by
  obtain ⟨zc, h1, h2⟩ := h.z
  refine ⟨fun c k e => ?_, Nat.le_trans h.len hl, o _ _ (by omega) h.c, ⟨zc, h1, o _ _ (by omega) h2⟩, h.d.olx o⟩
  have := (List.getElem?_eq_some_iff.1 e).1
  exact o _ _ (by omega) (h.old _ _ e)
theorem flatten_get {s : Nat} : ∀ {cs : List (List Value)} {i : Nat} {c : List Value} (j : Nat), (∀ c ∈ cs, c.length = s) → cs[i]? = some c → j < s → cs.flatten[i * s + j]? = c[j]?
  | [], i, c, j, _, hi, _ => by simp at hi
  | d :: cs, 0, c, j, h, hi, hj => by
    simp at hi; subst hi
    have hd := h d (by simp)
    rw [Nat.zero_mul, Nat.zero_add, List.flatten_cons, List.getElem?_append_left (by omega)]
  | d :: cs, i + 1, c, j, h, hi, hj => by
    have hd := h d (by simp)
    have ih := flatten_get (s := s) (cs := cs) (i := i) (c := c) j (fun d hd => h d (by simp [hd])) (by simpa using hi) hj
    have e : (i + 1) * s + j = d.length + (i * s + j) := by rw [Nat.add_mul, hd]; omega
    rw [List.flatten_cons, e, List.getElem?_append_right (by omega), Nat.add_sub_cancel_left, ih]
/-- Rows of paths of which the first i are copied. -/
structure PkK (H K : AH) (b g i : Nat) (ds : List (List Value)) (l : List Pk) : Prop where
  b0 : H.length + 3 ≤ b
  k : K[b]? = some ⟨ds.flatten, g, true⟩
  len : ds.length = l.length
  el : ∀ (j : Nat) x, l[j]? = some x → ∃ c, ds[j]? = some c ∧ c.length = 8 ∧ (j < i → Dex (H.length + 3) b K (fun J => PkT J c x)) ∧ (i ≤ j → PkE H c x)
theorem PkK.all {H K : AH} {b g i : Nat} {ds : List (List Value)} {l : List Pk} (h : PkK H K b g i ds l) : ∀ c ∈ ds, c.length = 8 :=
  RowOf.all (P := fun _ _ => True) h.len fun i x hx => by obtain ⟨c, h1, h2, _⟩ := h.el i x hx; exact ⟨c, h1, h2, trivial⟩
theorem PkK.next {H K L : AH} {b g i : Nat} {ds : List (List Value)} {l : List Pk} {x : Pk} {c : List Value} {pv : Value} (h : PkK H K b g i ds l) (hx : l[i]? = some x) (hc : ds[i]? = some c) (hl : x.p.2.length ≤ 1000)
    (hK : H.length + 3 ≤ K.length) (hP : ClPts K (K ++ L) pv x.p.2) : PkK H ((K ++ L).set b ⟨(ds.set i (splice c 1 [.bool x.p.1, pv])).flatten, g, true⟩) b g (i + 1) (ds.set i (splice c 1 [.bool x.p.1, pv])) l := by
  have hbl := (List.getElem?_eq_some_iff.1 h.k).1
  have hx' := Olx.set0 b (K ++ L) ⟨(ds.set i (splice c 1 [.bool x.p.1, pv])).flatten, g, true⟩
  refine ⟨h.b0, List.getElem?_set_self (by rw [List.length_append]; omega), by rw [List.length_set]; exact h.len, fun j y hy => ?_⟩
  obtain ⟨c', f1, f2, f3, f4⟩ := h.el j y hy
  by_cases e : i = j
  · subst e
    rw [hx] at hy; cases hy
    rw [hc] at f1; cases f1
    obtain ⟨pv0, rfl, _⟩ := f4 (Nat.le_refl _)
    refine ⟨_, List.getElem?_set_self (List.getElem?_eq_some_iff.1 hc).1, rfl, fun _ => ?_, fun hh => by omega⟩
    have hd := (hP.dep (by omega)).and hP.wr
    exact fun J hJ => ⟨pv, rfl, (hd.dex (b := b) (n0 := H.length + 3) hK (.inl hbl)).olx hx' J hJ⟩
  · refine ⟨c', by rw [List.getElem?_set_ne e]; exact f1, f2, fun hh => ?_, fun hh => f4 (by omega)⟩
    exact ((f3 (by omega)).olx (Olx.old (Old.app' K L))).olx hx'
theorem RowOf.fix {α : Type} {s : Nat} {E : AH → List Value → α → Prop} {H K : AH} {v : Value} {l : List α} (h : RowOf s E H v l) (o : Old H K) : RowOf s (fun _ c x => E H c x) K v l := by
  rcases h with h | ⟨b, g, rest, rw_, cs, h1, h2, h3, h4, h5⟩
  · exact .inl h
  · exact .inr ⟨b, g, rest, rw_, cs, h1, o _ _ h2, h3, h4, h5⟩
set_option maxHeartbeats 8000000 in
theorem own_ (l : Ly) (v0 v1 v2 v3 v4 v5 v6 v7 v8 pm vw vh vp vc vd vda vf vt : Value) (H : AH) (h : LyV H l v0 v1 v2 v3 v4 v5 v6 v7 v8 pm) (hs : ShV H l.shape vw vh vp vc vd vda vf vt) (hz : LyS l) :
    Cal Tryz.prog 60 [.agg (lyVs l v0 v1 v2 v3 v4 v5 v6 v7 v8 pm vw vh vp vc vd vda vf vt).toArray] H fun v' H' W => W = [] ∧ (∃ L, H' = H ++ L) ∧ ∃ w0 w1 w2 w3 w4 w5 w6 w7 w8 wm ww wh wp wc wd wda wf wt, v' = .agg (lyVs l w0 w1 w2 w3 w4 w5 w6 w7 w8 wm ww wh wp wc wd wda wf wt).toArray ∧ Dep H.length H' (fun J => (LyV J l w0 w1 w2 w3 w4 w5 w6 w7 w8 wm ∧ ShV J l.shape ww wh wp wc wd wda wf wt) ∧ Wr J w0 ∧ Wr J wm ∧ Wr J wda ∧ RowOf 8 PkT J wp l.shape.paths) := by
  refine adds_of ?_
  have kd : ∀ n, decide (H.length + n < H.length) = false := fun n => df (by omega)
  have kd0 : decide (H.length < H.length) = false := df (by omega)
  refine XCal.of hm Tryz.func60 rfl (fun xs w => Tryz.call60 xs w) Tryz.ntmps60 Tryz.results60 rfl ?_
  (refine sg (et kd kd0) ?_; try exact ⟨⟩)
  refine keep (fun r T K D => D = [] ∧ ∃ (i : Nat) (g : Nat → Value), i + r = 14 ∧ OwK l H K i g pm vp vc vda ∧ T 1 = ap H.length 0 0 ∧ T 2 = ap (H.length + 1) 0 0 ∧ T 26 = sl (H.length + 2) 0 0 14 1 ∧ T 27 = .int .i64 14 ∧ T 28 = .int .i64 (i : Int)) 14
    ⟨rfl, 0, ownG v0 v1 v2 v3 v4 v5 v6 v7 v8 vw vh vd vf vt, rfl, ⟨Old.app' _ _, by simp, by rw [hget_app0]; rfl, ⟨_, rfl, by rw [hget_app]; rfl⟩, by rw [hget_app]; rfl, fun j hj => by omega, fun j _ h2 => ?_⟩, by (refine sg trivial ?_; try exact ⟨⟩), by (refine sg trivial ?_; try exact ⟨⟩), by (refine sg trivial ?_; try exact ⟨⟩), by (refine sg trivial ?_; try exact ⟨⟩), by (refine sg trivial ?_; try exact ⟨⟩) <;> rfl⟩ ?_
  · match j, h2 with
    | 0, _ => exact h.x
    | 1, _ => exact h.y
    | 2, _ => exact h.ax
    | 3, _ => exact h.ay
    | 4, _ => exact h.sx
    | 5, _ => exact h.sy
    | 6, _ => exact h.turn
    | 7, _ => exact h.opac
    | 8, _ => exact h.remap
    | 9, _ => exact hs.w
    | 10, _ => exact hs.h
    | 11, _ => exact hs.width
    | 12, _ => exact hs.frm
    | 13, _ => exact hs.to
    | j + 14, h2 => omega
  rintro r T K D ⟨rfl, i, g, hir, hO, t1, t2, t26, t27, t28⟩
  have hl := hO.len
  have hc := hO.c
  have hp := hO.p
  have kdK : ∀ n, decide (K.length + n < H.length) = false := fun n => df (by omega)
  have kdK0 : decide (K.length < H.length) = false := df (by omega)
  by_cases hi : i < 14
  · have ck := clKy_ (ownF l i) (g i) (ownF_len hz i) K ((hO.u i (Nat.le_refl _) hi).old KyE.m hO.old)
    have hcase : i = 0 ∨ i = 1 ∨ i = 2 ∨ i = 3 ∨ i = 4 ∨ i = 5 ∨ i = 6 ∨ i = 7 ∨ i = 8 ∨ i = 9 ∨ i = 10 ∨ i = 11 ∨ i = 12 ∨ i = 13 := by omega
    have w1 : IntKind.i64.wrap ((i : Int) + 1) = ((i + 1 : Nat) : Int) := by rw [wi (by omega) (by omega)]; rfl
    rcases hcase with rfl | rfl | rfl | rfl | rfl | rfl | rfl | rfl | rfl | rfl | rfl | rfl | rfl | rfl
    all_goals
      (refine sg (et t1 (et t2 (et t26 (et t27 (et t28 (et hc (et hp (et kdK kdK0)))))))) ?_; try exact ⟨⟩)
      refine ck.x ?_
      rintro v H1 W1 ⟨rfl, ⟨L, rfl⟩, hC⟩
      have hN := hO.next hz hC
      have g0 := old_get hc L
      obtain ⟨va, ve, rfl⟩ := hC.form
      (refine sg (et t1 (et t2 (et t26 (et t27 (et t28 (et g0 (et kd0 (et kdK kdK0)))))))) ?_; try exact ⟨⟩)
      exact ⟨r - 1, by omega, _, _, by omega, hN, rfl⟩
  · have hi14 : i = 14 := by omega
    subst hi14
    (refine sg (et t1 (et t2 (et t26 (et t27 (et t28 hc))))) ?_; try exact ⟨⟩)
    refine (ownPath_ l.mask.1 l.mask.2 pm hz.mask K (h.mask.old hO.old)).x ?_
    rintro v H1 W1 ⟨rfl, ⟨L, rfl⟩, pv, rfl, hP⟩
    have hPd := (hP.dep (by have := hz.mask; omega)).and hP.wr
    obtain ⟨pa, pe, rfl⟩ := hP.form
    have g0 := old_get hc L
    have hlL : K.length ≤ (K ++ L).length := by rw [List.length_append]; omega
    have g1 : ∀ X, ((K ++ L).set H.length X)[H.length]? = some X := fun X => List.getElem?_set_self (by omega)
    obtain ⟨zc, hzc, hzk⟩ := hO.z
    (refine sg (et t1 (et t2 (et g0 kd0))) ?_; try exact ⟨⟩)
    refine drawnU [(0, 7), (1, 7), (2, 7), (7, 8), (7, 9), (7, 10), (7, 11), (0, 12), (1, 12), (2, 12), (7, 13), (12, 13), (7, 14), (12, 14), (7, 15), (12, 15), (7, 16), (12, 16), (0, 17), (1, 17), (2, 17), (1, 20), (2, 20), (2, 23)] (by decide +kernel) ?_
    have hX : ∀ b, (H.length + 3 ≤ b → K.length ≤ b → OwX H K (ownC l g pm vp vc vda) b (fun J => ∀ j, j < 14 → Kys J (g j) (ownF l j) ∧ Wr J (g j))) := fun b _ h2 => ⟨hO.old, hl, hc, hO.z, fun J hJ j hj => ((hO.d j hj).dex (Nat.le_refl _) (.inr h2)) J hJ⟩
    have hX1 : ∀ b, (H.length + 3 ≤ b → (K ++ L).length ≤ b → OwX H ((K ++ L).set H.length ⟨ownC l g (.slice pa l.mask.2.length pe) vp vc vda, 0, true⟩) (ownC l g (.slice pa l.mask.2.length pe) vp vc vda) b (fun J => (∀ j, j < 14 → Kys J (g j) (ownF l j) ∧ Wr J (g j)) ∧ (Pts J (.slice pa l.mask.2.length pe) l.mask.2 ∧ Wr J (.slice pa l.mask.2.length pe)))) := fun b h1 h2 =>
      (hX b h1 (by omega)).step (fun c k hne e => (Olx.set0 _ _ _) c k hne (Old.app' K L c k e)) (by rw [List.length_set]; omega) (g1 _) (((hPd.dex (b := b) hl (.inr h2))).olt (Olx.set0 _ _ _) (by omega))
    have hKo : Old H ((K ++ L).set H.length ⟨ownC l g (.slice pa l.mask.2.length pe) vp vc vda, 0, true⟩) := fun c k e => by
      have := (List.getElem?_eq_some_iff.1 e).1
      exact Olx.set0 _ _ _ c k (by omega) (Old.app' K L c k (hO.old _ _ e))
    have hlX : ((K ++ L).set H.length ⟨ownC l g (.slice pa l.mask.2.length pe) vp vc vda, 0, true⟩).length = (K ++ L).length := List.length_set ..
    have g2 := g1 ⟨ownC l g (.slice pa l.mask.2.length pe) vp vc vda, 0, true⟩
    generalize (K ++ L).set H.length ⟨ownC l g (.slice pa l.mask.2.length pe) vp vc vda, 0, true⟩ = M at *
    have hMl : H.length + 3 ≤ M.length := by omega
    (refine sg (et t1 (et t2 (et g2 kd0))) ?_; try exact ⟨⟩)
    refine (clPk_ l.shape.paths vp hz.paths M (hs.paths.fix hKo)).x ?_
    rintro v H1 W1 ⟨rfl, ⟨L1, rfl⟩, hC1⟩
    obtain ⟨va1, ve1, hv1⟩ := hC1.form
    have g3 := old_get g2 L1
    (refine sg (et t1 (et t2 (et g3 kd0))) ?_; try exact ⟨⟩)
    refine (clCk_ l.shape.colors vc hz.colors (M ++ L1) ((hs.colors.old CkE.m hKo).old CkE.m (Old.app' _ _))).x ?_
    rintro v' H1 W1 ⟨rfl, ⟨L2, rfl⟩, hC2⟩
    obtain ⟨va2, ve2, hv2⟩ := hC2.form
    have g4 := old_get g3 L2
    (refine sg (et t1 (et t2 (et g4 kd0))) ?_; try exact ⟨⟩)
    refine (clIn_ l.shape.dash vda hz.dash (M ++ L1 ++ L2) (((hs.dash.old InE.m hKo).old InE.m (Old.app' _ _)).old InE.m (Old.app' _ _))).x ?_
    rintro v'' H1 W1 ⟨rfl, ⟨L3, rfl⟩, hC3⟩
    obtain ⟨va3, ve3, hv3⟩ := hC3.form
    have g5 := old_get g4 L3
    have hlM : H.length < (M ++ L1 ++ L2 ++ L3).length := by simp; omega
    have g6 : ∀ X, ((M ++ L1 ++ L2 ++ L3).set H.length X)[H.length]? = some X := fun X => List.getElem?_set_self hlM
    subst hv1 hv2 hv3
    simp only [go_sem, Nat.reduceEqDiff, Nat.reduceAdd, Nat.reduceSub, Nat.reduceMul, Nat.reduceLT, Nat.reduceLeDiff, Int.reducePow, Int.reduceBEq, Int.reduceBNe, Int.reduceDiv, Int.reduceMod, Int.reduceEq, Int.reduceLT, Int.reduceLE, Int.reduceAdd, Int.reduceSub, Int.reduceMul, Int.reduceNeg, Int.reduceToNat, Int.reduceTDiv, Int.reduceTMod, ↓reduceIte, t1, t2, g5, g6, kd0, List.set_set]
    have hl12 : (M ++ L1).length ≤ (M ++ L1 ++ L2).length := by simp
    have hl23 : (M ++ L1 ++ L2).length ≤ (M ++ L1 ++ L2 ++ L3).length := by simp
    have hl01 : M.length ≤ (M ++ L1).length := by rw [List.length_append]; omega
    have hd2 := hC2.dep (fun _ _ _ _ h => h) (by have := hz.colors; omega)
    have hd3 := (hC3.dep (fun _ _ _ _ h => h) (by have := hz.dash; omega)).and hC3.wr
    have o3 : Old M (M ++ L1 ++ L2 ++ L3) := ((Old.app' _ _).app _).app _
    have oJ : ∀ X, Olx H.length M ((M ++ L1 ++ L2 ++ L3).set H.length X) := fun X c k hne e => Olx.set0 _ _ _ c k hne (o3 c k e)
    have hY : ∀ b, H.length + 3 ≤ b → M.length ≤ b → (b < (M ++ L1).length ∨ (M ++ L1 ++ L2 ++ L3).length ≤ b) → OwX H ((M ++ L1 ++ L2 ++ L3).set H.length ⟨ownC l g (.slice pa l.mask.2.length pe) (.slice va1 l.shape.paths.length ve1) (.slice va2 l.shape.colors.length ve2) (.slice va3 l.shape.dash.length ve3), 0, true⟩)
        (ownC l g (.slice pa l.mask.2.length pe) (.slice va1 l.shape.paths.length ve1) (.slice va2 l.shape.colors.length ve2) (.slice va3 l.shape.dash.length ve3)) b
        (fun J => ((∀ j, j < 14 → Kys J (g j) (ownF l j) ∧ Wr J (g j)) ∧ (Pts J (.slice pa l.mask.2.length pe) l.mask.2 ∧ Wr J (.slice pa l.mask.2.length pe))) ∧ (Cks J (.slice va2 l.shape.colors.length ve2) l.shape.colors ∧ (Ins J (.slice va3 l.shape.dash.length ve3) l.shape.dash ∧ Wr J (.slice va3 l.shape.dash.length ve3)))) := fun b h1 h2 h3 => by
      refine (hX1 b h1 (by omega)).step (oJ _) (by rw [List.length_set]; omega) (g6 _) fun J hJ => ⟨?_, ?_⟩
      · exact (((hd2.dex (b := b) (n0 := H.length + 3) (by omega) (h3.imp id (fun e => by omega))).olx (Olx.old (Old.app' _ L3))).olt (Olx.set0 H.length _ ⟨ownC l g (.slice pa l.mask.2.length pe) (.slice va1 l.shape.paths.length ve1) (.slice va2 l.shape.colors.length ve2) (.slice va3 l.shape.dash.length ve3), 0, true⟩) (by omega)) J hJ
      · exact ((hd3.dex (b := b) (n0 := H.length + 3) (by omega) (h3.imp (fun e => by omega) id)).olt (Olx.set0 H.length _ ⟨ownC l g (.slice pa l.mask.2.length pe) (.slice va1 l.shape.paths.length ve1) (.slice va2 l.shape.colors.length ve2) (.slice va3 l.shape.dash.length ve3), 0, true⟩) (by omega)) J hJ
    have fin : ∀ (b : Nat) (K' : AH) (wp : Value), OwX H K' (ownC l g (.slice pa l.mask.2.length pe) wp (.slice va2 l.shape.colors.length ve2) (.slice va3 l.shape.dash.length ve3)) b (fun J => ((∀ j, j < 14 → Kys J (g j) (ownF l j) ∧ Wr J (g j)) ∧ (Pts J (.slice pa l.mask.2.length pe) l.mask.2 ∧ Wr J (.slice pa l.mask.2.length pe))) ∧ (Cks J (.slice va2 l.shape.colors.length ve2) l.shape.colors ∧ (Ins J (.slice va3 l.shape.dash.length ve3) l.shape.dash ∧ Wr J (.slice va3 l.shape.dash.length ve3)))) →
        Dep (H.length + 3) K' (fun J => RowOf 8 PkT J wp l.shape.paths) → ∀ X, Dep H.length (K'.set (H.length + 1) X) (fun J => (LyV J l (g 0) (g 1) (g 2) (g 3) (g 4) (g 5) (g 6) (g 7) (g 8) (.slice pa l.mask.2.length pe) ∧ ShV J l.shape (g 9) (g 10) wp (.slice va2 l.shape.colors.length ve2) (g 11) (.slice va3 l.shape.dash.length ve3) (g 12) (g 13)) ∧ Wr J (g 0) ∧ Wr J (.slice pa l.mask.2.length pe) ∧ Wr J (.slice va3 l.shape.dash.length ve3) ∧ RowOf 8 PkT J wp l.shape.paths) := fun b K' wp hx hp X => by
      have h1 := ((hx.d.dep.and hp).olx (Olx.set0 (H.length + 1) K' X) (by omega)).low (show H.length ≤ H.length + 3 by omega)
      exact h1.map fun J ⟨⟨⟨a, b, bw⟩, c, d, dw⟩, e⟩ => ⟨⟨⟨(a 0 (by omega)).1, (a 1 (by omega)).1, (a 2 (by omega)).1, (a 3 (by omega)).1, (a 4 (by omega)).1, (a 5 (by omega)).1, (a 6 (by omega)).1, (a 7 (by omega)).1, (a 8 (by omega)).1, b⟩, ⟨(a 9 (by omega)).1, (a 10 (by omega)).1, e.sub fun _ _ ⟨pv, h1, h2, _⟩ => ⟨pv, h1, h2⟩, c, (a 11 (by omega)).1, d, (a 12 (by omega)).1, (a 13 (by omega)).1⟩⟩, (a 0 (by omega)).2, bw, dw, e⟩
    rcases hC1 with ⟨hpe, hv1e⟩ | ⟨bp, gp, cs, hbp, hv1e, hk1, hcs, hel⟩
    · have hx := hY (M ++ L1 ++ L2 ++ L3).length (by omega) (by omega) (.inr (Nat.le_refl _))
      have hp0 : l.shape.paths.length = 0 := by rw [hpe]; rfl
      have hpk : ∀ K', Dep (H.length + 3) K' (fun J => RowOf 8 PkT J (.slice va1 l.shape.paths.length ve1) l.shape.paths) := fun K' J _ => by rw [hv1e, hpe]; exact RowOf.none
      have hfin := fin _ _ _ hx (hpk _)
      obtain ⟨zc, hzc, hzk⟩ := hx.z
      have hxc := hx.c
      have hxl := hx.len
      generalize (M ++ L1 ++ L2 ++ L3).set H.length ⟨ownC l g (.slice pa l.mask.2.length pe) (.slice va1 l.shape.paths.length ve1) (.slice va2 l.shape.colors.length ve2) (.slice va3 l.shape.dash.length ve3), 0, true⟩ = J at *
      refine rounds 1 ?_
      have hz1 : zc.drop 50 = [] := List.drop_eq_nil_of_le (by omega)
      have hz2 : 50 - zc.length = 0 := by omega
      have kd1 : decide (H.length + 1 < H.length) = false := df (by omega)
      have g9 : ∀ X, (J.set (H.length + 1) X)[H.length + 1]? = some X := fun X => List.getElem?_set_self (by omega)
      (refine sg (et t1 (et t2 (et (df (show ¬ (0 : Int) < ((l.shape.paths.length : Nat) : Int) by omega)) (et hxc (et hzk (et hz1 (et hz2 (et kd1 g9)))))))) ?_; try exact ⟨⟩)
      exact ⟨_, _, _, _, _, _, _, _, _, _, _, _, _, _, _, _, _, _, rfl, hfin _⟩
    · cases hv1e
      have hk1l := (List.getElem?_eq_some_iff.1 hk1).1
      have hx := hY bp (by omega) hbp (.inl hk1l)
      have hkb : ((M ++ L1 ++ L2 ++ L3).set H.length ⟨ownC l g (.slice pa l.mask.2.length pe) (sl bp 0 gp l.shape.paths.length 8) (.slice va2 l.shape.colors.length ve2) (.slice va3 l.shape.dash.length ve3), 0, true⟩)[bp]? = some ⟨cs.flatten, gp, true⟩ := Olx.set0 _ _ _ bp _ (by omega) (old_get (old_get hk1 _) _)
      have hpk : PkK H ((M ++ L1 ++ L2 ++ L3).set H.length ⟨ownC l g (.slice pa l.mask.2.length pe) (sl bp 0 gp l.shape.paths.length 8) (.slice va2 l.shape.colors.length ve2) (.slice va3 l.shape.dash.length ve3), 0, true⟩) bp gp 0 cs l.shape.paths := ⟨by omega, hkb, hcs, fun j x hx => by obtain ⟨c, e1, e2, e3⟩ := hel j x hx; exact ⟨c, e1, e2, fun hh => by omega, fun _ => e3⟩⟩
      generalize (M ++ L1 ++ L2 ++ L3).set H.length ⟨ownC l g (.slice pa l.mask.2.length pe) (sl bp 0 gp l.shape.paths.length 8) (.slice va2 l.shape.colors.length ve2) (.slice va3 l.shape.dash.length ve3), 0, true⟩ = J at *
      have hpl := hz.paths
      refine keep (fun r T K' D => D = [] ∧ ∃ (i : Nat) (ds : List (List Value)), i + r = l.shape.paths.length ∧ OwX H K' (ownC l g (.slice pa l.mask.2.length pe) (sl bp 0 gp l.shape.paths.length 8) (.slice va2 l.shape.colors.length ve2) (.slice va3 l.shape.dash.length ve3)) bp (fun J => ((∀ j, j < 14 → Kys J (g j) (ownF l j) ∧ Wr J (g j)) ∧ (Pts J (.slice pa l.mask.2.length pe) l.mask.2 ∧ Wr J (.slice pa l.mask.2.length pe))) ∧ (Cks J (.slice va2 l.shape.colors.length ve2) l.shape.colors ∧ (Ins J (.slice va3 l.shape.dash.length ve3) l.shape.dash ∧ Wr J (.slice va3 l.shape.dash.length ve3)))) ∧
        PkK H K' bp gp i ds l.shape.paths ∧ T 1 = ap H.length 0 0 ∧ T 2 = ap (H.length + 1) 0 0 ∧ T 5 = ap H.length 18 0 ∧ T 72 = .int .i64 (l.shape.paths.length : Int) ∧ T 73 = .int .i64 (i : Int)) l.shape.paths.length
        ⟨rfl, 0, cs, by omega, hx, hpk, by (refine sg t1 ?_; try exact ⟨⟩), by (refine sg t2 ?_; try exact ⟨⟩), by (refine sg trivial ?_; try exact ⟨⟩), by (refine sg trivial ?_; try exact ⟨⟩), by (refine sg trivial ?_; try exact ⟨⟩) <;> rfl⟩ ?_
      clear hx hpk hkb hel hcs
      rintro r T K' D ⟨rfl, i, ds, hir', hx, hpk, s1, s2, s5, s72, s73⟩
      have hxc := hx.c
      have hxl := hx.len
      by_cases hi : i < l.shape.paths.length
      · obtain ⟨x, hxi⟩ : ∃ x, l.shape.paths[i]? = some x := ⟨_, List.getElem?_eq_getElem hi⟩
        obtain ⟨c, hci, hcl, _, hce⟩ := hpk.el i x hxi
        obtain ⟨pv, hcc, hpv⟩ := hce (Nat.le_refl _)
        have hfg := fun j (hj : j < 8) => flatten_get (s := 8) j hpk.all hci hj
        have f1 := hfg 1 (by omega)
        have f2 := hfg 2 (by omega)
        rw [hcc] at f1 f2
        have l12 := fun b' : Nat => ald_two (b := b') (g := gp) (rw_ := true) (o := i * 8 + 1) f1 f2
        have hxp := hz.pts x (List.mem_of_getElem? hxi)
        have q1 : (i : Int) < (l.shape.paths.length : Int) := by omega
        have q0 : (0 : Int) ≤ (i : Int) := by omega
        have w1 : IntKind.i64.wrap ((i : Int) + 1) = ((i + 1 : Nat) : Int) := by rw [wi (by omega) (by omega)]; rfl
        have kb := hpk.k
        have kdb : decide (bp < H.length) = false := df (by have := hpk.b0; omega)
        (refine sg (et s1 (et s2 (et s5 (et s72 (et s73 (dt q1)))))) ?_; try exact ⟨⟩)
        refine drawnU [(0, 13), (1, 13), (2, 13), (3, 13), (4, 13)] (by decide +kernel) ?_
        (refine sg (et s1 (et s2 (et s5 (et s72 (et s73 (et hxc (et q0 (et q1 (et Int.toNat_natCast (et Nat.zero_add (et kb l12))))))))))) ?_; try exact ⟨⟩)
        refine (ownPath_ x.p.1 x.p.2 pv hxp K' (hpv.old hx.old)).x ?_
        rintro v H1 W1 ⟨rfl, ⟨L', rfl⟩, pv', rfl, hP'⟩
        have hN := hpk.next hxi hci hxp hxl hP'
        have hbl := (List.getElem?_eq_some_iff.1 kb).1
        have hX' := (hx.olx hpk.b0 (Olx.old (Old.app' K' L')) (by rw [List.length_append]; omega)).olx hpk.b0 (Olx.set0 bp (K' ++ L') ⟨(ds.set i (splice c 1 [.bool x.p.1, pv'])).flatten, gp, true⟩) (by rw [List.length_set]; omega)
        obtain ⟨pa', pe', rfl⟩ := hP'.form
        have hfl := flatten_len hpk.all
        rw [hpk.len] at hfl
        have hast : ∀ (J : AH) b', ast J (some ⟨ds.flatten, gp, true⟩) (some [.bool x.p.1, .slice pa' x.p.2.length pe']) (some 2) b' (i * 8 + 1) gp = some (J.set b' ⟨(ds.set i (splice c 1 [.bool x.p.1, .slice pa' x.p.2.length pe'])).flatten, gp, true⟩, b') := fun J b' => by
          rw [ast_some (s := 2) rfl (by omega), flatten_splice 1 _ hpk.all hci (by simp)]
        (refine sg (et s1 (et s2 (et s5 (et s72 (et s73 (et q0 (et q1 (et Int.toNat_natCast (et Nat.zero_add (et (old_get kb) (et hast (et kdb w1)))))))))))) ?_; try exact ⟨⟩)
        exact ⟨r - 1, by omega, i + 1, _, by omega, hX', hN, rfl⟩
      · have hil : i = l.shape.paths.length := by omega
        have hPk : Dep (H.length + 3) K' (fun J => RowOf 8 PkT J (sl bp 0 gp l.shape.paths.length 8) l.shape.paths) :=
          MkRow.dep (.inr ⟨bp, gp, ds, hpk.b0, rfl, hpk.k, hpk.len, fun j y hy => by obtain ⟨c, e1, e2, e3, _⟩ := hpk.el j y hy; exact ⟨c, e1, e2, e3 (by have := (List.getElem?_eq_some_iff.1 hy).1; omega)⟩⟩) (by omega)
        have hfin := fin _ _ _ hx hPk
        obtain ⟨zc, hzc, hzk⟩ := hx.z
        have hz1 : zc.drop 50 = [] := List.drop_eq_nil_of_le (by omega)
        have hz2 : 50 - zc.length = 0 := by omega
        have kd1 : decide (H.length + 1 < H.length) = false := df (by omega)
        have g9 : ∀ X, (K'.set (H.length + 1) X)[H.length + 1]? = some X := fun X => List.getElem?_set_self (by omega)
        (refine sg (et s1 (et s2 (et s5 (et s72 (et s73 (et (df (show ¬ (i : Int) < ((l.shape.paths.length : Nat) : Int) by omega)) (et hxc (et hzk (et hz1 (et hz2 (et kd1 g9))))))))))) ?_; try exact ⟨⟩)
        exact ⟨_, _, _, _, _, _, _, _, _, _, _, _, _, _, _, _, _, _, rfl, hfin _⟩
end Go.Proofs.YtnebnbdeobcegaaGreat
/- Documents: the walk of a document's copy. -/
namespace Go.Proofs.YtnebnbdeobcegaaGreat
open Go Go.RowKit E
attribute [local irreducible] XRun XOps XCode XCal XLoop XQ SemCall
set_option linter.unusedSimpArgs false
set_option linter.unusedVariables false
/-- A document whose rows are no longer than so. -/
structure DcS (d : Dc) : Prop where
  n : d.comps.length ≤ 1000
  c : ∀ c ∈ d.comps, c.length ≤ 1000 ∧ ∀ l ∈ c, LyS l
theorem take_snoc {α : Type} {l : List α} {i : Nat} {x : α} (h : l[i]? = some x) : l.take (i + 1) = l.take i ++ [x] := by
  obtain ⟨hi, rfl⟩ := List.getElem?_eq_some_iff.1 h
  rw [List.take_append_getElem hi]
theorem take_len {α : Type} {l : List α} {i : Nat} (h : i ≤ l.length) : (l.take i).length = i := by rw [List.length_take]; omega
set_option maxHeartbeats 8000000 in
theorem copy_ (d : Dc) (cv : Value) (H : AH) (h : Cos H cv d.comps) (hz : DcS d) :
    Cal Tryz.prog 22 [dcV d cv] H fun v H' W => W = [] ∧ (∃ L, H' = H ++ L) ∧ ∃ cw, v = dcV d cw ∧ Dep H.length H' (fun J => RowOf 1 CoT J cw d.comps) := by
  refine adds_of ?_
  obtain ⟨ca, ce, hcv⟩ := h.form
  subst hcv
  have kd : ∀ n, decide (H.length + n < H.length) = false := fun n => df (by omega)
  have kd0 : decide (H.length < H.length) = false := df (by omega)
  have n0 := hz.n
  refine XCal.of hm Tryz.func22 rfl (fun xs w => Tryz.call22 xs w) Tryz.ntmps22 Tryz.results22 rfl ?_
  (refine sg (et kd kd0) ?_; try exact ⟨⟩)
  refine keep (fun r T K D => D = [] ∧ ∃ (i : Nat) (ov : Value), i + r = d.comps.length ∧ Old H K ∧ H.length + 3 ≤ K.length ∧ K[H.length + 1]? = some ⟨[.int .i64 0, .int .i64 0, .slice none 0 0], 0, true⟩ ∧ K[H.length + 2]? = some ⟨[.int .i64 d.in_, .int .i64 d.out, ov], 0, true⟩ ∧ MkRow 1 CoT (H.length + 3) K ov (d.comps.take i) ∧ T 2 = ap (H.length + 1) 0 0 ∧ T 3 = ap (H.length + 2) 0 0 ∧ T 15 = .slice ca d.comps.length ce ∧ T 16 = .int .i64 (d.comps.length : Int) ∧ T 17 = .int .i64 (i : Int)) d.comps.length
    ⟨rfl, 0, .slice none 0 0, by omega, Old.app' _ _, by simp, by rw [hget_app]; rfl, by rw [hget_app]; rfl, .inl ⟨rfl, rfl⟩, by (refine sg trivial ?_; try exact ⟨⟩), by (refine sg trivial ?_; try exact ⟨⟩), by (refine sg trivial ?_; try exact ⟨⟩), by (refine sg trivial ?_; try exact ⟨⟩), by (refine sg trivial ?_; try exact ⟨⟩) <;> rfl⟩ ?_
  rintro r T K D ⟨rfl, i, ov, hir, hO, hl, hk1, hk2, hM, t2, t3, t15, t16, t17⟩
  have kdK : ∀ n, decide (K.length + n < H.length) = false := fun n => df (by omega)
  have kdK0 : decide (K.length < H.length) = false := df (by omega)
  have kdd : decide (H.length + 2 < H.length) = false := df (by omega)
  by_cases hi : i < d.comps.length
  · obtain ⟨c, hx⟩ : ∃ c, d.comps[i]? = some c := ⟨_, List.getElem?_eq_getElem hi⟩
    obtain ⟨b, g, cells, rw_, c', hve, hb, ⟨lv, hc', hlv⟩, hcl, hle, hld, hgt⟩ := h.at hx
    subst hc'
    have kb := hO _ _ hb
    obtain ⟨m0, mz⟩ := hz.c c (List.mem_of_getElem? hx)
    rw [hve] at t15
    obtain ⟨la, le, hlf⟩ := hlv.form
    subst hlf
    have q0 : (0 : Int) ≤ (i : Int) := by omega
    have q1 : (i : Int) < (d.comps.length : Int) := by omega
    have wi1 : IntKind.i64.wrap ((i : Int) + 1) = ((i + 1 : Nat) : Int) := by rw [wi (by omega) (by omega)]; rfl
    (refine sg (et t2 (et t3 (et t15 (et t16 (et t17 (et (dt q1) (et q0 (et q1 (et Int.toNat_natCast (et Nat.zero_add (et kb (et hld (et kdK kdK0))))))))))))) ?_; try exact ⟨⟩)
    refine keep (fun r2 T' K' D => D = [] ∧ ∃ (j : Nat) (vl : Value), j + r2 = c.length ∧ Old K K' ∧ K.length + 2 ≤ K'.length ∧ K'[K.length + 1]? = some ⟨[vl], 0, true⟩ ∧ MkRow 50 LyT (K.length + 2) K' vl (c.take j) ∧ T' 2 = ap (H.length + 1) 0 0 ∧ T' 3 = ap (H.length + 2) 0 0 ∧ T' 15 = sl b 0 g d.comps.length 1 ∧ T' 16 = .int .i64 (d.comps.length : Int) ∧ T' 17 = .int .i64 (i : Int) ∧ T' 6 = ap (K.length + 1) 0 0 ∧ T' 22 = .slice la c.length le ∧ T' 23 = .int .i64 (c.length : Int) ∧ T' 24 = .int .i64 (j : Int)) c.length
      ⟨rfl, 0, .slice none 0 0, by omega, Old.app' _ _, by simp, by rw [hget_app]; rfl, .inl ⟨rfl, rfl⟩, by (refine sg t2 ?_; try exact ⟨⟩), by (refine sg t3 ?_; try exact ⟨⟩), by (refine sg t15 ?_; try exact ⟨⟩), by (refine sg t16 ?_; try exact ⟨⟩), by (refine sg t17 ?_; try exact ⟨⟩), by (refine sg trivial ?_; try exact ⟨⟩), by (refine sg trivial ?_; try exact ⟨⟩), by (refine sg trivial ?_; try exact ⟨⟩), by (refine sg trivial ?_; try exact ⟨⟩) <;> rfl⟩ ?_
    rintro r2 T' K' D ⟨rfl, j, vl, hjr, hO2, hl2, hs, hMl, s2, s3, s15, s16, s17, s6, s22, s23, s24⟩
    have kdV : ∀ n, decide (K'.length + n < H.length) = false := fun n => df (by omega)
    have kdV0 : decide (K'.length < H.length) = false := df (by omega)
    by_cases hj : j < c.length
    · obtain ⟨x, hxj⟩ : ∃ x, c[j]? = some x := ⟨_, List.getElem?_eq_getElem hj⟩
      have hzl := mz x (List.mem_of_getElem? hxj)
      obtain ⟨b2, g2, cells2, rw2, c2, hve2, hb2, ⟨v0, v1, v2, v3, v4, v5, v6, v7, v8, pm, vw, vh, vp, vc, vd, vda, vf, vt, hc2, hLV, hSV⟩, hcl2, hle2, hld2, hgt2⟩ := hlv.at hxj
      subst hc2
      have kb2 := hO2 _ _ (hO _ _ hb2)
      rw [hve2] at s22
      have p0 : (0 : Int) ≤ (j : Int) := by omega
      have p1 : (j : Int) < (c.length : Int) := by omega
      have wj1 : IntKind.i64.wrap ((j : Int) + 1) = ((j + 1 : Nat) : Int) := by rw [wi (by omega) (by omega)]; rfl
      have hT := take_snoc hxj
      have hTl := take_len (l := c) (i := j) (by omega)
      (refine sg (et s2 (et s3 (et s15 (et s16 (et s17 (et s6 (et s22 (et s23 (et s24 (et (dt p1) (et p0 (et p1 (et Int.toNat_natCast (et Nat.zero_add (et kb2 (et hld2 (et kdV kdV0))))))))))))))))) ?_; try exact ⟨⟩)
      refine drawnU [(0, 3), (1, 3)] (by decide +kernel) ?_
      (refine sg (et s6 (old_get hs)) ?_; try exact ⟨⟩)
      refine (own_ x v0 v1 v2 v3 v4 v5 v6 v7 v8 pm vw vh vp vc vd vda vf vt _ ((hLV.old hO).old (hO2.app _)) ((hSV.old hO).old (hO2.app _)) hzl).x ?_
      rintro v H1 W1 ⟨rfl, ⟨L, rfl⟩, w0, w1, w2, w3, w4, w5, w6, w7, w8, wm, ww, wh, wp, wc, wd, wda, wf, wt, rfl, hr⟩
      have hKV : K'.length + 1 = (K' ++ [(⟨lyVs x v0 v1 v2 v3 v4 v5 v6 v7 v8 pm vw vh vp vc vd vda vf vt, 0, true⟩ : Blk)]).length := by simp
      have hr' : Dep (K'.length + 1) (K' ++ [(⟨lyVs x v0 v1 v2 v3 v4 v5 v6 v7 v8 pm vw vh vp vc vd vda vf vt, 0, true⟩ : Blk)] ++ L) (fun J => LyT J (lyVs x w0 w1 w2 w3 w4 w5 w6 w7 w8 wm ww wh wp wc wd wda wf wt) x) := by
        rw [hKV]; exact hr.map fun _ r => ⟨_, _, _, _, _, _, _, _, _, _, _, _, _, _, _, _, _, _, rfl, r⟩
      have hoV : Old K' (K' ++ [(⟨lyVs x v0 v1 v2 v3 v4 v5 v6 v7 v8 pm vw vh vp vc vd vda vf vt, 0, true⟩ : Blk)] ++ L) := (Old.app' _ _).app _
      have hVl : K'.length + 1 ≤ (K' ++ [(⟨lyVs x v0 v1 v2 v3 v4 v5 v6 v7 v8 pm vw vh vp vc vd vda vf vt, 0, true⟩ : Blk)] ++ L).length := by rw [List.length_append, ← hKV]; omega
      clear hr hKV
      generalize K' ++ [(⟨lyVs x v0 v1 v2 v3 v4 v5 v6 v7 v8 pm vw vh vp vc vd vda vf vt, 0, true⟩ : Blk)] ++ L = V at *
      have g7 := hoV _ _ hs
      have kdv : ∀ n, decide (V.length + n < H.length) = false := fun n => df (by omega)
      have kdv0 : decide (V.length < H.length) = false := df (by omega)
      have kds : decide (K.length + 1 < H.length) = false := df (by omega)
      have hO3 : Old K V := hO2.trans hoV
      rcases hMl with ⟨htn, rfl⟩ | ⟨bo, go, ces, hbo, rfl, hkb, hces, hel⟩
      · have hM3 : MkRow 50 LyT (K.length + 2) (V ++ [⟨lyVs x w0 w1 w2 w3 w4 w5 w6 w7 w8 wm ww wh wp wc wd wda wf wt, 0, true⟩, ⟨lyVs x w0 w1 w2 w3 w4 w5 w6 w7 w8 wm ww wh wp wc wd wda wf wt, 0, true⟩]) (sl (V.length + 1) 0 0 1 50) [x] :=
          MkRow.first (c := lyVs x w0 w1 w2 w3 w4 w5 w6 w7 w8 wm ww wh wp wc wd wda wf wt) ((hr'.dex (b := V.length + 1) (n0 := K.length + 2) (by omega) (.inr (by omega))).olx (Olx.old (Old.app' V _))) rfl (by rw [hget_app]; rfl) (by omega)
        have hM4 := hM3.olt (Olx.set0 (K.length + 1) _ ⟨[sl (V.length + 1) 0 0 1 50], 0, true⟩) (by omega)
        have hs3 : ∀ L X, ((V ++ L).set (K.length + 1) X)[K.length + 1]? = some X := fun L X => List.getElem?_set_self (by rw [List.length_append]; omega)
        (refine sg (et s6 (et g7 (et (old_get g7) (et kdv (et kdv0 (et kds (et wj1 (et s2 (et s3 (et s15 (et s16 (et s17 (et s22 (et s23 s24)))))))))))))) ?_; try exact ⟨⟩)
        exact ⟨r2 - 1, by omega, j + 1, _, by omega, (hO3.app _).olx (Olx.set0 _ _ _) (by omega), by omega, hs3 _ _, by rw [hT, htn]; exact hM4, hve2.symm, rfl⟩
      · have hkv := hoV _ _ hkb
        have hkl := (List.getElem?_eq_some_iff.1 hkb).1
        have hel' : ∀ (i : Nat) (x : Ly), (c.take j)[i]? = some x → ∃ c, ces[i]? = some c ∧ c.length = 50 ∧ Dex (K.length + 2) bo V (fun J => LyT J c x) := fun i x hx => by obtain ⟨c, e1, e2, e3⟩ := hel i x hx; exact ⟨c, e1, e2, e3.olx (Olx.old hoV)⟩
        have hfl := flatten_len (RowOf.all hces hel)
        rw [hces, hTl] at hfl
        have db0 : decide (bo < H.length) = false := df (by omega)
        have hsm : (j + 1) * 608 - 140737488355328 = 0 := Nat.sub_eq_zero_of_le (Nat.le_trans (Nat.mul_le_mul_right 608 (show j + 1 ≤ 1001 by omega)) (by decide))
        have hsm2 : j + 1 - 140737488355328 = 0 := Nat.sub_eq_zero_of_le (Nat.le_trans (show j + 1 ≤ 1001 by omega) (by decide))
        have f1 : ∀ P L, (V.set bo P ++ L)[K.length + 1]? = V[K.length + 1]? := fun P L => by rw [old_get (by rw [List.getElem?_set_ne (by omega)]; exact g7) L, g7]
        have hM3 := MkRow.next (E := LyT) (n0 := K.length + 2) (K := V) (J := V.set bo ⟨ces.flatten ++ lyVs x w0 w1 w2 w3 w4 w5 w6 w7 w8 wm ww wh wp wc wd wda wf wt, go + 1, true⟩ ++ [⟨lyVs x w0 w1 w2 w3 w4 w5 w6 w7 w8 wm ww wh wp wc wd wda wf wt, 0, true⟩]) (g' := go + 1) hbo hces hel' (Olx.set1 _ _ _ _) ((hr'.dex (b := bo) (n0 := K.length + 2) (by omega) (.inl (by omega))).olx (Olx.set1 _ _ _ _)) rfl (old_sget hkv _ _)
        have hM4 := hM3.olt (Olx.set0 (K.length + 1) _ ⟨[sl bo 0 (go + 1) (j + 1) 50], 0, true⟩) (by omega)
        rw [hTl] at hM4
        have hs3 : ∀ P L X, ((V.set bo P ++ L).set (K.length + 1) X)[K.length + 1]? = some X := fun P L X => List.getElem?_set_self (by rw [List.length_append, List.length_set]; omega)
        (refine sg (et s6 (et hTl (et g7 (et (old_get g7) (et (old_get hkv) (et (old_set hkv) (et f1 (et hfl (et hsm (et hsm2 (et db0 (et kdv (et kdv0 (et kds (et wj1 (et s2 (et s3 (et s15 (et s16 (et s17 (et s22 (et s23 s24)))))))))))))))))))))) ?_; try exact ⟨⟩)
        exact ⟨r2 - 1, by omega, j + 1, _, by omega, ((hO3.olx (Olx.set1 _ _ _ _) (by omega)).olx (Olx.set0 _ _ _) (by omega)), by omega, hs3 _ _ _, by rw [hT]; exact hM4, hve2.symm, rfl⟩
    · have hjc : j = c.length := by omega
      have gz := hO2 _ _ hk1
      have gd := hO2 _ _ hk2
      have hD := (hMl.dep (by rw [List.length_take]; omega)).and hMl.wr
      rw [List.take_of_length_le (by omega)] at hD
      have hTx := take_snoc hx
      have hTl := take_len (l := d.comps) (i := i) (by omega)
      obtain ⟨va, ve, hvl⟩ := hD.here.1.form
      subst hvl
      have hr' : Dep (K.length + 2) K' (fun J => CoT J [.slice va c.length ve] c) := hD.map fun _ r => ⟨_, rfl, r⟩
      have hOK : Old H K' := hO.trans hO2
      rcases hM with ⟨htn, rfl⟩ | ⟨bo, go, ces, hbo, rfl, hkb, hces, hel⟩
      · have hM3 : MkRow 1 CoT (H.length + 3) (K' ++ [⟨[.slice va c.length ve], 0, true⟩, ⟨[.slice va c.length ve], 0, true⟩]) (sl (K'.length + 1) 0 0 1 1) [c] :=
          MkRow.first (c := [.slice va c.length ve]) ((hr'.dex (b := K'.length + 1) (n0 := H.length + 3) (by omega) (.inr (by omega))).olx (Olx.old (Old.app' K' _))) rfl (by rw [hget_app]; rfl) (by omega)
        have hM4 := hM3.olt (Olx.set0 (H.length + 2) _ ⟨[.int .i64 d.in_, .int .i64 d.out, sl (K'.length + 1) 0 0 1 1], 0, true⟩) (by omega)
        have hd3 : ∀ L X, ((K' ++ L).set (H.length + 2) X)[H.length + 2]? = some X := fun L X => List.getElem?_set_self (by rw [List.length_append]; omega)
        have hz3 : ∀ L X, ((K' ++ L).set (H.length + 2) X)[H.length + 1]? = some ⟨[.int .i64 0, .int .i64 0, .slice none 0 0], 0, true⟩ := fun L X => by rw [List.getElem?_set_ne (by omega)]; exact old_get gz _
        (refine sg (et s2 (et s3 (et s15 (et s16 (et s17 (et s6 (et s22 (et s23 (et s24 (et (df (show ¬ (j : Int) < ((c.length : Nat) : Int) by omega)) (et hs (et (old_get hs) (et gd (et (old_get gd) (et kdV (et kdV0 (et kdd wi1))))))))))))))))) ?_; try exact ⟨⟩)
        exact ⟨r - 1, by omega, i + 1, _, by omega, (hOK.app _).olx (Olx.set0 _ _ _) (by omega), by omega, hz3 _ _, hd3 _ _, by rw [hTx, htn]; exact hM4, hve.symm, rfl⟩
      · have hkv := hO2 _ _ hkb
        have hkl := (List.getElem?_eq_some_iff.1 hkb).1
        have hel' : ∀ (k : Nat) (x : List Ly), (d.comps.take i)[k]? = some x → ∃ c, ces[k]? = some c ∧ c.length = 1 ∧ Dex (H.length + 3) bo K' (fun J => CoT J c x) := fun k x hx => by obtain ⟨c, e1, e2, e3⟩ := hel k x hx; exact ⟨c, e1, e2, e3.olx (Olx.old hO2)⟩
        have hfl := flatten_len (RowOf.all hces hel)
        rw [hces, hTl] at hfl
        have db0 : decide (bo < H.length) = false := df (by omega)
        have hsm : (i + 1) * 24 - 140737488355328 = 0 := Nat.sub_eq_zero_of_le (Nat.le_trans (Nat.mul_le_mul_right 24 (show i + 1 ≤ 1001 by omega)) (by decide))
        have hsm2 : i + 1 - 140737488355328 = 0 := Nat.sub_eq_zero_of_le (Nat.le_trans (show i + 1 ≤ 1001 by omega) (by decide))
        have f1 : ∀ P L, (K'.set bo P ++ L)[H.length + 2]? = K'[H.length + 2]? := fun P L => by rw [old_get (by rw [List.getElem?_set_ne (by omega)]; exact gd) L, gd]
        have hM3 := MkRow.next (E := CoT) (n0 := H.length + 3) (K := K') (J := K'.set bo ⟨ces.flatten ++ [.slice va c.length ve], go + 1, true⟩ ++ [⟨[.slice va c.length ve], 0, true⟩]) (g' := go + 1) hbo hces hel' (Olx.set1 _ _ _ _) ((hr'.dex (b := bo) (n0 := H.length + 3) (by omega) (.inl (by omega))).olx (Olx.set1 _ _ _ _)) rfl (old_sget hkv _ _)
        have hM4 := hM3.olt (Olx.set0 (H.length + 2) _ ⟨[.int .i64 d.in_, .int .i64 d.out, sl bo 0 (go + 1) (i + 1) 1], 0, true⟩) (by omega)
        rw [hTl] at hM4
        have hd3 : ∀ P L X, ((K'.set bo P ++ L).set (H.length + 2) X)[H.length + 2]? = some X := fun P L X => List.getElem?_set_self (by rw [List.length_append, List.length_set]; omega)
        have hz3 : ∀ P L X, ((K'.set bo P ++ L).set (H.length + 2) X)[H.length + 1]? = some ⟨[.int .i64 0, .int .i64 0, .slice none 0 0], 0, true⟩ := fun P L X => by rw [List.getElem?_set_ne (by omega)]; exact old_get (by rw [List.getElem?_set_ne (by omega)]; exact gz) _
        (refine sg (et s2 (et s3 (et s15 (et s16 (et s17 (et s6 (et s22 (et s23 (et s24 (et hTl (et (df (show ¬ (j : Int) < ((c.length : Nat) : Int) by omega)) (et hs (et (old_get hs) (et gd (et (old_get gd) (et f1 (et (old_get hkv) (et (old_set hkv) (et hfl (et hsm (et hsm2 (et db0 (et kdV (et kdV0 (et kdd wi1))))))))))))))))))))))))) ?_; try exact ⟨⟩)
        exact ⟨r - 1, by omega, i + 1, _, by omega, ((hOK.olx (Olx.set1 _ _ _ _) (by omega)).olx (Olx.set0 _ _ _) (by omega)), by omega, hz3 _ _ _, hd3 _ _ _, by rw [hTx]; exact hM4, hve.symm, rfl⟩
  · have hil : i = d.comps.length := by omega
    rw [List.take_of_length_le (by omega)] at hM
    have hD := hM.dep (by omega)
    have g9 : ∀ X, (K.set (H.length + 1) X)[H.length + 1]? = some X := fun X => List.getElem?_set_self (by omega)
    have kd1 : decide (H.length + 1 < H.length) = false := df (by omega)
    (refine sg (et t2 (et t3 (et t15 (et t16 (et t17 (et (df (show ¬ (i : Int) < ((d.comps.length : Nat) : Int) by omega)) (et hk1 (et hk2 (et g9 kd1))))))))) ?_; try exact ⟨⟩)
    exact ⟨_, rfl, (hD.olx (Olx.set0 _ _ _) (by omega)).low (by omega)⟩
end Go.Proofs.YtnebnbdeobcegaaGreat
/- Documents: a copy that is written; the walk of DocCopies. -/
namespace Go.Proofs.YtnebnbdeobcegaaGreat
open Go Go.RowKit E
attribute [local irreducible] XRun XOps XCode XCal XLoop XQ SemCall
set_option linter.unusedSimpArgs false
set_option linter.unusedVariables false
theorem kyQ_refl (x : Ky) : kyQ x x = true := by simp [kyQ]
theorem ckQ_refl (x : Ck) : ckQ x x = true := by simp [ckQ]
theorem inQ_refl (x : Int) : inQ x x = true := by simp [inQ]
theorem ptQ_refl (x : Pt) : ptQ x x = true := by simp [ptQ]
theorem plQ_refl (x : PL) : plQ x x = true := by
  unfold plQ; rw [eqG_refl ptQ_refl]; simp
theorem pkQ_refl (x : Pk) : pkQ x x = true := by simp [pkQ, ezQ, plQ_refl]
theorem shQ_refl (x : Sh) : shQ x x = true := by
  unfold shQ shP shK
  simp only [eqG_refl pkQ_refl, eqG_refl ckQ_refl, eqG_refl inQ_refl, eqG_refl kyQ_refl]
  simp [pntQ, c4Q]
theorem lyQ_refl (x : Ly) : lyQ x x = true := by
  unfold lyQ lyP; rw [eqG_refl (fun l => eqG_refl kyQ_refl l), plQ_refl, shQ_refl]; simp
theorem dcQ_refl (d : Dc) : dcQ d d = true := by
  unfold dcQ; rw [eqG_refl (fun l => eqG_refl lyQ_refl l)]; simp
/-- The same but for numbers in blocks from n on. -/
def Shp (n : Nat) (K0 K : AH) : Prop := K.length = K0.length ∧ (∀ b k, b < n → K0[b]? = some k → K[b]? = some k) ∧ ∀ (b : Nat) (k : Blk), K0[b]? = some k → ∃ cells : List Value, K[b]? = some ⟨cells, k.gen, k.rw⟩ ∧ cells.length = k.cells.length ∧ (∀ (i : Nat) a l e, k.cells[i]? = some (Value.slice a l e) → cells[i]? = some (Value.slice a l e)) ∧ ∀ (i : Nat) (x : Int), k.cells[i]? = some (Value.int .i64 x) → ∃ y : Int, cells[i]? = some (Value.int .i64 y)
theorem Shp.refl (n : Nat) (K : AH) : Shp n K K := ⟨rfl, fun _ _ _ h => h, fun b k h => ⟨k.cells, h, rfl, fun _ _ _ _ h => h, fun i x h => ⟨x, h⟩⟩⟩
theorem Shp.put {n : Nat} {K0 K : AH} (h : Shp n K0 K) {b g off : Nat} {cs cells : List Value} (hn : n ≤ b) (hk : K0[b]? = some ⟨cs, g, true⟩) (hK : K[b]? = some ⟨cells, g, true⟩) {x : Int} (hx : cs[off]? = some (.int .i64 x)) (z : Int) :
    Shp n K0 (K.set b ⟨cells.set off (.int .i64 z), g, true⟩) := by
  have hbl := (List.getElem?_eq_some_iff.1 hK).1
  obtain ⟨cells', e1, e2, e3, e4⟩ := h.2.2 b _ hk
  rw [hK] at e1
  cases e1
  have hol := (List.getElem?_eq_some_iff.1 hx).1
  have e2 : cells.length = cs.length := e2
  refine ⟨by rw [List.length_set]; exact h.1, fun b' k hb e => by rw [List.getElem?_set_ne (by omega)]; exact h.2.1 b' k hb e, fun b' k e => ?_⟩
  by_cases hb : b = b'
  · subst hb
    rw [hk] at e; cases e
    refine ⟨_, List.getElem?_set_self hbl, by rw [List.length_set]; exact e2, fun i a l e hi => ?_, fun i y hi => ?_⟩
    · by_cases ho : off = i
      · subst ho
        have hi : cs[off]? = some (.slice a l e) := hi
        rw [hx] at hi; cases hi
      · rw [List.getElem?_set_ne ho]; exact e3 i a l e hi
    · by_cases ho : off = i
      · subst ho
        exact ⟨z, List.getElem?_set_self (by omega)⟩
      · rw [List.getElem?_set_ne ho]; exact e4 i y hi
  · rw [List.getElem?_set_ne hb]; exact h.2.2 b' k e
/-- A row whose cells at one place are numbers, that may be written. -/
def IntAt (n : Nat) (K : AH) (v : Value) (len s j : Nat) : Prop := (∃ a e, v = .slice a len e) ∧ ∀ i, i < len → ∃ b g cs x, v = sl b 0 g len s ∧ n ≤ b ∧ K[b]? = some ⟨cs, g, true⟩ ∧ cs[i * s + j]? = some (.int .i64 x)
theorem IntAt.of {α : Type} {s : Nat} {E : AH → List Value → α → Prop} {n : Nat} {K : AH} {v : Value} {l : List α} (h : Dep n K (fun J => RowOf s E J v l)) (hw : Wr K v) (j : Nat) (hj : j < s) (hE : ∀ K c x, E K c x → ∃ y, c[j]? = some (.int .i64 y)) : IntAt n K v l.length s j := by
  refine ⟨h.here.form, fun i hi => ?_⟩
  rcases RowOf.high h with ⟨rfl, _⟩ | ⟨b, g, rest, rw_, cs, hb, rfl, h2, h3, h4, h5⟩
  · simp at hi
  · obtain ⟨c, e1, e2, e3⟩ := h5 i _ (List.getElem?_eq_getElem hi)
    obtain ⟨y, hy⟩ := hE _ _ _ e3.here
    obtain ⟨k, w1, w2⟩ := hw b 0 g l.length s rfl
    rw [h2] at w1; cases w1
    have w2 : rw_ = true := w2
    subst w2
    have hall : ∀ c ∈ cs, c.length = s := RowOf.all h3 (P := fun c x => Dep n K (fun J => E J c x)) h5
    refine ⟨b, g, _, y, rfl, hb, h2, ?_⟩
    have hf := flatten_get j hall e1 hj
    rw [hy] at hf
    rw [List.getElem?_append_left (by exact (List.getElem?_eq_some_iff.1 hf).1)]
    exact hf
/-- The same where things have changed. -/
theorem IntAt.now {n : Nat} {K0 K : AH} {v : Value} {len s j : Nat} (h : IntAt n K0 v len s j) (hS : Shp n K0 K) {i : Nat} (hi : i < len) : ∃ b g cells y, v = sl b 0 g len s ∧ K[b]? = some ⟨cells, g, true⟩ ∧ cells[i * s + j]? = some (.int .i64 y) ∧ n ≤ b ∧ ∀ z, Shp n K0 (K.set b ⟨cells.set (i * s + j) (.int .i64 z), g, true⟩) := by
  obtain ⟨b, g, cs, x, rfl, h1, h2, h3⟩ := h.2 i hi
  obtain ⟨cells, e1, e2, e3, e4⟩ := hS.2.2 b _ h2
  obtain ⟨y, hy⟩ := e4 _ _ h3
  exact ⟨b, g, cells, y, rfl, e1, hy, h1, fun z => hS.put h1 h2 e1 h3 z⟩
def PathsAt (n : Nat) (K : AH) (v : Value) (ps : List Pk) : Prop := (∃ a e, v = .slice a ps.length e) ∧ ∀ (i : Nat) x, ps[i]? = some x → ∃ b g cs rw_ pv, v = sl b 0 g ps.length 8 ∧ K[b]? = some ⟨cs, g, rw_⟩ ∧ cs[i * 8 + 1 + 1]? = some pv ∧ IntAt n K pv x.p.2.length 2 1
theorem PathsAt.of {n : Nat} {K : AH} {v : Value} {ps : List Pk} (h : Dep n K (fun J => RowOf 8 PkT J v ps)) : PathsAt n K v ps := by
  refine ⟨h.here.form, fun i x hx => ?_⟩
  have hil := (List.getElem?_eq_some_iff.1 hx).1
  rcases RowOf.high h with ⟨rfl, _⟩ | ⟨b, g, rest, rw_, cs, hb, rfl, h2, h3, h4, h5⟩
  · simp at hx
  · obtain ⟨c, e1, e2, e3⟩ := h5 i x hx
    obtain ⟨pv, hc, _, hw⟩ := e3.here
    have hp : Dep n K (fun J => RowOf 2 PtE J pv x.p.2) := fun J hJ => by
      obtain ⟨pv', hc', hp, _⟩ := e3 J hJ
      rw [hc] at hc'
      simp only [List.cons.injEq] at hc'
      rw [hc'.2.2.1]; exact hp.row
    have hall : ∀ c ∈ cs, c.length = 8 := RowOf.all h3 (P := fun c x => Dep n K (fun J => PkT J c x)) h5
    have hf := flatten_get 2 hall e1 (by omega)
    rw [hc] at hf
    have hf : cs.flatten[i * 8 + 2]? = some pv := hf
    refine ⟨b, g, _, rw_, pv, rfl, h2, ?_, IntAt.of hp hw 1 (by omega) fun K c x h => ?_⟩
    · rw [List.getElem?_append_left (by have := (List.getElem?_eq_some_iff.1 hf).1; omega)]; exact hf
    · have h : c = [.int .i64 x.1, .int .i64 x.2] := h
      subst h; exact ⟨_, rfl⟩
/-- What of a copy's layer is written. -/
structure LyA (n : Nat) (K : AH) (lv : Value) (m k : Nat) (l : Ly) (bl gl : Nat) (cells : List Value) (v0 pm vp vda : Value) : Prop where
  lv : lv = sl bl 0 gl m 50
  hi : n ≤ bl
  blk : K[bl]? = some ⟨cells, gl, true⟩
  c4 : cells[k * 50 + 4]? = some (.int .i64 l.in_)
  c7 : cells[k * 50 + 7]? = some v0
  c17 : cells[k * 50 + 16 + 1]? = some pm
  c22 : cells[k * 50 + 18 + 4]? = some vp
  c47 : cells[k * 50 + 18 + 29]? = some vda
  x : IntAt n K v0 l.x.length 7 1
  m : IntAt n K pm l.mask.2.length 2 0
  p : PathsAt n K vp l.shape.paths
  d : IntAt n K vda l.shape.dash.length 1 0
theorem LyA.of {n : Nat} {K : AH} {lv : Value} {c : List Ly} (h : Dep n K (fun J => RowOf 50 LyT J lv c)) (hw : Wr K lv) {k : Nat} {l : Ly} (hk : c[k]? = some l) : ∃ bl gl cells v0 pm vp vda, LyA n K lv c.length k l bl gl cells v0 pm vp vda := by
  rcases RowOf.high h with ⟨rfl, _⟩ | ⟨b, g, rest, rw_, cs, hb, rfl, h2, h3, h4, h5⟩
  · simp at hk
  · obtain ⟨c', e1, e2, e3⟩ := h5 k l hk
    obtain ⟨v0, v1, v2, v3, v4, v5, v6, v7, v8, pm, vw, vh, vp, vc, vd, vda, vf, vt, hc, _, w0, wm, wda, _⟩ := e3.here
    have hd : Dep n K (fun J => (LyV J l v0 v1 v2 v3 v4 v5 v6 v7 v8 pm ∧ ShV J l.shape vw vh vp vc vd vda vf vt) ∧ RowOf 8 PkT J vp l.shape.paths) := fun J hJ => by
      obtain ⟨v0', v1', v2', v3', v4', v5', v6', v7', v8', pm', vw', vh', vp', vc', vd', vda', vf', vt', hc', hl, _, _, _, hp⟩ := e3 J hJ
      rw [hc] at hc'
      simp only [List.cons.injEq, true_and, and_true] at hc'
      obtain ⟨rfl, rfl, rfl, rfl, rfl, rfl, rfl, rfl, rfl, rfl, rfl, rfl, rfl, rfl, rfl, rfl, rfl, rfl⟩ := hc'
      exact ⟨hl, hp⟩
    obtain ⟨kk, w1, w2⟩ := hw b 0 g c.length 50 rfl
    rw [h2] at w1; cases w1
    have w2 : rw_ = true := w2
    subst w2
    have hall : ∀ c ∈ cs, c.length = 50 := RowOf.all h3 (P := fun c x => Dep n K (fun J => LyT J c x)) h5
    have hf : ∀ j, j < 50 → (cs.flatten ++ rest)[k * 50 + j]? = c'[j]? := fun j hj => by
      have hf := flatten_get j hall e1 hj
      rw [List.getElem?_append_left (by
        have : j < c'.length := by omega
        rw [List.getElem?_eq_getElem this] at hf
        exact (List.getElem?_eq_some_iff.1 hf).1)]
      exact hf
    subst hc
    refine ⟨b, g, _, v0, pm, vp, vda, rfl, hb, h2, hf 4 (by omega), hf 7 (by omega), hf 17 (by omega), hf 22 (by omega), hf 47 (by omega),
      IntAt.of (hd.map fun _ h => h.1.1.x) w0 1 (by omega) (fun K c x h => ?_), IntAt.of (hd.map fun _ h => h.1.1.mask.row) wm 0 (by omega) (fun K c x h => ?_), PathsAt.of (hd.map fun _ h => h.2), IntAt.of (hd.map fun _ h => h.1.2.dash) wda 0 (by omega) (fun K c x h => ?_)⟩
    · have h : c = kyC x := h
      subst h; exact ⟨_, rfl⟩
    · have h : c = [.int .i64 x.1, .int .i64 x.2] := h
      subst h; exact ⟨_, rfl⟩
    · have h : c = [.int .i64 x] := h
      subst h; exact ⟨_, rfl⟩
theorem CoA.of {n : Nat} {K : AH} {cw : Value} {cs : List (List Ly)} (h : Dep n K (fun J => RowOf 1 CoT J cw cs)) {i : Nat} {c : List Ly} (hi : cs[i]? = some c) : ∃ b g cells rw_ lv, cw = sl b 0 g cs.length 1 ∧ K[b]? = some ⟨cells, g, rw_⟩ ∧ cells[i]? = some lv ∧ Dep n K (fun J => RowOf 50 LyT J lv c) ∧ Wr K lv := by
  rcases RowOf.high h with ⟨rfl, _⟩ | ⟨b, g, rest, rw_, es, hb, rfl, h2, h3, h4, h5⟩
  · simp at hi
  · obtain ⟨c', e1, e2, e3⟩ := h5 i c hi
    obtain ⟨lv, hc, _, hw⟩ := e3.here
    have hp : Dep n K (fun J => RowOf 50 LyT J lv c) := fun J hJ => by
      obtain ⟨v', hc', hp, _⟩ := e3 J hJ
      rw [hc] at hc'
      simp only [List.cons.injEq, and_true] at hc'
      rw [hc']; exact hp
    have hall : ∀ c ∈ es, c.length = 1 := RowOf.all h3 (P := fun c x => Dep n K (fun J => CoT J c x)) h5
    have hf := flatten_get 0 hall e1 (by omega)
    rw [hc, Nat.mul_one, Nat.add_zero] at hf
    have hf : es.flatten[i]? = some lv := hf
    exact ⟨b, g, _, rw_, lv, rfl, h2, by rw [List.getElem?_append_left (by exact (List.getElem?_eq_some_iff.1 hf).1)]; exact hf, hp, hw⟩
end Go.Proofs.YtnebnbdeobcegaaGreat
/- Documents: the walk of what turns a layer. -/
namespace Go.Proofs.YtnebnbdeobcegaaGreat
open Go Go.RowKit E
attribute [local irreducible] XRun XOps XCode XCal XLoop XQ SemCall
set_option linter.unusedSimpArgs false
set_option linter.unusedVariables false
/-- What was, is, apart from some blocks. -/
def OlP (p : Nat → Prop) (K J : AH) : Prop := ∀ (c : Nat) (k : Blk), ¬ p c → K[c]? = some k → J[c]? = some k
theorem OlP.refl (p : Nat → Prop) (K : AH) : OlP p K K := fun _ _ _ h => h
theorem OlP.old {p : Nat → Prop} {K J : AH} (o : Old K J) : OlP p K J := fun c k _ e => o c k e
/-- A layer whose rows are no longer than n. -/
structure LyN (n : Nat) (l : Ly) : Prop where
  x : l.x.length ≤ n
  y : l.y.length ≤ n
  ax : l.ax.length ≤ n
  ay : l.ay.length ≤ n
  sx : l.sx.length ≤ n
  sy : l.sy.length ≤ n
  turn : l.turn.length ≤ n
  opac : l.opac.length ≤ n
  remap : l.remap.length ≤ n
  mask : l.mask.2.length ≤ n
  w : l.shape.w.length ≤ n
  h : l.shape.h.length ≤ n
  paths : l.shape.paths.length ≤ n
  pts : ∀ p ∈ l.shape.paths, p.p.2.length ≤ n
  colors : l.shape.colors.length ≤ n
  width : l.shape.width.length ≤ n
  dash : l.shape.dash.length ≤ n
  frm : l.shape.frm.length ≤ n
  to : l.shape.to.length ≤ n
theorem LyN.s {n : Nat} {l : Ly} (h : LyN n l) (hn : n ≤ 1000) : LyS l :=
  ⟨Nat.le_trans h.x hn, Nat.le_trans h.y hn, Nat.le_trans h.ax hn, Nat.le_trans h.ay hn, Nat.le_trans h.sx hn, Nat.le_trans h.sy hn, Nat.le_trans h.turn hn, Nat.le_trans h.opac hn, Nat.le_trans h.remap hn, Nat.le_trans h.mask hn, Nat.le_trans h.w hn, Nat.le_trans h.h hn, Nat.le_trans h.paths hn, fun p hp => Nat.le_trans (h.pts p hp) hn, Nat.le_trans h.colors hn, Nat.le_trans h.width hn, Nat.le_trans h.dash hn, Nat.le_trans h.frm hn, Nat.le_trans h.to hn⟩
theorem LyN.up {n m : Nat} {l : Ly} (h : LyN n l) (hn : n ≤ m) : LyN m l :=
  ⟨Nat.le_trans h.x hn, Nat.le_trans h.y hn, Nat.le_trans h.ax hn, Nat.le_trans h.ay hn, Nat.le_trans h.sx hn, Nat.le_trans h.sy hn, Nat.le_trans h.turn hn, Nat.le_trans h.opac hn, Nat.le_trans h.remap hn, Nat.le_trans h.mask hn, Nat.le_trans h.w hn, Nat.le_trans h.h hn, Nat.le_trans h.paths hn, fun p hp => Nat.le_trans (h.pts p hp) hn, Nat.le_trans h.colors hn, Nat.le_trans h.width hn, Nat.le_trans h.dash hn, Nat.le_trans h.frm hn, Nat.le_trans h.to hn⟩
theorem LyS.m {l : Ly} (h : LyS l) : LyM l := by
  have h1 := h.mask
  have h2 := h.remap
  have a1 := h.w
  have a2 := h.h
  have a3 := h.paths
  have a4 := h.colors
  have a5 := h.width
  have a6 := h.dash
  have a7 := h.frm
  have a8 := h.to
  refine ⟨?_, ?_, ?_, ?_, ?_, ?_, ?_, ?_, ?_, ?_⟩ <;> (unfold mxR; omega)
theorem keysB_lenN {l : List Ky} (h : keysB l = true) : l.length ≤ 100 := by
  unfold keysB at h
  simp only [Bool.and_eq_true, decide_eq_true_eq] at h
  omega
theorem rightB_lenN {c : Bool} {l : List Pt} (h : rightB c l = true) : l.length ≤ 100 := by
  unfold rightB at h
  by_cases e : l.length = 0
  · omega
  · rw [if_neg e] at h
    simp only [Bool.and_eq_true, decide_eq_true_eq] at h
    omega
theorem pksGo_ptsN {z : PL} : ∀ {l : List Pk} {f : Bool} {a : Int}, pksGo z f a l = true → ∀ p ∈ l, p.p.2.length ≤ 100
  | [], _, _, _, p, hp => by cases hp
  | k :: l, f, a, h, p, hp => by
    simp only [pksGo, Bool.and_eq_true] at h
    rcases List.mem_cons.1 hp with rfl | hp
    · exact rightB_lenN h.1.1.2
    · exact pksGo_ptsN h.2 p hp
theorem shapeB_smallN {s : Sh} (h : shapeB s = true) : s.w.length ≤ 100 ∧ s.h.length ≤ 100 ∧ s.paths.length ≤ 100 ∧ (∀ p ∈ s.paths, p.p.2.length ≤ 100) ∧ s.colors.length ≤ 100 ∧ s.width.length ≤ 100 ∧ s.dash.length ≤ 100 ∧ s.frm.length ≤ 100 ∧ s.to.length ≤ 100 := by
  unfold shapeB at h
  simp only [Bool.and_eq_true] at h
  obtain ⟨⟨⟨⟨⟨⟨⟨⟨hf, _⟩, _⟩, hc⟩, hw⟩, hr⟩, ht⟩, _⟩, hd⟩ := h
  have hc' : s.colors.length ≤ 100 := by
    unfold cksB at hc; simp only [Bool.and_eq_true, decide_eq_true_eq] at hc; omega
  have hd' : s.dash.length ≤ 100 := by
    unfold dashB at hd; simp only [Bool.and_eq_true, decide_eq_true_eq] at hd; omega
  have hp : s.w.length ≤ 100 ∧ s.h.length ≤ 100 ∧ s.paths.length ≤ 100 ∧ (∀ p ∈ s.paths, p.p.2.length ≤ 100) := by
    unfold formB at hf
    by_cases e1 : s.form < 0 ∨ 3 < s.form
    · rw [if_pos e1] at hf; cases hf
    rw [if_neg e1] at hf
    by_cases e2 : (s.form = 2 ∧ (s.n < 2 ∨ 16 < s.n)) ∨ (¬ s.form = 2 ∧ ¬ s.n = 0)
    · rw [if_pos e2] at hf; cases hf
    rw [if_neg e2] at hf
    by_cases e3 : s.form = 3
    · rw [if_pos e3] at hf
      simp only [Bool.and_eq_true, decide_eq_true_eq] at hf
      obtain ⟨⟨a, b⟩, c⟩ := hf
      unfold pksB at c
      simp only [Bool.and_eq_true, decide_eq_true_eq] at c
      exact ⟨by omega, by omega, by omega, pksGo_ptsN c.1⟩
    · rw [if_neg e3] at hf
      simp only [Bool.and_eq_true, decide_eq_true_eq] at hf
      obtain ⟨⟨a, b⟩, c⟩ := hf
      have : s.paths = [] := List.eq_nil_of_length_eq_zero (by omega)
      exact ⟨keysB_lenN b, keysB_lenN c, by omega, fun p hp => by rw [this] at hp; cases hp⟩
  exact ⟨hp.1, hp.2.1, hp.2.2.1, hp.2.2.2, hc', keysB_lenN hw, hd', keysB_lenN hr, keysB_lenN ht⟩
theorem LyB.smallN {k c m : Int} {ah : Bool} {l : Ly} (h : LyB k c m ah l) : LyN 100 l := by
  have hm : l.mask.2.length ≤ 100 := by
    have := h.ma
    unfold maskB at this
    simp only [Bool.and_eq_true] at this
    exact rightB_lenN this.1
  have hr : l.remap.length ≤ 100 := by
    rcases h.kd with ⟨_, _, e, _⟩ | ⟨_, _, _, e, _⟩
    · rw [e]; simp
    · exact keysB_lenN e
  have hs : l.shape.w.length ≤ 100 ∧ l.shape.h.length ≤ 100 ∧ l.shape.paths.length ≤ 100 ∧ (∀ p ∈ l.shape.paths, p.p.2.length ≤ 100) ∧ l.shape.colors.length ≤ 100 ∧ l.shape.width.length ≤ 100 ∧ l.shape.dash.length ≤ 100 ∧ l.shape.frm.length ≤ 100 ∧ l.shape.to.length ≤ 100 := by
    rcases h.kd with ⟨_, _, _, e⟩ | ⟨_, _, _, _, e⟩
    · exact shapeB_smallN e
    · rw [e]
      exact ⟨by simp [sh00], by simp [sh00], by simp [sh00], fun p hp => by simp [sh00] at hp, by simp [sh00], by simp [sh00], by simp [sh00], by simp [sh00], by simp [sh00]⟩
  obtain ⟨h1, h2, h3, h4, h5, h6, h7, h8, h9⟩ := hs
  exact ⟨keysB_lenN h.x, keysB_lenN h.y, keysB_lenN h.ax, keysB_lenN h.ay, keysB_lenN h.sx, keysB_lenN h.sy, keysB_lenN h.tu, keysB_lenN h.op, hr, hm, h1, h2, h3, h4, h5, h6, h7, h8, h9⟩
theorem and7 (x : Int) : bits .and .i64 x 7 = x % 8 := and_i64 x 3 (by decide)
theorem and1 (x : Int) : bits .and .i64 x 1 = x % 2 := and_i64 x 1 (by decide)
theorem dzrep_pt : ∀ n : Nat, zrep [.int .i64 0, .int .i64 0] n = ptC (List.replicate n (0, 0))
  | 0 => rfl
  | n + 1 => by
    rw [List.replicate_succ]
    show _ ++ zrep [.int .i64 0, .int .i64 0] n = [.int .i64 0, .int .i64 0] ++ ptC (List.replicate n (0, 0))
    rw [dzrep_pt n]
theorem damkP (n : Nat) (h : n ≤ 1000) : amake Tryz.prog 37 (.int .i64 (n : Int)) (.int .i64 (n : Int)) = some (ptC (List.replicate n (0, 0)), 2, n) := by
  have hb : tby Tryz.prog 44 = some 16 := by kernel_rfl
  unfold amake
  (refine sg hb ?_; try exact ⟨⟩)
  rw [if_pos (by simp; omega), Int.toNat_natCast, dzrep_pt]
theorem RowOf.two {α : Type} {s : Nat} {E : AH → List Value → α → Prop} {K : AH} {b g : Nat} {rw_ : Bool} {c c' : List Value} {x x' : α} (hb : K[b]? = some ⟨c ++ c', g, rw_⟩) (hc : c.length = s) (hc' : c'.length = s) (hE : E K c x) (hE' : E K c' x') : RowOf s E K (sl b 0 g 2 s) [x, x'] :=
  .inr ⟨b, g, [], rw_, [c, c'], rfl, by simpa using hb, rfl, by simp, fun i y hy => by
    match i, hy with
    | 0, hy => simp at hy; subst hy; exact ⟨c, rfl, hc, hE⟩
    | 1, hy => simp at hy; subst hy; exact ⟨c', rfl, hc', hE'⟩
    | i + 2, hy => simp at hy⟩
theorem kat_ (n : Int) (k : Nat) (h1 : 1 ≤ k) (h2 : k ≤ 1000000) : ∃ m : Nat, m < k ∧ ∀ H, SemCall Tryz.prog 61 [.int .i64 n, .int .i64 (k : Int)] H (.int .i64 (m : Int)) H [] := by
  have hw := fun H => within_ n 0 1048576 (by omega) (by omega) (by omega) H
  have hb := wth_b n (lo := 0) (hi := 1048576) (by omega)
  generalize wth n 0 1048576 = z at *
  have hp := tmod_p z (k : Int) (by omega) hb.1
  refine ⟨(z.tmod k).toNat, by omega, fun H => ?_⟩
  refine pure_of ?_ rfl
  have z0 : ((k : Int) = 0) = False := eq_false (by omega)
  have e : (((z.tmod k).toNat : Nat) : Int) = z.tmod k := by omega
  have mx1 : (if (k : Int) < 1 then (1 : Int) else (k : Int)) = (k : Int) := if_neg (by omega)
  refine XCal.of hm Tryz.func61 rfl (fun xs w => Tryz.call61 xs w) Tryz.ntmps61 Tryz.results61 rfl ?_
  (refine sg trivial ?_; try exact ⟨⟩)
  repeat ((first | refine (hw _).x ?_ | refine drawnF ?_ (by decide +kernel)); (refine sg (et mx1 (et z0 e)) ?_; try exact ⟨⟩))
set_option maxRecDepth 100000 in
set_option maxHeartbeats 16000000 in
theorem oddlayer_ (n : Nat) (l : Ly) (v0 v1 v2 v3 v4 v5 v6 v7 v8 pm vw vh vp vc vd vda vf vt : Value) (a b c N : Int) (p : Nat → Prop) (HB H : AH) (o0 : Old HB H) (h : ∀ J, OlP p HB J → LyV J l v0 v1 v2 v3 v4 v5 v6 v7 v8 pm) (hs : ∀ J, OlP p HB J → ShV J l.shape vw vh vp vc vd vda vf vt) (hz : LyN n l) (hn : 8 ≤ n ∧ n ≤ 900) :
    Cal Tryz.prog 62 [.agg (lyVs l v0 v1 v2 v3 v4 v5 v6 v7 v8 pm vw vh vp vc vd vda vf vt).toArray, .agg [.int .i64 a, .int .i64 b, .int .i64 c, .int .i64 N].toArray] H fun v' H' W => W = [] ∧ (∃ L, H' = H ++ L) ∧ ∃ l' cs, v' = .agg cs.toArray ∧ (∀ J, OlP p HB J → (∀ (c : Nat) (k : Blk), H.length ≤ c → H'[c]? = some k → J[c]? = some k) → LyE J cs l') ∧ cs.length = 50 ∧ LyN (n + 1) l' := by
  refine adds_of ?_
  obtain ⟨n8, n9⟩ := hn
  have kd : ∀ n, decide (H.length + n < H.length) = false := fun n => df (by omega)
  have kd0 : decide (H.length < H.length) = false := df (by omega)
  obtain ⟨w, hw, ka⟩ := kat_ a 23 (by omega) (by omega)
  have hz0 : 0 ≤ N % 8 := by omega
  have hz7 : N % 8 ≤ 7 := by omega
  obtain ⟨z, hzz⟩ : ∃ z, N % 8 = z := ⟨_, rfl⟩
  rw [hzz] at hz0 hz7
  obtain ⟨m, hzm⟩ : ∃ m : Nat, z = (m : Int) := ⟨z.toNat, by omega⟩
  have wz1 : IntKind.i64.wrap (z - 1) = z - 1 := wi (by omega) (by omega)
  have wz2 : IntKind.i64.wrap (z - 2) = z - 2 := wi (by omega) (by omega)
  have ka : ∀ H, SemCall Tryz.prog 61 [.int .i64 a, .int .i64 23] H (.int .i64 (w : Int)) H [] := ka
  have mk := damkP m (by omega)
  rw [← hzm] at mk
  refine XCal.of hm Tryz.func62 rfl (fun xs w => Tryz.call62 xs w) Tryz.ntmps62 Tryz.results62 rfl ?_
  refine wcode_cut (fun T K D => D = [] ∧ K = H ++ [⟨lyVs l v0 v1 v2 v3 v4 v5 v6 v7 v8 pm vw vh vp vc vd vda vf vt, 0, true⟩, ⟨[.int .i64 a, .int .i64 b, .int .i64 c, .int .i64 N], 0, true⟩, ⟨lyVs (lyD 0 0) ns ns ns ns ns ns ns ns ns ns ns ns ns ns ns ns ns ns, 0, true⟩] ∧ T 2 = ap H.length 0 0 ∧ T 3 = ap (H.length + 1) 0 0 ∧ T 4 = ap (H.length + 2) 0 0) ?_ ?_
  · (refine sg (et kd kd0) ?_; try exact ⟨⟩)
    rfl
  rintro T K D ⟨rfl, rfl, t2, t3, t4⟩
  refine wcode_cut (fun T K D => D = [] ∧ K = H ++ [⟨lyVs l v0 v1 v2 v3 v4 v5 v6 v7 v8 pm vw vh vp vc vd vda vf vt, 0, true⟩, ⟨[.int .i64 a, .int .i64 b, .int .i64 c, .int .i64 N], 0, true⟩, ⟨lyVs (lyD 0 0) ns ns ns ns ns ns ns ns ns ns ns ns ns ns ns ns ns ns, 0, true⟩] ∧ T 2 = ap H.length 0 0 ∧ T 3 = ap (H.length + 1) 0 0 ∧ T 4 = ap (H.length + 2) 0 0 ∧ T 5 = .int .i64 z) ?_ ?_
  · (refine sg (et t2 (et t3 (et t4 (et and7 hzz)))) ?_; try exact ⟨⟩)
  clear t2 t3 t4
  rintro T K D ⟨rfl, rfl, t2, t3, t4, t5⟩
  refine wcode_cut (fun T K D => D = [] ∧ T 2 = ap H.length 0 0 ∧ T 4 = ap (H.length + 2) 0 0 ∧ ∃ (l' : Ly) (u0 u1 u2 u3 u4 u5 u6 u7 u8 u9 u10 u11 u12 u13 u14 u15 u16 u17 : Value), Old H K ∧ H.length + 3 ≤ K.length ∧ K[H.length]? = some ⟨lyVs l' u0 u1 u2 u3 u4 u5 u6 u7 u8 u9 u10 u11 u12 u13 u14 u15 u16 u17, 0, true⟩ ∧ (∃ zc : List Value, zc.length = 50 ∧ K[H.length + 2]? = some ⟨zc, 0, true⟩) ∧ (∀ J, OlP p HB J → (∀ (c : Nat) (k : Blk), H.length ≤ c → c ≠ H.length + 2 → K[c]? = some k → J[c]? = some k) → LyV J l' u0 u1 u2 u3 u4 u5 u6 u7 u8 u9 ∧ ShV J l'.shape u10 u11 u12 u13 u14 u15 u16 u17) ∧ LyN (n + 1) l') ?_ ?_
  · have o := fun L => Old.app' H L
    have o : ∀ {L}, Old H (H ++ L) := fun {L} => o L
    have hcase : w = 0 ∨ w = 1 ∨ w = 2 ∨ w = 3 ∨ w = 4 ∨ w = 5 ∨ w = 6 ∨ w = 7 ∨ w = 8 ∨ w = 9 ∨ w = 10 ∨ w = 11 ∨ w = 12 ∨ w = 13 ∨ w = 14 ∨ w = 15 ∨ w = 16 ∨ w = 17 ∨ w = 18 ∨ w = 19 ∨ w = 20 ∨ w = 21 ∨ w = 22 := by omega
    rcases hcase with rfl | rfl | rfl | rfl | rfl | rfl | rfl | rfl | rfl | rfl | rfl | rfl | rfl | rfl | rfl | rfl | rfl | rfl | rfl | rfl | rfl | rfl | rfl
    · (refine sg (et t2 (et t3 (et t4 t5))) ?_; try exact ⟨⟩)
      refine (ka _).x ?_
      (refine sg (et t2 (et t3 (et t4 (et t5 (et wz1 (et wz2 (et kd kd0))))))) ?_; try exact ⟨⟩)
      exact ⟨{ l with kind := z - 1 }, v0, v1, v2, v3, v4, v5, v6, v7, v8, pm, vw, vh, vp, vc, vd, vda, vf, vt, o, by simp, by first | rfl | (rw [hget_app0]; rfl), ⟨_, rfl, by first | rfl | (rw [hget_app]; rfl)⟩, fun J o0J oJ => ⟨⟨(h J o0J).x, (h J o0J).y, (h J o0J).ax, (h J o0J).ay, (h J o0J).sx, (h J o0J).sy, (h J o0J).turn, (h J o0J).opac, (h J o0J).remap, (h J o0J).mask⟩, ⟨(hs J o0J).w, (hs J o0J).h, (hs J o0J).paths, (hs J o0J).colors, (hs J o0J).width, (hs J o0J).dash, (hs J o0J).frm, (hs J o0J).to⟩⟩, ⟨(by have := hz.x; exact Nat.le_succ_of_le this), (by have := hz.y; exact Nat.le_succ_of_le this), (by have := hz.ax; exact Nat.le_succ_of_le this), (by have := hz.ay; exact Nat.le_succ_of_le this), (by have := hz.sx; exact Nat.le_succ_of_le this), (by have := hz.sy; exact Nat.le_succ_of_le this), (by have := hz.turn; exact Nat.le_succ_of_le this), (by have := hz.opac; exact Nat.le_succ_of_le this), (by have := hz.remap; exact Nat.le_succ_of_le this), (by have := hz.mask; exact Nat.le_succ_of_le this), (by have := hz.w; exact Nat.le_succ_of_le this), (by have := hz.h; exact Nat.le_succ_of_le this), (by have := hz.paths; exact Nat.le_succ_of_le this), (fun p hp => Nat.le_succ_of_le (hz.pts p hp)), (by have := hz.colors; exact Nat.le_succ_of_le this), (by have := hz.width; exact Nat.le_succ_of_le this), (by have := hz.dash; exact Nat.le_succ_of_le this), (by have := hz.frm; exact Nat.le_succ_of_le this), (by have := hz.to; exact Nat.le_succ_of_le this)⟩⟩
    · (refine sg (et t2 (et t3 (et t4 t5))) ?_; try exact ⟨⟩)
      refine (ka _).x ?_
      (refine sg (et t2 (et t3 (et t4 (et t5 (et wz1 (et wz2 (et kd kd0))))))) ?_; try exact ⟨⟩)
      exact ⟨{ l with parent := z - 2 }, v0, v1, v2, v3, v4, v5, v6, v7, v8, pm, vw, vh, vp, vc, vd, vda, vf, vt, o, by simp, by first | rfl | (rw [hget_app0]; rfl), ⟨_, rfl, by first | rfl | (rw [hget_app]; rfl)⟩, fun J o0J oJ => ⟨⟨(h J o0J).x, (h J o0J).y, (h J o0J).ax, (h J o0J).ay, (h J o0J).sx, (h J o0J).sy, (h J o0J).turn, (h J o0J).opac, (h J o0J).remap, (h J o0J).mask⟩, ⟨(hs J o0J).w, (hs J o0J).h, (hs J o0J).paths, (hs J o0J).colors, (hs J o0J).width, (hs J o0J).dash, (hs J o0J).frm, (hs J o0J).to⟩⟩, ⟨(by have := hz.x; exact Nat.le_succ_of_le this), (by have := hz.y; exact Nat.le_succ_of_le this), (by have := hz.ax; exact Nat.le_succ_of_le this), (by have := hz.ay; exact Nat.le_succ_of_le this), (by have := hz.sx; exact Nat.le_succ_of_le this), (by have := hz.sy; exact Nat.le_succ_of_le this), (by have := hz.turn; exact Nat.le_succ_of_le this), (by have := hz.opac; exact Nat.le_succ_of_le this), (by have := hz.remap; exact Nat.le_succ_of_le this), (by have := hz.mask; exact Nat.le_succ_of_le this), (by have := hz.w; exact Nat.le_succ_of_le this), (by have := hz.h; exact Nat.le_succ_of_le this), (by have := hz.paths; exact Nat.le_succ_of_le this), (fun p hp => Nat.le_succ_of_le (hz.pts p hp)), (by have := hz.colors; exact Nat.le_succ_of_le this), (by have := hz.width; exact Nat.le_succ_of_le this), (by have := hz.dash; exact Nat.le_succ_of_le this), (by have := hz.frm; exact Nat.le_succ_of_le this), (by have := hz.to; exact Nat.le_succ_of_le this)⟩⟩
    · (refine sg (et t2 (et t3 (et t4 t5))) ?_; try exact ⟨⟩)
      refine (ka _).x ?_
      (refine sg (et t2 (et t3 (et t4 (et t5 (et wz1 (et wz2 (et kd kd0))))))) ?_; try exact ⟨⟩)
      exact ⟨{ l with comp := z }, v0, v1, v2, v3, v4, v5, v6, v7, v8, pm, vw, vh, vp, vc, vd, vda, vf, vt, o, by simp, by first | rfl | (rw [hget_app0]; rfl), ⟨_, rfl, by first | rfl | (rw [hget_app]; rfl)⟩, fun J o0J oJ => ⟨⟨(h J o0J).x, (h J o0J).y, (h J o0J).ax, (h J o0J).ay, (h J o0J).sx, (h J o0J).sy, (h J o0J).turn, (h J o0J).opac, (h J o0J).remap, (h J o0J).mask⟩, ⟨(hs J o0J).w, (hs J o0J).h, (hs J o0J).paths, (hs J o0J).colors, (hs J o0J).width, (hs J o0J).dash, (hs J o0J).frm, (hs J o0J).to⟩⟩, ⟨(by have := hz.x; exact Nat.le_succ_of_le this), (by have := hz.y; exact Nat.le_succ_of_le this), (by have := hz.ax; exact Nat.le_succ_of_le this), (by have := hz.ay; exact Nat.le_succ_of_le this), (by have := hz.sx; exact Nat.le_succ_of_le this), (by have := hz.sy; exact Nat.le_succ_of_le this), (by have := hz.turn; exact Nat.le_succ_of_le this), (by have := hz.opac; exact Nat.le_succ_of_le this), (by have := hz.remap; exact Nat.le_succ_of_le this), (by have := hz.mask; exact Nat.le_succ_of_le this), (by have := hz.w; exact Nat.le_succ_of_le this), (by have := hz.h; exact Nat.le_succ_of_le this), (by have := hz.paths; exact Nat.le_succ_of_le this), (fun p hp => Nat.le_succ_of_le (hz.pts p hp)), (by have := hz.colors; exact Nat.le_succ_of_le this), (by have := hz.width; exact Nat.le_succ_of_le this), (by have := hz.dash; exact Nat.le_succ_of_le this), (by have := hz.frm; exact Nat.le_succ_of_le this), (by have := hz.to; exact Nat.le_succ_of_le this)⟩⟩
    · (refine sg (et t2 (et t3 (et t4 t5))) ?_; try exact ⟨⟩)
      refine (ka _).x ?_
      (refine sg (et t2 (et t3 (et t4 (et t5 (et wz1 (et wz2 (et kd kd0))))))) ?_; try exact ⟨⟩)
      exact ⟨{ l with matte := z - 2 }, v0, v1, v2, v3, v4, v5, v6, v7, v8, pm, vw, vh, vp, vc, vd, vda, vf, vt, o, by simp, by first | rfl | (rw [hget_app0]; rfl), ⟨_, rfl, by first | rfl | (rw [hget_app]; rfl)⟩, fun J o0J oJ => ⟨⟨(h J o0J).x, (h J o0J).y, (h J o0J).ax, (h J o0J).ay, (h J o0J).sx, (h J o0J).sy, (h J o0J).turn, (h J o0J).opac, (h J o0J).remap, (h J o0J).mask⟩, ⟨(hs J o0J).w, (hs J o0J).h, (hs J o0J).paths, (hs J o0J).colors, (hs J o0J).width, (hs J o0J).dash, (hs J o0J).frm, (hs J o0J).to⟩⟩, ⟨(by have := hz.x; exact Nat.le_succ_of_le this), (by have := hz.y; exact Nat.le_succ_of_le this), (by have := hz.ax; exact Nat.le_succ_of_le this), (by have := hz.ay; exact Nat.le_succ_of_le this), (by have := hz.sx; exact Nat.le_succ_of_le this), (by have := hz.sy; exact Nat.le_succ_of_le this), (by have := hz.turn; exact Nat.le_succ_of_le this), (by have := hz.opac; exact Nat.le_succ_of_le this), (by have := hz.remap; exact Nat.le_succ_of_le this), (by have := hz.mask; exact Nat.le_succ_of_le this), (by have := hz.w; exact Nat.le_succ_of_le this), (by have := hz.h; exact Nat.le_succ_of_le this), (by have := hz.paths; exact Nat.le_succ_of_le this), (fun p hp => Nat.le_succ_of_le (hz.pts p hp)), (by have := hz.colors; exact Nat.le_succ_of_le this), (by have := hz.width; exact Nat.le_succ_of_le this), (by have := hz.dash; exact Nat.le_succ_of_le this), (by have := hz.frm; exact Nat.le_succ_of_le this), (by have := hz.to; exact Nat.le_succ_of_le this)⟩⟩
    · (refine sg (et t2 (et t3 (et t4 t5))) ?_; try exact ⟨⟩)
      refine (ka _).x ?_
      (refine sg (et t2 (et t3 (et t4 (et t5 (et wz1 (et wz2 (et kd kd0))))))) ?_; try exact ⟨⟩)
      exact ⟨{ l with in_ := N }, v0, v1, v2, v3, v4, v5, v6, v7, v8, pm, vw, vh, vp, vc, vd, vda, vf, vt, o, by simp, by first | rfl | (rw [hget_app0]; rfl), ⟨_, rfl, by first | rfl | (rw [hget_app]; rfl)⟩, fun J o0J oJ => ⟨⟨(h J o0J).x, (h J o0J).y, (h J o0J).ax, (h J o0J).ay, (h J o0J).sx, (h J o0J).sy, (h J o0J).turn, (h J o0J).opac, (h J o0J).remap, (h J o0J).mask⟩, ⟨(hs J o0J).w, (hs J o0J).h, (hs J o0J).paths, (hs J o0J).colors, (hs J o0J).width, (hs J o0J).dash, (hs J o0J).frm, (hs J o0J).to⟩⟩, ⟨(by have := hz.x; exact Nat.le_succ_of_le this), (by have := hz.y; exact Nat.le_succ_of_le this), (by have := hz.ax; exact Nat.le_succ_of_le this), (by have := hz.ay; exact Nat.le_succ_of_le this), (by have := hz.sx; exact Nat.le_succ_of_le this), (by have := hz.sy; exact Nat.le_succ_of_le this), (by have := hz.turn; exact Nat.le_succ_of_le this), (by have := hz.opac; exact Nat.le_succ_of_le this), (by have := hz.remap; exact Nat.le_succ_of_le this), (by have := hz.mask; exact Nat.le_succ_of_le this), (by have := hz.w; exact Nat.le_succ_of_le this), (by have := hz.h; exact Nat.le_succ_of_le this), (by have := hz.paths; exact Nat.le_succ_of_le this), (fun p hp => Nat.le_succ_of_le (hz.pts p hp)), (by have := hz.colors; exact Nat.le_succ_of_le this), (by have := hz.width; exact Nat.le_succ_of_le this), (by have := hz.dash; exact Nat.le_succ_of_le this), (by have := hz.frm; exact Nat.le_succ_of_le this), (by have := hz.to; exact Nat.le_succ_of_le this)⟩⟩
    · (refine sg (et t2 (et t3 (et t4 t5))) ?_; try exact ⟨⟩)
      refine (ka _).x ?_
      (refine sg (et t2 (et t3 (et t4 (et t5 (et wz1 (et wz2 (et kd kd0))))))) ?_; try exact ⟨⟩)
      exact ⟨{ l with out := N }, v0, v1, v2, v3, v4, v5, v6, v7, v8, pm, vw, vh, vp, vc, vd, vda, vf, vt, o, by simp, by first | rfl | (rw [hget_app0]; rfl), ⟨_, rfl, by first | rfl | (rw [hget_app]; rfl)⟩, fun J o0J oJ => ⟨⟨(h J o0J).x, (h J o0J).y, (h J o0J).ax, (h J o0J).ay, (h J o0J).sx, (h J o0J).sy, (h J o0J).turn, (h J o0J).opac, (h J o0J).remap, (h J o0J).mask⟩, ⟨(hs J o0J).w, (hs J o0J).h, (hs J o0J).paths, (hs J o0J).colors, (hs J o0J).width, (hs J o0J).dash, (hs J o0J).frm, (hs J o0J).to⟩⟩, ⟨(by have := hz.x; exact Nat.le_succ_of_le this), (by have := hz.y; exact Nat.le_succ_of_le this), (by have := hz.ax; exact Nat.le_succ_of_le this), (by have := hz.ay; exact Nat.le_succ_of_le this), (by have := hz.sx; exact Nat.le_succ_of_le this), (by have := hz.sy; exact Nat.le_succ_of_le this), (by have := hz.turn; exact Nat.le_succ_of_le this), (by have := hz.opac; exact Nat.le_succ_of_le this), (by have := hz.remap; exact Nat.le_succ_of_le this), (by have := hz.mask; exact Nat.le_succ_of_le this), (by have := hz.w; exact Nat.le_succ_of_le this), (by have := hz.h; exact Nat.le_succ_of_le this), (by have := hz.paths; exact Nat.le_succ_of_le this), (fun p hp => Nat.le_succ_of_le (hz.pts p hp)), (by have := hz.colors; exact Nat.le_succ_of_le this), (by have := hz.width; exact Nat.le_succ_of_le this), (by have := hz.dash; exact Nat.le_succ_of_le this), (by have := hz.frm; exact Nat.le_succ_of_le this), (by have := hz.to; exact Nat.le_succ_of_le this)⟩⟩
    · (refine sg (et t2 (et t3 (et t4 t5))) ?_; try exact ⟨⟩)
      refine (ka _).x ?_
      (refine sg (et t2 (et t3 (et t4 (et t5 (et wz1 (et wz2 (et kd kd0))))))) ?_; try exact ⟨⟩)
      exact ⟨{ l with start := N }, v0, v1, v2, v3, v4, v5, v6, v7, v8, pm, vw, vh, vp, vc, vd, vda, vf, vt, o, by simp, by first | rfl | (rw [hget_app0]; rfl), ⟨_, rfl, by first | rfl | (rw [hget_app]; rfl)⟩, fun J o0J oJ => ⟨⟨(h J o0J).x, (h J o0J).y, (h J o0J).ax, (h J o0J).ay, (h J o0J).sx, (h J o0J).sy, (h J o0J).turn, (h J o0J).opac, (h J o0J).remap, (h J o0J).mask⟩, ⟨(hs J o0J).w, (hs J o0J).h, (hs J o0J).paths, (hs J o0J).colors, (hs J o0J).width, (hs J o0J).dash, (hs J o0J).frm, (hs J o0J).to⟩⟩, ⟨(by have := hz.x; exact Nat.le_succ_of_le this), (by have := hz.y; exact Nat.le_succ_of_le this), (by have := hz.ax; exact Nat.le_succ_of_le this), (by have := hz.ay; exact Nat.le_succ_of_le this), (by have := hz.sx; exact Nat.le_succ_of_le this), (by have := hz.sy; exact Nat.le_succ_of_le this), (by have := hz.turn; exact Nat.le_succ_of_le this), (by have := hz.opac; exact Nat.le_succ_of_le this), (by have := hz.remap; exact Nat.le_succ_of_le this), (by have := hz.mask; exact Nat.le_succ_of_le this), (by have := hz.w; exact Nat.le_succ_of_le this), (by have := hz.h; exact Nat.le_succ_of_le this), (by have := hz.paths; exact Nat.le_succ_of_le this), (fun p hp => Nat.le_succ_of_le (hz.pts p hp)), (by have := hz.colors; exact Nat.le_succ_of_le this), (by have := hz.width; exact Nat.le_succ_of_le this), (by have := hz.dash; exact Nat.le_succ_of_le this), (by have := hz.frm; exact Nat.le_succ_of_le this), (by have := hz.to; exact Nat.le_succ_of_le this)⟩⟩
    · by_cases hx0 : l.x = []
      · have hxl : l.x.length = 0 := by rw [hx0]; rfl
        have ha : ∀ J : AH, Old H J → asrc J 7 v0 = some ([], 0, []) := fun J oJ => by
          rcases (h H (OlP.old o0)).x with ⟨_, ⟨e, rfl⟩ | rfl⟩ | ⟨bx, gx, rest, rw_, cs, rfl, h2, h3, h4, h5⟩
          · exact asrc_zs
          · exact asrc_nil
          · rw [asrc_sl, oJ _ _ h2, hxl, asy_zero]
        (refine sg (et t2 (et t3 (et t4 t5))) ?_; try exact ⟨⟩)
        refine (ka _).x ?_
        (refine sg (et t2 (et t3 (et t4 t5))) ?_; try exact ⟨⟩)
        refine drawnU [(3, 4), (3, 5), (3, 6), (3, 7), (3, 8), (3, 9)] (by decide +kernel) ?_
        simp only [go_sem, Nat.reduceEqDiff, Nat.reduceAdd, Nat.reduceSub, Nat.reduceMul, Nat.reduceLT, Nat.reduceLeDiff, Int.reducePow, Int.reduceBEq, Int.reduceBNe, Int.reduceDiv, Int.reduceMod, Int.reduceEq, Int.reduceLT, Int.reduceLE, Int.reduceAdd, Int.reduceSub, Int.reduceMul, Int.reduceNeg, Int.reduceToNat, Int.reduceTDiv, Int.reduceTMod, ↓reduceIte, t2, t3, t4, t5, ha _ o, Nat.zero_add, Nat.zero_mul, kd, kd0]
        exact ⟨{ l with x := l.x ++ [⟨N, N, 0, ez00⟩] }, sl (H.length + 3) 0 1 1 7, v1, v2, v3, v4, v5, v6, v7, v8, pm, vw, vh, vp, vc, vd, vda, vf, vt, o, by simp, by first | rfl | (rw [hget_app0]; rfl), ⟨_, rfl, by first | rfl | (rw [hget_app]; rfl)⟩, fun J o0J oJ => ⟨⟨(by show RowOf 7 KyE _ _ (l.x ++ [⟨N, N, 0, ez00⟩]); rw [hx0]; exact RowOf.one (oJ _ _ (by omega) (by omega) (by first | rfl | (rw [hget_app]; rfl))) rfl rfl), (h J o0J).y, (h J o0J).ax, (h J o0J).ay, (h J o0J).sx, (h J o0J).sy, (h J o0J).turn, (h J o0J).opac, (h J o0J).remap, (h J o0J).mask⟩, ⟨(hs J o0J).w, (hs J o0J).h, (hs J o0J).paths, (hs J o0J).colors, (hs J o0J).width, (hs J o0J).dash, (hs J o0J).frm, (hs J o0J).to⟩⟩, ⟨(by show (l.x ++ [_]).length ≤ n + 1; rw [hx0]; simp), (by have := hz.y; exact Nat.le_succ_of_le this), (by have := hz.ax; exact Nat.le_succ_of_le this), (by have := hz.ay; exact Nat.le_succ_of_le this), (by have := hz.sx; exact Nat.le_succ_of_le this), (by have := hz.sy; exact Nat.le_succ_of_le this), (by have := hz.turn; exact Nat.le_succ_of_le this), (by have := hz.opac; exact Nat.le_succ_of_le this), (by have := hz.remap; exact Nat.le_succ_of_le this), (by have := hz.mask; exact Nat.le_succ_of_le this), (by have := hz.w; exact Nat.le_succ_of_le this), (by have := hz.h; exact Nat.le_succ_of_le this), (by have := hz.paths; exact Nat.le_succ_of_le this), (fun p hp => Nat.le_succ_of_le (hz.pts p hp)), (by have := hz.colors; exact Nat.le_succ_of_le this), (by have := hz.width; exact Nat.le_succ_of_le this), (by have := hz.dash; exact Nat.le_succ_of_le this), (by have := hz.frm; exact Nat.le_succ_of_le this), (by have := hz.to; exact Nat.le_succ_of_le this)⟩⟩
      · rcases (h H (OlP.old o0)).x with ⟨e, _⟩ | ⟨bx, gx, rest, rw_, cs, hv0, h2, h3, h4, h5⟩
        · exact absurd e hx0
        subst hv0
        have hxl : ¬ l.x.length = 0 := fun e => hx0 (List.eq_nil_of_length_eq_zero e)
        have hxn := hz.x
        have hfl := flatten_len (RowOf.all h3 h5)
        rw [h3] at hfl
        have zn : (l.x.length = 0) = False := eq_false hxl
        have hz1 : 0 + l.x.length * 7 - (cs.flatten ++ rest).length = 0 := by rw [List.length_append, hfl]; omega
        have ht1 : ((cs.flatten ++ rest).drop 0).take (l.x.length * 7) = cs.flatten := by rw [List.drop_zero, ← hfl, List.take_left]
        have ha : ∀ J : AH, Old H J → asrc J 7 (sl bx 0 gx l.x.length 7) = some (cs.flatten, l.x.length, [bx]) := fun J oJ => by
          rw [asrc_sl, oJ _ _ h2, asy_some zn hz1, ht1]
        have hp3 : l.x.length * 56 - 140737488355328 = 0 := Nat.sub_eq_zero_of_le (Nat.le_trans (Nat.mul_le_mul_right 56 (show l.x.length ≤ 1000 by omega)) (by decide))
        have hp4 : l.x.length - 140737488355328 = 0 := Nat.sub_eq_zero_of_le (Nat.le_trans (show l.x.length ≤ 1000 by omega) (by decide))
        have hp5 : (l.x.length + 1) * 56 - 140737488355328 = 0 := Nat.sub_eq_zero_of_le (Nat.le_trans (Nat.mul_le_mul_right 56 (show l.x.length + 1 ≤ 1001 by omega)) (by decide))
        have hp6 : l.x.length + 1 - 140737488355328 = 0 := Nat.sub_eq_zero_of_le (Nat.le_trans (show l.x.length + 1 ≤ 1001 by omega) (by decide))
        have hbx := (List.getElem?_eq_some_iff.1 h2).1
        have nb : ∀ k, (bx = H.length + k) = False := fun k => eq_false (by omega)
        have nb' : ∀ k, (H.length + k = bx) = False := fun k => eq_false (by omega)
        have nb0 : (H.length = bx) = False := eq_false (by omega)
        (refine sg (et t2 (et t3 (et t4 t5))) ?_; try exact ⟨⟩)
        refine (ka _).x ?_
        (refine sg (et t2 (et t3 (et t4 t5))) ?_; try exact ⟨⟩)
        refine drawnU [(3, 4), (3, 5), (3, 6), (3, 7), (3, 8), (3, 9)] (by decide +kernel) ?_
        simp only [go_sem, Nat.reduceEqDiff, Nat.reduceAdd, Nat.reduceSub, Nat.reduceMul, Nat.reduceLT, Nat.reduceLeDiff, Int.reducePow, Int.reduceBEq, Int.reduceBNe, Int.reduceDiv, Int.reduceMod, Int.reduceEq, Int.reduceLT, Int.reduceLE, Int.reduceAdd, Int.reduceSub, Int.reduceMul, Int.reduceNeg, Int.reduceToNat, Int.reduceTDiv, Int.reduceTMod, ↓reduceIte, t2, t3, t4, t5, ha _ o, zn, hp3, hp4, hp5, hp6, hfl, Nat.zero_add, Nat.zero_mul, kd, kd0, nb, nb', nb0]
        exact ⟨{ l with x := l.x ++ [⟨N, N, 0, ez00⟩] }, sl (H.length + 3) 0 2 (l.x.length + 1) 7, v1, v2, v3, v4, v5, v6, v7, v8, pm, vw, vh, vp, vc, vd, vda, vf, vt, o, by simp, by first | rfl | (rw [hget_app0]; rfl), ⟨_, rfl, by first | rfl | (rw [hget_app]; rfl)⟩, fun J o0J oJ => ⟨⟨(by show RowOf 7 KyE _ _ (l.x ++ [⟨N, N, 0, ez00⟩]); exact .inr ⟨H.length + 3, 2, [], true, cs ++ [kyC ⟨N, N, 0, ez00⟩], by rw [List.length_append]; rfl, by rw [List.append_nil, List.flatten_append, List.flatten_singleton]; exact oJ _ _ (by omega) (by omega) (by first | rfl | (rw [hget_app]; rfl)), by rw [List.length_append, List.length_append, h3]; rfl, by rw [List.length_append]; simp; omega, fun i y hy => by (by_cases hi : i < l.x.length; (rw [List.getElem?_append_left hi] at hy; rw [List.getElem?_append_left (by omega)]; exact h5 i y hy); (have hi2 : i = l.x.length := by (have := (List.getElem?_eq_some_iff.1 hy).1; simp at this; omega)); subst hi2; rw [List.getElem?_append_right (by omega), Nat.sub_self] at hy; simp at hy; subst hy; exact ⟨_, by rw [List.getElem?_append_right (by omega), h3, Nat.sub_self]; rfl, rfl, rfl⟩)⟩), (h J o0J).y, (h J o0J).ax, (h J o0J).ay, (h J o0J).sx, (h J o0J).sy, (h J o0J).turn, (h J o0J).opac, (h J o0J).remap, (h J o0J).mask⟩, ⟨(hs J o0J).w, (hs J o0J).h, (hs J o0J).paths, (hs J o0J).colors, (hs J o0J).width, (hs J o0J).dash, (hs J o0J).frm, (hs J o0J).to⟩⟩, ⟨(by show (l.x ++ [_]).length ≤ n + 1; rw [List.length_append]; simp; omega), (by have := hz.y; exact Nat.le_succ_of_le this), (by have := hz.ax; exact Nat.le_succ_of_le this), (by have := hz.ay; exact Nat.le_succ_of_le this), (by have := hz.sx; exact Nat.le_succ_of_le this), (by have := hz.sy; exact Nat.le_succ_of_le this), (by have := hz.turn; exact Nat.le_succ_of_le this), (by have := hz.opac; exact Nat.le_succ_of_le this), (by have := hz.remap; exact Nat.le_succ_of_le this), (by have := hz.mask; exact Nat.le_succ_of_le this), (by have := hz.w; exact Nat.le_succ_of_le this), (by have := hz.h; exact Nat.le_succ_of_le this), (by have := hz.paths; exact Nat.le_succ_of_le this), (fun p hp => Nat.le_succ_of_le (hz.pts p hp)), (by have := hz.colors; exact Nat.le_succ_of_le this), (by have := hz.width; exact Nat.le_succ_of_le this), (by have := hz.dash; exact Nat.le_succ_of_le this), (by have := hz.frm; exact Nat.le_succ_of_le this), (by have := hz.to; exact Nat.le_succ_of_le this)⟩⟩
    · (refine sg (et t2 (et t3 (et t4 t5))) ?_; try exact ⟨⟩)
      refine (ka _).x ?_
      (refine sg (et t2 (et t3 (et t4 (et t5 (et wz1 (et wz2 (et kd kd0))))))) ?_; try exact ⟨⟩)
      exact ⟨{ l with opac := [⟨0, N, z - 1, ez00⟩] }, v0, v1, v2, v3, v4, v5, v6, sl (H.length + 3) 0 0 1 7, v8, pm, vw, vh, vp, vc, vd, vda, vf, vt, o, by simp, by first | rfl | (rw [hget_app0]; rfl), ⟨_, rfl, by first | rfl | (rw [hget_app]; rfl)⟩, fun J o0J oJ => ⟨⟨(h J o0J).x, (h J o0J).y, (h J o0J).ax, (h J o0J).ay, (h J o0J).sx, (h J o0J).sy, (h J o0J).turn, RowOf.one (oJ _ _ (by omega) (by omega) (by first | rfl | (rw [hget_app]; rfl))) rfl rfl, (h J o0J).remap, (h J o0J).mask⟩, ⟨(hs J o0J).w, (hs J o0J).h, (hs J o0J).paths, (hs J o0J).colors, (hs J o0J).width, (hs J o0J).dash, (hs J o0J).frm, (hs J o0J).to⟩⟩, ⟨(by have := hz.x; exact Nat.le_succ_of_le this), (by have := hz.y; exact Nat.le_succ_of_le this), (by have := hz.ax; exact Nat.le_succ_of_le this), (by have := hz.ay; exact Nat.le_succ_of_le this), (by have := hz.sx; exact Nat.le_succ_of_le this), (by have := hz.sy; exact Nat.le_succ_of_le this), (by have := hz.turn; exact Nat.le_succ_of_le this), (by show [_].length ≤ n + 1; simp), (by have := hz.remap; exact Nat.le_succ_of_le this), (by have := hz.mask; exact Nat.le_succ_of_le this), (by have := hz.w; exact Nat.le_succ_of_le this), (by have := hz.h; exact Nat.le_succ_of_le this), (by have := hz.paths; exact Nat.le_succ_of_le this), (fun p hp => Nat.le_succ_of_le (hz.pts p hp)), (by have := hz.colors; exact Nat.le_succ_of_le this), (by have := hz.width; exact Nat.le_succ_of_le this), (by have := hz.dash; exact Nat.le_succ_of_le this), (by have := hz.frm; exact Nat.le_succ_of_le this), (by have := hz.to; exact Nat.le_succ_of_le this)⟩⟩
    · (refine sg (et t2 (et t3 (et t4 t5))) ?_; try exact ⟨⟩)
      refine (ka _).x ?_
      (refine sg (et t2 (et t3 (et t4 (et t5 (et wz1 (et wz2 (et kd kd0))))))) ?_; try exact ⟨⟩)
      exact ⟨{ l with remap := [⟨N, 0, 0, ez00⟩] }, v0, v1, v2, v3, v4, v5, v6, v7, sl (H.length + 3) 0 0 1 7, pm, vw, vh, vp, vc, vd, vda, vf, vt, o, by simp, by first | rfl | (rw [hget_app0]; rfl), ⟨_, rfl, by first | rfl | (rw [hget_app]; rfl)⟩, fun J o0J oJ => ⟨⟨(h J o0J).x, (h J o0J).y, (h J o0J).ax, (h J o0J).ay, (h J o0J).sx, (h J o0J).sy, (h J o0J).turn, (h J o0J).opac, RowOf.one (oJ _ _ (by omega) (by omega) (by first | rfl | (rw [hget_app]; rfl))) rfl rfl, (h J o0J).mask⟩, ⟨(hs J o0J).w, (hs J o0J).h, (hs J o0J).paths, (hs J o0J).colors, (hs J o0J).width, (hs J o0J).dash, (hs J o0J).frm, (hs J o0J).to⟩⟩, ⟨(by have := hz.x; exact Nat.le_succ_of_le this), (by have := hz.y; exact Nat.le_succ_of_le this), (by have := hz.ax; exact Nat.le_succ_of_le this), (by have := hz.ay; exact Nat.le_succ_of_le this), (by have := hz.sx; exact Nat.le_succ_of_le this), (by have := hz.sy; exact Nat.le_succ_of_le this), (by have := hz.turn; exact Nat.le_succ_of_le this), (by have := hz.opac; exact Nat.le_succ_of_le this), (by show [_].length ≤ n + 1; simp), (by have := hz.mask; exact Nat.le_succ_of_le this), (by have := hz.w; exact Nat.le_succ_of_le this), (by have := hz.h; exact Nat.le_succ_of_le this), (by have := hz.paths; exact Nat.le_succ_of_le this), (fun p hp => Nat.le_succ_of_le (hz.pts p hp)), (by have := hz.colors; exact Nat.le_succ_of_le this), (by have := hz.width; exact Nat.le_succ_of_le this), (by have := hz.dash; exact Nat.le_succ_of_le this), (by have := hz.frm; exact Nat.le_succ_of_le this), (by have := hz.to; exact Nat.le_succ_of_le this)⟩⟩
    · (refine sg (et t2 (et t3 (et t4 t5))) ?_; try exact ⟨⟩)
      refine (ka _).x ?_
      (refine sg (et t2 (et t3 (et t4 (et t5 (et wz1 (et wz2 (et kd (et kd0 (et and1 mk))))))))) ?_; try exact ⟨⟩)
      exact ⟨{ l with mask := (z % 2 == 0, List.replicate m (0, 0)) }, v0, v1, v2, v3, v4, v5, v6, v7, v8, sl (H.length + 3) 0 0 m 2, vw, vh, vp, vc, vd, vda, vf, vt, o, by simp, by first | rfl | (rw [hget_app0]; rfl), ⟨_, rfl, by first | rfl | (rw [hget_app]; rfl)⟩, fun J o0J oJ => ⟨⟨(h J o0J).x, (h J o0J).y, (h J o0J).ax, (h J o0J).ay, (h J o0J).sx, (h J o0J).sy, (h J o0J).turn, (h J o0J).opac, (h J o0J).remap, .inr ⟨H.length + 3, 0, [], true, by show sl (H.length + 3) 0 0 m 2 = sl (H.length + 3) 0 0 (List.replicate m (((0 : Int), (0 : Int)) : Pt)).length 2; rw [List.length_replicate], by rw [List.append_nil]; exact oJ _ _ (by omega) (by omega) (by first | rfl | (rw [hget_app]; rfl)), by show (List.replicate m (((0 : Int), (0 : Int)) : Pt)).length ≤ _; rw [List.length_replicate]; omega⟩⟩, ⟨(hs J o0J).w, (hs J o0J).h, (hs J o0J).paths, (hs J o0J).colors, (hs J o0J).width, (hs J o0J).dash, (hs J o0J).frm, (hs J o0J).to⟩⟩, ⟨(by have := hz.x; exact Nat.le_succ_of_le this), (by have := hz.y; exact Nat.le_succ_of_le this), (by have := hz.ax; exact Nat.le_succ_of_le this), (by have := hz.ay; exact Nat.le_succ_of_le this), (by have := hz.sx; exact Nat.le_succ_of_le this), (by have := hz.sy; exact Nat.le_succ_of_le this), (by have := hz.turn; exact Nat.le_succ_of_le this), (by have := hz.opac; exact Nat.le_succ_of_le this), (by have := hz.remap; exact Nat.le_succ_of_le this), (by show (List.replicate m (((0 : Int), (0 : Int)) : Pt)).length ≤ n + 1; rw [List.length_replicate]; omega), (by have := hz.w; exact Nat.le_succ_of_le this), (by have := hz.h; exact Nat.le_succ_of_le this), (by have := hz.paths; exact Nat.le_succ_of_le this), (fun p hp => Nat.le_succ_of_le (hz.pts p hp)), (by have := hz.colors; exact Nat.le_succ_of_le this), (by have := hz.width; exact Nat.le_succ_of_le this), (by have := hz.dash; exact Nat.le_succ_of_le this), (by have := hz.frm; exact Nat.le_succ_of_le this), (by have := hz.to; exact Nat.le_succ_of_le this)⟩⟩
    · (refine sg (et t2 (et t3 (et t4 t5))) ?_; try exact ⟨⟩)
      refine (ka _).x ?_
      (refine sg (et t2 (et t3 (et t4 (et t5 (et wz1 (et wz2 (et kd kd0))))))) ?_; try exact ⟨⟩)
      exact ⟨{ l with shape := { l.shape with form := z - 1 } }, v0, v1, v2, v3, v4, v5, v6, v7, v8, pm, vw, vh, vp, vc, vd, vda, vf, vt, o, by simp, by first | rfl | (rw [hget_app0]; rfl), ⟨_, rfl, by first | rfl | (rw [hget_app]; rfl)⟩, fun J o0J oJ => ⟨⟨(h J o0J).x, (h J o0J).y, (h J o0J).ax, (h J o0J).ay, (h J o0J).sx, (h J o0J).sy, (h J o0J).turn, (h J o0J).opac, (h J o0J).remap, (h J o0J).mask⟩, ⟨(hs J o0J).w, (hs J o0J).h, (hs J o0J).paths, (hs J o0J).colors, (hs J o0J).width, (hs J o0J).dash, (hs J o0J).frm, (hs J o0J).to⟩⟩, ⟨(by have := hz.x; exact Nat.le_succ_of_le this), (by have := hz.y; exact Nat.le_succ_of_le this), (by have := hz.ax; exact Nat.le_succ_of_le this), (by have := hz.ay; exact Nat.le_succ_of_le this), (by have := hz.sx; exact Nat.le_succ_of_le this), (by have := hz.sy; exact Nat.le_succ_of_le this), (by have := hz.turn; exact Nat.le_succ_of_le this), (by have := hz.opac; exact Nat.le_succ_of_le this), (by have := hz.remap; exact Nat.le_succ_of_le this), (by have := hz.mask; exact Nat.le_succ_of_le this), (by have := hz.w; exact Nat.le_succ_of_le this), (by have := hz.h; exact Nat.le_succ_of_le this), (by have := hz.paths; exact Nat.le_succ_of_le this), (fun p hp => Nat.le_succ_of_le (hz.pts p hp)), (by have := hz.colors; exact Nat.le_succ_of_le this), (by have := hz.width; exact Nat.le_succ_of_le this), (by have := hz.dash; exact Nat.le_succ_of_le this), (by have := hz.frm; exact Nat.le_succ_of_le this), (by have := hz.to; exact Nat.le_succ_of_le this)⟩⟩
    · (refine sg (et t2 (et t3 (et t4 t5))) ?_; try exact ⟨⟩)
      refine (ka _).x ?_
      (refine sg (et t2 (et t3 (et t4 (et t5 (et wz1 (et wz2 (et kd kd0))))))) ?_; try exact ⟨⟩)
      exact ⟨{ l with shape := { l.shape with n := z } }, v0, v1, v2, v3, v4, v5, v6, v7, v8, pm, vw, vh, vp, vc, vd, vda, vf, vt, o, by simp, by first | rfl | (rw [hget_app0]; rfl), ⟨_, rfl, by first | rfl | (rw [hget_app]; rfl)⟩, fun J o0J oJ => ⟨⟨(h J o0J).x, (h J o0J).y, (h J o0J).ax, (h J o0J).ay, (h J o0J).sx, (h J o0J).sy, (h J o0J).turn, (h J o0J).opac, (h J o0J).remap, (h J o0J).mask⟩, ⟨(hs J o0J).w, (hs J o0J).h, (hs J o0J).paths, (hs J o0J).colors, (hs J o0J).width, (hs J o0J).dash, (hs J o0J).frm, (hs J o0J).to⟩⟩, ⟨(by have := hz.x; exact Nat.le_succ_of_le this), (by have := hz.y; exact Nat.le_succ_of_le this), (by have := hz.ax; exact Nat.le_succ_of_le this), (by have := hz.ay; exact Nat.le_succ_of_le this), (by have := hz.sx; exact Nat.le_succ_of_le this), (by have := hz.sy; exact Nat.le_succ_of_le this), (by have := hz.turn; exact Nat.le_succ_of_le this), (by have := hz.opac; exact Nat.le_succ_of_le this), (by have := hz.remap; exact Nat.le_succ_of_le this), (by have := hz.mask; exact Nat.le_succ_of_le this), (by have := hz.w; exact Nat.le_succ_of_le this), (by have := hz.h; exact Nat.le_succ_of_le this), (by have := hz.paths; exact Nat.le_succ_of_le this), (fun p hp => Nat.le_succ_of_le (hz.pts p hp)), (by have := hz.colors; exact Nat.le_succ_of_le this), (by have := hz.width; exact Nat.le_succ_of_le this), (by have := hz.dash; exact Nat.le_succ_of_le this), (by have := hz.frm; exact Nat.le_succ_of_le this), (by have := hz.to; exact Nat.le_succ_of_le this)⟩⟩
    · (refine sg (et t2 (et t3 (et t4 t5))) ?_; try exact ⟨⟩)
      refine (ka _).x ?_
      (refine sg (et t2 (et t3 (et t4 (et t5 (et wz1 (et wz2 (et kd kd0))))))) ?_; try exact ⟨⟩)
      exact ⟨{ l with shape := { l.shape with w := [⟨N, N, 0, ez00⟩, ⟨5, 0, 0, ez00⟩] } }, v0, v1, v2, v3, v4, v5, v6, v7, v8, pm, sl (H.length + 3) 0 0 2 7, vh, vp, vc, vd, vda, vf, vt, o, by simp, by first | rfl | (rw [hget_app0]; rfl), ⟨_, rfl, by first | rfl | (rw [hget_app]; rfl)⟩, fun J o0J oJ => ⟨⟨(h J o0J).x, (h J o0J).y, (h J o0J).ax, (h J o0J).ay, (h J o0J).sx, (h J o0J).sy, (h J o0J).turn, (h J o0J).opac, (h J o0J).remap, (h J o0J).mask⟩, ⟨RowOf.two (c := kyC ⟨N, N, 0, ez00⟩) (c' := kyC ⟨5, 0, 0, ez00⟩) (oJ _ _ (by omega) (by omega) (by first | rfl | (rw [hget_app]; rfl))) rfl rfl rfl rfl, (hs J o0J).h, (hs J o0J).paths, (hs J o0J).colors, (hs J o0J).width, (hs J o0J).dash, (hs J o0J).frm, (hs J o0J).to⟩⟩, ⟨(by have := hz.x; exact Nat.le_succ_of_le this), (by have := hz.y; exact Nat.le_succ_of_le this), (by have := hz.ax; exact Nat.le_succ_of_le this), (by have := hz.ay; exact Nat.le_succ_of_le this), (by have := hz.sx; exact Nat.le_succ_of_le this), (by have := hz.sy; exact Nat.le_succ_of_le this), (by have := hz.turn; exact Nat.le_succ_of_le this), (by have := hz.opac; exact Nat.le_succ_of_le this), (by have := hz.remap; exact Nat.le_succ_of_le this), (by have := hz.mask; exact Nat.le_succ_of_le this), (by show [_, _].length ≤ n + 1; simp; omega), (by have := hz.h; exact Nat.le_succ_of_le this), (by have := hz.paths; exact Nat.le_succ_of_le this), (fun p hp => Nat.le_succ_of_le (hz.pts p hp)), (by have := hz.colors; exact Nat.le_succ_of_le this), (by have := hz.width; exact Nat.le_succ_of_le this), (by have := hz.dash; exact Nat.le_succ_of_le this), (by have := hz.frm; exact Nat.le_succ_of_le this), (by have := hz.to; exact Nat.le_succ_of_le this)⟩⟩
    · (refine sg (et t2 (et t3 (et t4 t5))) ?_; try exact ⟨⟩)
      refine (ka _).x ?_
      (refine sg (et t2 (et t3 (et t4 (et t5 (et wz1 (et wz2 (et kd (et kd0 mk)))))))) ?_; try exact ⟨⟩)
      exact ⟨{ l with shape := { l.shape with paths := [⟨0, (false, List.replicate m (0, 0)), 0, ez00⟩] } }, v0, v1, v2, v3, v4, v5, v6, v7, v8, pm, vw, vh, sl (H.length + 4) 0 0 1 8, vc, vd, vda, vf, vt, o, by simp, by first | rfl | (rw [hget_app0]; rfl), ⟨_, rfl, by first | rfl | (rw [hget_app]; rfl)⟩, fun J o0J oJ => ⟨⟨(h J o0J).x, (h J o0J).y, (h J o0J).ax, (h J o0J).ay, (h J o0J).sx, (h J o0J).sy, (h J o0J).turn, (h J o0J).opac, (h J o0J).remap, (h J o0J).mask⟩, ⟨(hs J o0J).w, (hs J o0J).h, RowOf.one (oJ _ _ (by omega) (by omega) (by first | rfl | (rw [hget_app]; rfl))) rfl ⟨sl (H.length + 3) 0 0 m 2, rfl, .inr ⟨H.length + 3, 0, [], true, by show sl (H.length + 3) 0 0 m 2 = sl (H.length + 3) 0 0 (List.replicate m (((0 : Int), (0 : Int)) : Pt)).length 2; rw [List.length_replicate], by rw [List.append_nil]; exact oJ _ _ (by omega) (by omega) (by first | rfl | (rw [hget_app]; rfl)), by show (List.replicate m (((0 : Int), (0 : Int)) : Pt)).length ≤ _; rw [List.length_replicate]; omega⟩⟩, (hs J o0J).colors, (hs J o0J).width, (hs J o0J).dash, (hs J o0J).frm, (hs J o0J).to⟩⟩, ⟨(by have := hz.x; exact Nat.le_succ_of_le this), (by have := hz.y; exact Nat.le_succ_of_le this), (by have := hz.ax; exact Nat.le_succ_of_le this), (by have := hz.ay; exact Nat.le_succ_of_le this), (by have := hz.sx; exact Nat.le_succ_of_le this), (by have := hz.sy; exact Nat.le_succ_of_le this), (by have := hz.turn; exact Nat.le_succ_of_le this), (by have := hz.opac; exact Nat.le_succ_of_le this), (by have := hz.remap; exact Nat.le_succ_of_le this), (by have := hz.mask; exact Nat.le_succ_of_le this), (by have := hz.w; exact Nat.le_succ_of_le this), (by have := hz.h; exact Nat.le_succ_of_le this), (by show [_].length ≤ n + 1; simp), (fun p hp => by rw [List.mem_singleton.1 hp]; show (List.replicate m (((0 : Int), (0 : Int)) : Pt)).length ≤ n + 1; rw [List.length_replicate]; omega), (by have := hz.colors; exact Nat.le_succ_of_le this), (by have := hz.width; exact Nat.le_succ_of_le this), (by have := hz.dash; exact Nat.le_succ_of_le this), (by have := hz.frm; exact Nat.le_succ_of_le this), (by have := hz.to; exact Nat.le_succ_of_le this)⟩⟩
    · (refine sg (et t2 (et t3 (et t4 t5))) ?_; try exact ⟨⟩)
      refine (ka _).x ?_
      (refine sg (et t2 (et t3 (et t4 (et t5 (et wz1 (et wz2 (et kd kd0))))))) ?_; try exact ⟨⟩)
      exact ⟨{ l with shape := { l.shape with rule := z - 1 } }, v0, v1, v2, v3, v4, v5, v6, v7, v8, pm, vw, vh, vp, vc, vd, vda, vf, vt, o, by simp, by first | rfl | (rw [hget_app0]; rfl), ⟨_, rfl, by first | rfl | (rw [hget_app]; rfl)⟩, fun J o0J oJ => ⟨⟨(h J o0J).x, (h J o0J).y, (h J o0J).ax, (h J o0J).ay, (h J o0J).sx, (h J o0J).sy, (h J o0J).turn, (h J o0J).opac, (h J o0J).remap, (h J o0J).mask⟩, ⟨(hs J o0J).w, (hs J o0J).h, (hs J o0J).paths, (hs J o0J).colors, (hs J o0J).width, (hs J o0J).dash, (hs J o0J).frm, (hs J o0J).to⟩⟩, ⟨(by have := hz.x; exact Nat.le_succ_of_le this), (by have := hz.y; exact Nat.le_succ_of_le this), (by have := hz.ax; exact Nat.le_succ_of_le this), (by have := hz.ay; exact Nat.le_succ_of_le this), (by have := hz.sx; exact Nat.le_succ_of_le this), (by have := hz.sy; exact Nat.le_succ_of_le this), (by have := hz.turn; exact Nat.le_succ_of_le this), (by have := hz.opac; exact Nat.le_succ_of_le this), (by have := hz.remap; exact Nat.le_succ_of_le this), (by have := hz.mask; exact Nat.le_succ_of_le this), (by have := hz.w; exact Nat.le_succ_of_le this), (by have := hz.h; exact Nat.le_succ_of_le this), (by have := hz.paths; exact Nat.le_succ_of_le this), (fun p hp => Nat.le_succ_of_le (hz.pts p hp)), (by have := hz.colors; exact Nat.le_succ_of_le this), (by have := hz.width; exact Nat.le_succ_of_le this), (by have := hz.dash; exact Nat.le_succ_of_le this), (by have := hz.frm; exact Nat.le_succ_of_le this), (by have := hz.to; exact Nat.le_succ_of_le this)⟩⟩
    · (refine sg (et t2 (et t3 (et t4 t5))) ?_; try exact ⟨⟩)
      refine (ka _).x ?_
      (refine sg (et t2 (et t3 (et t4 (et t5 (et wz1 (et wz2 (et kd kd0))))))) ?_; try exact ⟨⟩)
      exact ⟨{ l with shape := { l.shape with paint := ⟨z - 1, c400, c400, (0, 0), (0, 0), N⟩ } }, v0, v1, v2, v3, v4, v5, v6, v7, v8, pm, vw, vh, vp, vc, vd, vda, vf, vt, o, by simp, by first | rfl | (rw [hget_app0]; rfl), ⟨_, rfl, by first | rfl | (rw [hget_app]; rfl)⟩, fun J o0J oJ => ⟨⟨(h J o0J).x, (h J o0J).y, (h J o0J).ax, (h J o0J).ay, (h J o0J).sx, (h J o0J).sy, (h J o0J).turn, (h J o0J).opac, (h J o0J).remap, (h J o0J).mask⟩, ⟨(hs J o0J).w, (hs J o0J).h, (hs J o0J).paths, (hs J o0J).colors, (hs J o0J).width, (hs J o0J).dash, (hs J o0J).frm, (hs J o0J).to⟩⟩, ⟨(by have := hz.x; exact Nat.le_succ_of_le this), (by have := hz.y; exact Nat.le_succ_of_le this), (by have := hz.ax; exact Nat.le_succ_of_le this), (by have := hz.ay; exact Nat.le_succ_of_le this), (by have := hz.sx; exact Nat.le_succ_of_le this), (by have := hz.sy; exact Nat.le_succ_of_le this), (by have := hz.turn; exact Nat.le_succ_of_le this), (by have := hz.opac; exact Nat.le_succ_of_le this), (by have := hz.remap; exact Nat.le_succ_of_le this), (by have := hz.mask; exact Nat.le_succ_of_le this), (by have := hz.w; exact Nat.le_succ_of_le this), (by have := hz.h; exact Nat.le_succ_of_le this), (by have := hz.paths; exact Nat.le_succ_of_le this), (fun p hp => Nat.le_succ_of_le (hz.pts p hp)), (by have := hz.colors; exact Nat.le_succ_of_le this), (by have := hz.width; exact Nat.le_succ_of_le this), (by have := hz.dash; exact Nat.le_succ_of_le this), (by have := hz.frm; exact Nat.le_succ_of_le this), (by have := hz.to; exact Nat.le_succ_of_le this)⟩⟩
    · (refine sg (et t2 (et t3 (et t4 t5))) ?_; try exact ⟨⟩)
      refine (ka _).x ?_
      (refine sg (et t2 (et t3 (et t4 (et t5 (et wz1 (et wz2 (et kd kd0))))))) ?_; try exact ⟨⟩)
      exact ⟨{ l with shape := { l.shape with colors := [⟨N, c400, 0, ez00⟩, ⟨3, c400, 0, ez00⟩] } }, v0, v1, v2, v3, v4, v5, v6, v7, v8, pm, vw, vh, vp, sl (H.length + 3) 0 0 2 10, vd, vda, vf, vt, o, by simp, by first | rfl | (rw [hget_app0]; rfl), ⟨_, rfl, by first | rfl | (rw [hget_app]; rfl)⟩, fun J o0J oJ => ⟨⟨(h J o0J).x, (h J o0J).y, (h J o0J).ax, (h J o0J).ay, (h J o0J).sx, (h J o0J).sy, (h J o0J).turn, (h J o0J).opac, (h J o0J).remap, (h J o0J).mask⟩, ⟨(hs J o0J).w, (hs J o0J).h, (hs J o0J).paths, RowOf.two (c := ckC ⟨N, c400, 0, ez00⟩) (c' := ckC ⟨3, c400, 0, ez00⟩) (oJ _ _ (by omega) (by omega) (by first | rfl | (rw [hget_app]; rfl))) rfl rfl rfl rfl, (hs J o0J).width, (hs J o0J).dash, (hs J o0J).frm, (hs J o0J).to⟩⟩, ⟨(by have := hz.x; exact Nat.le_succ_of_le this), (by have := hz.y; exact Nat.le_succ_of_le this), (by have := hz.ax; exact Nat.le_succ_of_le this), (by have := hz.ay; exact Nat.le_succ_of_le this), (by have := hz.sx; exact Nat.le_succ_of_le this), (by have := hz.sy; exact Nat.le_succ_of_le this), (by have := hz.turn; exact Nat.le_succ_of_le this), (by have := hz.opac; exact Nat.le_succ_of_le this), (by have := hz.remap; exact Nat.le_succ_of_le this), (by have := hz.mask; exact Nat.le_succ_of_le this), (by have := hz.w; exact Nat.le_succ_of_le this), (by have := hz.h; exact Nat.le_succ_of_le this), (by have := hz.paths; exact Nat.le_succ_of_le this), (fun p hp => Nat.le_succ_of_le (hz.pts p hp)), (by show [_, _].length ≤ n + 1; simp; omega), (by have := hz.width; exact Nat.le_succ_of_le this), (by have := hz.dash; exact Nat.le_succ_of_le this), (by have := hz.frm; exact Nat.le_succ_of_le this), (by have := hz.to; exact Nat.le_succ_of_le this)⟩⟩
    · (refine sg (et t2 (et t3 (et t4 t5))) ?_; try exact ⟨⟩)
      refine (ka _).x ?_
      (refine sg (et t2 (et t3 (et t4 (et t5 (et wz1 (et wz2 (et kd kd0))))))) ?_; try exact ⟨⟩)
      exact ⟨{ l with shape := { l.shape with cap := z } }, v0, v1, v2, v3, v4, v5, v6, v7, v8, pm, vw, vh, vp, vc, vd, vda, vf, vt, o, by simp, by first | rfl | (rw [hget_app0]; rfl), ⟨_, rfl, by first | rfl | (rw [hget_app]; rfl)⟩, fun J o0J oJ => ⟨⟨(h J o0J).x, (h J o0J).y, (h J o0J).ax, (h J o0J).ay, (h J o0J).sx, (h J o0J).sy, (h J o0J).turn, (h J o0J).opac, (h J o0J).remap, (h J o0J).mask⟩, ⟨(hs J o0J).w, (hs J o0J).h, (hs J o0J).paths, (hs J o0J).colors, (hs J o0J).width, (hs J o0J).dash, (hs J o0J).frm, (hs J o0J).to⟩⟩, ⟨(by have := hz.x; exact Nat.le_succ_of_le this), (by have := hz.y; exact Nat.le_succ_of_le this), (by have := hz.ax; exact Nat.le_succ_of_le this), (by have := hz.ay; exact Nat.le_succ_of_le this), (by have := hz.sx; exact Nat.le_succ_of_le this), (by have := hz.sy; exact Nat.le_succ_of_le this), (by have := hz.turn; exact Nat.le_succ_of_le this), (by have := hz.opac; exact Nat.le_succ_of_le this), (by have := hz.remap; exact Nat.le_succ_of_le this), (by have := hz.mask; exact Nat.le_succ_of_le this), (by have := hz.w; exact Nat.le_succ_of_le this), (by have := hz.h; exact Nat.le_succ_of_le this), (by have := hz.paths; exact Nat.le_succ_of_le this), (fun p hp => Nat.le_succ_of_le (hz.pts p hp)), (by have := hz.colors; exact Nat.le_succ_of_le this), (by have := hz.width; exact Nat.le_succ_of_le this), (by have := hz.dash; exact Nat.le_succ_of_le this), (by have := hz.frm; exact Nat.le_succ_of_le this), (by have := hz.to; exact Nat.le_succ_of_le this)⟩⟩
    · (refine sg (et t2 (et t3 (et t4 t5))) ?_; try exact ⟨⟩)
      refine (ka _).x ?_
      (refine sg (et t2 (et t3 (et t4 (et t5 (et wz1 (et wz2 (et kd kd0))))))) ?_; try exact ⟨⟩)
      exact ⟨{ l with shape := { l.shape with dash := [N] } }, v0, v1, v2, v3, v4, v5, v6, v7, v8, pm, vw, vh, vp, vc, vd, sl (H.length + 3) 0 0 1 1, vf, vt, o, by simp, by first | rfl | (rw [hget_app0]; rfl), ⟨_, rfl, by first | rfl | (rw [hget_app]; rfl)⟩, fun J o0J oJ => ⟨⟨(h J o0J).x, (h J o0J).y, (h J o0J).ax, (h J o0J).ay, (h J o0J).sx, (h J o0J).sy, (h J o0J).turn, (h J o0J).opac, (h J o0J).remap, (h J o0J).mask⟩, ⟨(hs J o0J).w, (hs J o0J).h, (hs J o0J).paths, (hs J o0J).colors, (hs J o0J).width, RowOf.one (oJ _ _ (by omega) (by omega) (by first | rfl | (rw [hget_app]; rfl))) rfl rfl, (hs J o0J).frm, (hs J o0J).to⟩⟩, ⟨(by have := hz.x; exact Nat.le_succ_of_le this), (by have := hz.y; exact Nat.le_succ_of_le this), (by have := hz.ax; exact Nat.le_succ_of_le this), (by have := hz.ay; exact Nat.le_succ_of_le this), (by have := hz.sx; exact Nat.le_succ_of_le this), (by have := hz.sy; exact Nat.le_succ_of_le this), (by have := hz.turn; exact Nat.le_succ_of_le this), (by have := hz.opac; exact Nat.le_succ_of_le this), (by have := hz.remap; exact Nat.le_succ_of_le this), (by have := hz.mask; exact Nat.le_succ_of_le this), (by have := hz.w; exact Nat.le_succ_of_le this), (by have := hz.h; exact Nat.le_succ_of_le this), (by have := hz.paths; exact Nat.le_succ_of_le this), (fun p hp => Nat.le_succ_of_le (hz.pts p hp)), (by have := hz.colors; exact Nat.le_succ_of_le this), (by have := hz.width; exact Nat.le_succ_of_le this), (by show [_].length ≤ n + 1; simp), (by have := hz.frm; exact Nat.le_succ_of_le this), (by have := hz.to; exact Nat.le_succ_of_le this)⟩⟩
    · (refine sg (et t2 (et t3 (et t4 t5))) ?_; try exact ⟨⟩)
      refine (ka _).x ?_
      (refine sg (et t2 (et t3 (et t4 (et t5 (et wz1 (et wz2 (et kd kd0))))))) ?_; try exact ⟨⟩)
      exact ⟨{ l with x := [] }, .slice none 0 0, v1, v2, v3, v4, v5, v6, v7, v8, pm, vw, vh, vp, vc, vd, vda, vf, vt, o, by simp, by first | rfl | (rw [hget_app0]; rfl), ⟨_, rfl, by first | rfl | (rw [hget_app]; rfl)⟩, fun J o0J oJ => ⟨⟨RowOf.none, (h J o0J).y, (h J o0J).ax, (h J o0J).ay, (h J o0J).sx, (h J o0J).sy, (h J o0J).turn, (h J o0J).opac, (h J o0J).remap, (h J o0J).mask⟩, ⟨(hs J o0J).w, (hs J o0J).h, (hs J o0J).paths, (hs J o0J).colors, (hs J o0J).width, (hs J o0J).dash, (hs J o0J).frm, (hs J o0J).to⟩⟩, ⟨(by show [].length ≤ n + 1; simp), (by have := hz.y; exact Nat.le_succ_of_le this), (by have := hz.ax; exact Nat.le_succ_of_le this), (by have := hz.ay; exact Nat.le_succ_of_le this), (by have := hz.sx; exact Nat.le_succ_of_le this), (by have := hz.sy; exact Nat.le_succ_of_le this), (by have := hz.turn; exact Nat.le_succ_of_le this), (by have := hz.opac; exact Nat.le_succ_of_le this), (by have := hz.remap; exact Nat.le_succ_of_le this), (by have := hz.mask; exact Nat.le_succ_of_le this), (by have := hz.w; exact Nat.le_succ_of_le this), (by have := hz.h; exact Nat.le_succ_of_le this), (by have := hz.paths; exact Nat.le_succ_of_le this), (fun p hp => Nat.le_succ_of_le (hz.pts p hp)), (by have := hz.colors; exact Nat.le_succ_of_le this), (by have := hz.width; exact Nat.le_succ_of_le this), (by have := hz.dash; exact Nat.le_succ_of_le this), (by have := hz.frm; exact Nat.le_succ_of_le this), (by have := hz.to; exact Nat.le_succ_of_le this)⟩⟩
    · (refine sg (et t2 (et t3 (et t4 t5))) ?_; try exact ⟨⟩)
      refine (ka _).x ?_
      (refine sg (et t2 (et t3 (et t4 (et t5 (et wz1 (et wz2 (et kd kd0))))))) ?_; try exact ⟨⟩)
      exact ⟨{ l with shape := { l.shape with to := [⟨0, N, 2, ⟨N, 0, 0, 0⟩⟩] } }, v0, v1, v2, v3, v4, v5, v6, v7, v8, pm, vw, vh, vp, vc, vd, vda, vf, sl (H.length + 3) 0 0 1 7, o, by simp, by first | rfl | (rw [hget_app0]; rfl), ⟨_, rfl, by first | rfl | (rw [hget_app]; rfl)⟩, fun J o0J oJ => ⟨⟨(h J o0J).x, (h J o0J).y, (h J o0J).ax, (h J o0J).ay, (h J o0J).sx, (h J o0J).sy, (h J o0J).turn, (h J o0J).opac, (h J o0J).remap, (h J o0J).mask⟩, ⟨(hs J o0J).w, (hs J o0J).h, (hs J o0J).paths, (hs J o0J).colors, (hs J o0J).width, (hs J o0J).dash, (hs J o0J).frm, RowOf.one (oJ _ _ (by omega) (by omega) (by first | rfl | (rw [hget_app]; rfl))) rfl rfl⟩⟩, ⟨(by have := hz.x; exact Nat.le_succ_of_le this), (by have := hz.y; exact Nat.le_succ_of_le this), (by have := hz.ax; exact Nat.le_succ_of_le this), (by have := hz.ay; exact Nat.le_succ_of_le this), (by have := hz.sx; exact Nat.le_succ_of_le this), (by have := hz.sy; exact Nat.le_succ_of_le this), (by have := hz.turn; exact Nat.le_succ_of_le this), (by have := hz.opac; exact Nat.le_succ_of_le this), (by have := hz.remap; exact Nat.le_succ_of_le this), (by have := hz.mask; exact Nat.le_succ_of_le this), (by have := hz.w; exact Nat.le_succ_of_le this), (by have := hz.h; exact Nat.le_succ_of_le this), (by have := hz.paths; exact Nat.le_succ_of_le this), (fun p hp => Nat.le_succ_of_le (hz.pts p hp)), (by have := hz.colors; exact Nat.le_succ_of_le this), (by have := hz.width; exact Nat.le_succ_of_le this), (by have := hz.dash; exact Nat.le_succ_of_le this), (by have := hz.frm; exact Nat.le_succ_of_le this), (by show [_].length ≤ n + 1; simp)⟩⟩
    · (refine sg (et t2 (et t3 (et t4 t5))) ?_; try exact ⟨⟩)
      refine (ka _).x ?_
      (refine sg (et t2 (et t3 (et t4 (et t5 (et wz1 (et wz2 (et kd kd0))))))) ?_; try exact ⟨⟩)
      exact ⟨l, v0, v1, v2, v3, v4, v5, v6, v7, v8, pm, vw, vh, vp, vc, vd, vda, vf, vt, o, by simp, by first | rfl | (rw [hget_app0]; rfl), ⟨_, rfl, by first | rfl | (rw [hget_app]; rfl)⟩, fun J o0J oJ => ⟨⟨(h J o0J).x, (h J o0J).y, (h J o0J).ax, (h J o0J).ay, (h J o0J).sx, (h J o0J).sy, (h J o0J).turn, (h J o0J).opac, (h J o0J).remap, (h J o0J).mask⟩, ⟨(hs J o0J).w, (hs J o0J).h, (hs J o0J).paths, (hs J o0J).colors, (hs J o0J).width, (hs J o0J).dash, (hs J o0J).frm, (hs J o0J).to⟩⟩, ⟨(by have := hz.x; exact Nat.le_succ_of_le this), (by have := hz.y; exact Nat.le_succ_of_le this), (by have := hz.ax; exact Nat.le_succ_of_le this), (by have := hz.ay; exact Nat.le_succ_of_le this), (by have := hz.sx; exact Nat.le_succ_of_le this), (by have := hz.sy; exact Nat.le_succ_of_le this), (by have := hz.turn; exact Nat.le_succ_of_le this), (by have := hz.opac; exact Nat.le_succ_of_le this), (by have := hz.remap; exact Nat.le_succ_of_le this), (by have := hz.mask; exact Nat.le_succ_of_le this), (by have := hz.w; exact Nat.le_succ_of_le this), (by have := hz.h; exact Nat.le_succ_of_le this), (by have := hz.paths; exact Nat.le_succ_of_le this), (fun p hp => Nat.le_succ_of_le (hz.pts p hp)), (by have := hz.colors; exact Nat.le_succ_of_le this), (by have := hz.width; exact Nat.le_succ_of_le this), (by have := hz.dash; exact Nat.le_succ_of_le this), (by have := hz.frm; exact Nat.le_succ_of_le this), (by have := hz.to; exact Nat.le_succ_of_le this)⟩⟩
  rintro T K D ⟨rfl, t2, t4, l', u0, u1, u2, u3, u4, u5, u6, u7, u8, u9, u10, u11, u12, u13, u14, u15, u16, u17, o, hKl, k0, ⟨zc, hzc, hzk⟩, hl, hN⟩
  have hz1 : zc.drop 50 = [] := List.drop_eq_nil_of_le (by omega)
  have hz2 : 50 - zc.length = 0 := by omega
  have g9 : ∀ X, (K.set (H.length + 2) X)[H.length + 2]? = some X := fun X => List.getElem?_set_self (by omega)
  have kd2 : decide (H.length + 2 < H.length) = false := df (by omega)
  (refine sg (et t2 (et t4 (et k0 (et hzk (et hz1 (et hz2 (et g9 kd2))))))) ?_; try exact ⟨⟩)
  refine ⟨l', _, rfl, fun J o0J hJ => ?_, rfl, hN⟩
  obtain ⟨h1, h2⟩ := hl J o0J fun c k h1 h2 e => hJ c k h1 (by rw [List.getElem?_set_ne (by omega)]; exact e)
  exact ⟨_, _, _, _, _, _, _, _, _, _, _, _, _, _, _, _, _, _, rfl, h1, h2⟩
end Go.Proofs.YtnebnbdeobcegaaGreat
