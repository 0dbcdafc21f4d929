/- Merged texts: Roe Data Spec Ring Spec2 Doc1 Doc2 Doc3. -/
import Derived.Test.YtnebnbdeobcegaaGreatZ6
/- Rows in blocks, of anything; rows that are being made. -/
namespace Go.Proofs.YtnebnbdeobcegaaGreat
open Go Go.RowKit E
set_option linter.unusedSimpArgs false
set_option linter.unusedVariables false
/-- A row of things, each of s cells. -/
def RowOf {α : Type} (s : Nat) (E : AH → List Value → α → Prop) (K : AH) (v : Value) (l : List α) : Prop :=
  (l = [] ∧ ((∃ e, v = .slice (some ⟨0, 0, none⟩) 0 e) ∨ v = .slice none 0 0)) ∨
  ∃ b g rest rw_, ∃ cs : List (List Value), v = sl b 0 g l.length s ∧ K[b]? = some ⟨cs.flatten ++ rest, g, rw_⟩ ∧ cs.length = l.length ∧ l.length ≤ 9223372036854775807 ∧
    ∀ (i : Nat) x, l[i]? = some x → ∃ c, cs[i]? = some c ∧ c.length = s ∧ E K c x
/-- What holds of things in blocks, holds where these stand. -/
def Mono {α : Type} (E : AH → List Value → α → Prop) : Prop := ∀ K J c x, Old K J → E K c x → E J c x
theorem RowOf.old {α : Type} {s : Nat} {E : AH → List Value → α → Prop} {K J : AH} {v : Value} {l : List α} (h : RowOf s E K v l) (m : Mono E) (o : Old K J) : RowOf s E J v l := by
  rcases h with h | ⟨b, g, rest, rw_, cs, h1, h2, h3, h4, h5⟩
  · exact .inl h
  · exact .inr ⟨b, g, rest, rw_, cs, h1, o _ _ h2, h3, h4, fun i x hx => by obtain ⟨c, e1, e2, e3⟩ := h5 i x hx; exact ⟨c, e1, e2, m _ _ _ _ o e3⟩⟩
theorem RowOf.mono {α : Type} {s : Nat} {E : AH → List Value → α → Prop} (m : Mono E) : Mono (fun K (c : List Value) (l : List α) => ∃ v, c = [v] ∧ RowOf s E K v l) := fun K J c x o h => by
  obtain ⟨v, h1, h2⟩ := h; exact ⟨v, h1, h2.old m o⟩
theorem RowOf.form {α : Type} {s : Nat} {E : AH → List Value → α → Prop} {K : AH} {v : Value} {l : List α} (h : RowOf s E K v l) : ∃ a e, v = .slice a l.length e := by
  rcases h with ⟨rfl, ⟨e, rfl⟩ | rfl⟩ | ⟨b, g, rest, rw_, cs, rfl, _⟩
  · exact ⟨_, _, rfl⟩
  · exact ⟨_, _, rfl⟩
  · exact ⟨_, _, rfl⟩
theorem RowOf.len {α : Type} {s : Nat} {E : AH → List Value → α → Prop} {K : AH} {v : Value} {l : List α} (h : RowOf s E K v l) : l.length ≤ 9223372036854775807 := by
  rcases h with ⟨rfl, _⟩ | ⟨b, g, rest, rw_, cs, _, _, _, h, _⟩
  · simp
  · exact h
theorem flatten_len {s : Nat} : ∀ {cs : List (List Value)}, (∀ c ∈ cs, c.length = s) → cs.flatten.length = cs.length * s
  | [], _ => by simp
  | c :: cs, h => by
    rw [List.flatten_cons, List.length_append, flatten_len (fun d hd => h d (by simp [hd])), h c (by simp), List.length_cons, Nat.add_mul]; omega
theorem flatten_drop {s : Nat} : ∀ {cs : List (List Value)} {i : Nat} {c : List Value}, (∀ c ∈ cs, c.length = s) → cs[i]? = some c → cs.flatten.drop (i * s) = c ++ (cs.drop (i + 1)).flatten
  | [], i, c, _, hi => by simp at hi
  | d :: cs, 0, c, h, hi => by simp at hi; subst hi; simp
  | d :: cs, i + 1, c, h, hi => by
    have := flatten_drop (s := s) (cs := cs) (i := i) (fun d hd => h d (by simp [hd])) (by simpa using hi)
    have hd := h d (by simp)
    rw [List.flatten_cons, Nat.add_mul, Nat.one_mul, Nat.add_comm, ← List.drop_drop, ← hd, List.drop_left, hd, this]; rfl
theorem RowOf.all {s : Nat} {α : Type} {P : List Value → α → Prop} {cs : List (List Value)} {l : List α} (hl : cs.length = l.length) (h : ∀ (i : Nat) x, l[i]? = some x → ∃ c, cs[i]? = some c ∧ c.length = s ∧ P c x) : ∀ c ∈ cs, c.length = s := fun c hc => by
  obtain ⟨i, hi⟩ := List.getElem?_of_mem hc
  have hil : i < l.length := by have := (List.getElem?_eq_some_iff.1 hi).1; omega
  obtain ⟨c', e1, e2, _⟩ := h i l[i] (List.getElem?_eq_getElem hil)
  rw [hi] at e1; cases e1; exact e2
/-- One of a row: its block, its cells, how it is read. -/
theorem RowOf.at {α : Type} {s : Nat} {E : AH → List Value → α → Prop} {K : AH} {v : Value} {l : List α} (h : RowOf s E K v l) {i : Nat} {x : α} (hx : l[i]? = some x) :
    ∃ b g cells rw_ c, v = sl b 0 g l.length s ∧ K[b]? = some ⟨cells, g, rw_⟩ ∧ E K c x ∧ c.length = s ∧ l.length * s ≤ cells.length ∧ (∀ b', ald (some true) (some s) (some ⟨cells, g, rw_⟩) b' (i * s) g = some (.agg c.toArray, b')) ∧ ∀ j, j < s → cells[i * s + j]? = c[j]? := by
  have hi := (List.getElem?_eq_some_iff.1 hx).1
  rcases h with ⟨rfl, _⟩ | ⟨b, g, rest, rw_, cs, h1, h2, h3, h4, h5⟩
  · simp at hx
  · obtain ⟨c, e1, e2, e3⟩ := h5 i x hx
    have hall := RowOf.all h3 h5
    have hfl := flatten_len hall
    have hdr := flatten_drop hall e1
    have hb : i * s + s ≤ cs.flatten.length := by
      rw [hfl, h3]
      have : (i + 1) * s ≤ l.length * s := Nat.mul_le_mul_right s hi
      rw [Nat.add_mul, Nat.one_mul] at this; exact this
    refine ⟨b, g, _, rw_, c, h1, h2, e3, e2, by rw [List.length_append, hfl, h3]; omega, fun b' => ?_, fun j hj => ?_⟩
    · have : i * s + s ≤ (cs.flatten ++ rest).length := by rw [List.length_append]; omega
      simp only [ald, true_and, this, if_true]
      rw [List.drop_append_of_le_length (by omega), hdr, List.append_assoc, ← e2, List.take_left]
    · rw [List.getElem?_append_left (by omega), ← List.getElem?_drop, hdr, List.getElem?_append_left (by omega)]
/-- What hangs on blocks from n0 on alone. -/
def Dep (n0 : Nat) (K : AH) (Φ : AH → Prop) : Prop := ∀ J, (∀ (c : Nat) (k : Blk), n0 ≤ c → K[c]? = some k → J[c]? = some k) → Φ J
/-- And not on block b. -/
def Dex (n0 b : Nat) (K : AH) (Φ : AH → Prop) : Prop := ∀ J, (∀ (c : Nat) (k : Blk), n0 ≤ c → c ≠ b → K[c]? = some k → J[c]? = some k) → Φ J
theorem Dep.here {n0 : Nat} {K : AH} {Φ : AH → Prop} (h : Dep n0 K Φ) : Φ K := h K fun _ _ _ e => e
theorem Dep.old {n0 : Nat} {K J : AH} {Φ : AH → Prop} (h : Dep n0 K Φ) (o : Old K J) : Dep n0 J Φ := fun J' h' => h J' fun c k hc e => h' c k hc (o c k e)
theorem Dep.low {n0 n1 : Nat} {K : AH} {Φ : AH → Prop} (h : Dep n0 K Φ) (hn : n1 ≤ n0) : Dep n1 K Φ := fun J h' => h J fun c k hc e => h' c k (by omega) e
theorem Dep.olx {n0 b : Nat} {K J : AH} {Φ : AH → Prop} (h : Dep n0 K Φ) (o : Olx b K J) (hb : b < n0) : Dep n0 J Φ := fun J' h' => h J' fun c k hc e => h' c k hc (o c k (by omega) e)
theorem Dep.map {n0 : Nat} {K : AH} {Φ Ψ : AH → Prop} (h : Dep n0 K Φ) (m : ∀ J, Φ J → Ψ J) : Dep n0 K Ψ := fun J h' => m J (h J h')
theorem Dep.and {n0 : Nat} {K : AH} {Φ Ψ : AH → Prop} (h : Dep n0 K Φ) (h' : Dep n0 K Ψ) : Dep n0 K (fun J => Φ J ∧ Ψ J) := fun J k => ⟨h J k, h' J k⟩
theorem Dep.pure {n0 : Nat} {K : AH} {p : Prop} (h : p) : Dep n0 K (fun _ => p) := fun _ _ => h
theorem Dex.olx {n0 b : Nat} {K J : AH} {Φ : AH → Prop} (h : Dex n0 b K Φ) (o : Olx b K J) : Dex n0 b J Φ := fun J' h' => h J' fun c k hc hb e => h' c k hc hb (o c k hb e)
theorem Dex.olt {n0 b t : Nat} {K J : AH} {Φ : AH → Prop} (h : Dex n0 b K Φ) (o : Olx t K J) (ht : t < n0) : Dex n0 b J Φ := fun J' h' => h J' fun c k hc hb e => h' c k hc hb (o c k (by omega) e)
theorem Dex.dep {n0 b : Nat} {K : AH} {Φ : AH → Prop} (h : Dex n0 b K Φ) : Dep n0 K Φ := fun J h' => h J fun c k hc _ e => h' c k hc e
theorem Dep.dex {n0 n1 b : Nat} {K : AH} {Φ : AH → Prop} (h : Dep n1 K Φ) (hn : n0 ≤ n1) (hb : b < n1 ∨ K.length ≤ b) : Dex n0 b K Φ := fun J h' => h J fun c k hc e => h' c k (by omega) (by have := (List.getElem?_eq_some_iff.1 e).1; omega) e
/-- A row that is being made, in a block from n0 on. -/
def MkRow {α : Type} (s : Nat) (E : AH → List Value → α → Prop) (n0 : Nat) (K : AH) (v : Value) (l : List α) : Prop :=
  (l = [] ∧ v = .slice none 0 0) ∨
  ∃ b g, ∃ cs : List (List Value), n0 ≤ b ∧ v = sl b 0 g l.length s ∧ K[b]? = some ⟨cs.flatten, g, true⟩ ∧ cs.length = l.length ∧
    ∀ (i : Nat) x, l[i]? = some x → ∃ c, cs[i]? = some c ∧ c.length = s ∧ Dex n0 b K (fun J => E J c x)
theorem MkRow.dep {α : Type} {s : Nat} {E : AH → List Value → α → Prop} {n0 : Nat} {K : AH} {v : Value} {l : List α} (h : MkRow s E n0 K v l) (hl : l.length ≤ 9223372036854775807) : Dep n0 K (fun J => RowOf s E J v l) := by
  rcases h with ⟨rfl, rfl⟩ | ⟨b, g, cs, h0, h1, h2, h3, h4⟩
  · exact fun J _ => .inl ⟨rfl, .inr rfl⟩
  · exact fun J hJ => .inr ⟨b, g, [], true, cs, h1, by rw [List.append_nil]; exact hJ _ _ h0 h2, h3, hl, fun i x hx => by obtain ⟨c, e1, e2, e3⟩ := h4 i x hx; exact ⟨c, e1, e2, e3.dep J hJ⟩⟩
theorem MkRow.low {α : Type} {s : Nat} {E : AH → List Value → α → Prop} {n0 n1 : Nat} {K : AH} {v : Value} {l : List α} (h : MkRow s E n0 K v l) (hn : n1 ≤ n0) : MkRow s E n1 K v l := by
  rcases h with h | ⟨b, g, cs, h0, h1, h2, h3, h4⟩
  · exact .inl h
  · exact .inr ⟨b, g, cs, by omega, h1, h2, h3, fun i x hx => by obtain ⟨c, e1, e2, e3⟩ := h4 i x hx; exact ⟨c, e1, e2, fun J hJ => e3 J fun c k hc hb e => hJ c k (by omega) hb e⟩⟩
theorem MkRow.old {α : Type} {s : Nat} {E : AH → List Value → α → Prop} {n0 : Nat} {K J : AH} {v : Value} {l : List α} (h : MkRow s E n0 K v l) (o : Old K J) : MkRow s E n0 J v l := by
  rcases h with h | ⟨b, g, cs, h0, h1, h2, h3, h4⟩
  · exact .inl h
  · exact .inr ⟨b, g, cs, h0, h1, o _ _ h2, h3, fun i x hx => by obtain ⟨c, e1, e2, e3⟩ := h4 i x hx; exact ⟨c, e1, e2, e3.olx (Olx.old o)⟩⟩
theorem MkRow.olt {α : Type} {s : Nat} {E : AH → List Value → α → Prop} {n0 t : Nat} {K J : AH} {v : Value} {l : List α} (h : MkRow s E n0 K v l) (o : Olx t K J) (ht : t < n0) : MkRow s E n0 J v l := by
  rcases h with h | ⟨b, g, cs, h0, h1, h2, h3, h4⟩
  · exact .inl h
  · exact .inr ⟨b, g, cs, h0, h1, o _ _ (by omega) h2, h3, fun i x hx => by obtain ⟨c, e1, e2, e3⟩ := h4 i x hx; exact ⟨c, e1, e2, e3.olt o ht⟩⟩
theorem MkRow.form {α : Type} {s : Nat} {E : AH → List Value → α → Prop} {n0 : Nat} {K : AH} {v : Value} {l : List α} (h : MkRow s E n0 K v l) : ∃ a e, v = .slice a l.length e := by
  rcases h with ⟨rfl, rfl⟩ | ⟨b, g, cs, _, rfl, _⟩
  · exact ⟨_, _, rfl⟩
  · exact ⟨_, _, rfl⟩
/-- The first of a row that is being made. -/
theorem MkRow.first {α : Type} {s : Nat} {E : AH → List Value → α → Prop} {n0 : Nat} {J : AH} {x : α} {c : List Value} {b g : Nat} (hc : Dex n0 b J (fun J => E J c x)) (hl : c.length = s) (hb : J[b]? = some ⟨c, g, true⟩) (hn : n0 ≤ b) : MkRow s E n0 J (sl b 0 g 1 s) [x] :=
  .inr ⟨b, g, [c], hn, rfl, by simpa using hb, rfl, fun i y hy => by
    cases i with
    | zero => simp at hy; subst hy; exact ⟨c, rfl, hl, hc⟩
    | succ i => simp at hy⟩
/-- One more of a row that is being made. -/
theorem MkRow.next {α : Type} {s : Nat} {E : AH → List Value → α → Prop} {n0 : Nat} {K J : AH} {l : List α} {x : α} {c : List Value} {b g' : Nat} {cs : List (List Value)} (h0 : n0 ≤ b) (h3 : cs.length = l.length)
    (h4 : ∀ (i : Nat) x, l[i]? = some x → ∃ c, cs[i]? = some c ∧ c.length = s ∧ Dex n0 b K (fun J => E J c x)) (o : Olx b K J) (hc : Dex n0 b J (fun J => E J c x)) (hl : c.length = s) (hb : J[b]? = some ⟨cs.flatten ++ c, g', true⟩) : MkRow s E n0 J (sl b 0 g' (l.length + 1) s) (l ++ [x]) :=
  .inr ⟨b, g', cs ++ [c], h0, by rw [List.length_append]; rfl, by rw [List.flatten_append, List.flatten_singleton]; exact hb, by rw [List.length_append, List.length_append, h3]; rfl, fun i y hy => by
    by_cases hi : i < l.length
    · rw [List.getElem?_append_left hi] at hy
      rw [List.getElem?_append_left (by omega)]
      obtain ⟨d, e1, e2, e3⟩ := h4 i y hy
      exact ⟨d, e1, e2, e3.olx o⟩
    · rw [List.getElem?_append_right (by omega)] at hy
      rw [List.getElem?_append_right (by omega), h3]
      have : i - l.length = 0 := by have := (List.getElem?_eq_some_iff.1 hy).1; simp at this; omega
      rw [this] at hy ⊢
      simp at hy; subst hy
      exact ⟨c, rfl, hl, hc⟩⟩
theorem RowOf.none {α : Type} {s : Nat} {E : AH → List Value → α → Prop} {K : AH} : RowOf s E K (.slice none 0 0) [] := .inl ⟨rfl, .inr rfl⟩
end Go.Proofs.YtnebnbdeobcegaaGreat
/- Documents as plain data. -/
namespace Go.Proofs.YtnebnbdeobcegaaGreat
open Go Go.RowKit E
set_option linter.unusedSimpArgs false
set_option linter.unusedVariables false
structure Ez where
  x1 : Int
  y1 : Int
  x2 : Int
  y2 : Int
structure Ky where
  t : Int
  v : Int
  how : Int
  e : Ez
structure Pk where
  t : Int
  p : PL
  how : Int
  e : Ez
structure C4 where
  r : Int
  g : Int
  b : Int
  a : Int
structure Ck where
  t : Int
  c : C4
  how : Int
  e : Ez
structure Pnt where
  kind : Int
  a : C4
  b : C4
  p : Pt
  q : Pt
  r : Int
structure Sh where
  form : Int
  n : Int
  w : List Ky
  h : List Ky
  paths : List Pk
  fill : Bool
  rule : Int
  paint : Pnt
  colors : List Ck
  stroke : Bool
  width : List Ky
  line : C4
  cap : Int
  dash : List Int
  frm : List Ky
  to : List Ky
structure Ly where
  kind : Int
  parent : Int
  comp : Int
  matte : Int
  in_ : Int
  out : Int
  start : Int
  x : List Ky
  y : List Ky
  ax : List Ky
  ay : List Ky
  sx : List Ky
  sy : List Ky
  turn : List Ky
  opac : List Ky
  remap : List Ky
  mask : PL
  shape : Sh
structure Dc where
  in_ : Int
  out : Int
  comps : List (List Ly)
abbrev ezC (e : Ez) : List Value := [.int .i64 e.x1, .int .i64 e.y1, .int .i64 e.x2, .int .i64 e.y2]
abbrev c4C (c : C4) : List Value := [.int .u8 c.r, .int .u8 c.g, .int .u8 c.b, .int .u8 c.a]
abbrev kyC (k : Ky) : List Value := [.int .i64 k.t, .int .i64 k.v, .int .i64 k.how, .int .i64 k.e.x1, .int .i64 k.e.y1, .int .i64 k.e.x2, .int .i64 k.e.y2]
abbrev ckC (k : Ck) : List Value := [.int .i64 k.t, .int .u8 k.c.r, .int .u8 k.c.g, .int .u8 k.c.b, .int .u8 k.c.a, .int .i64 k.how, .int .i64 k.e.x1, .int .i64 k.e.y1, .int .i64 k.e.x2, .int .i64 k.e.y2]
abbrev pntC (p : Pnt) : List Value := [.int .i64 p.kind, .int .u8 p.a.r, .int .u8 p.a.g, .int .u8 p.a.b, .int .u8 p.a.a, .int .u8 p.b.r, .int .u8 p.b.g, .int .u8 p.b.b, .int .u8 p.b.a, .int .i64 p.p.1, .int .i64 p.p.2, .int .i64 p.q.1, .int .i64 p.q.2, .int .i64 p.r]
def KyE (_ : AH) (c : List Value) (k : Ky) : Prop := c = kyC k
def CkE (_ : AH) (c : List Value) (k : Ck) : Prop := c = ckC k
def InE (_ : AH) (c : List Value) (k : Int) : Prop := c = [.int .i64 k]
def PkE (K : AH) (c : List Value) (k : Pk) : Prop := ∃ pv, c = [.int .i64 k.t, .bool k.p.1, pv, .int .i64 k.how, .int .i64 k.e.x1, .int .i64 k.e.y1, .int .i64 k.e.x2, .int .i64 k.e.y2] ∧ Pts K pv k.p.2
abbrev Kys (K : AH) (v : Value) (l : List Ky) : Prop := RowOf 7 KyE K v l
abbrev Cks (K : AH) (v : Value) (l : List Ck) : Prop := RowOf 10 CkE K v l
abbrev Ins (K : AH) (v : Value) (l : List Int) : Prop := RowOf 1 InE K v l
abbrev Pks (K : AH) (v : Value) (l : List Pk) : Prop := RowOf 8 PkE K v l
theorem KyE.m : Mono KyE := fun _ _ _ _ _ h => h
theorem CkE.m : Mono CkE := fun _ _ _ _ _ h => h
theorem InE.m : Mono InE := fun _ _ _ _ _ h => h
theorem PkE.m : Mono PkE := fun _ _ _ _ o ⟨pv, h1, h2⟩ => ⟨pv, h1, h2.old o⟩
/-- A shape's cells. -/
abbrev shC (s : Sh) (vw vh vp vc vd vda vf vt : Value) : List Value :=
  [.int .i64 s.form, .int .i64 s.n, vw, vh, vp, .bool s.fill, .int .i64 s.rule, .int .i64 s.paint.kind, .int .u8 s.paint.a.r, .int .u8 s.paint.a.g, .int .u8 s.paint.a.b, .int .u8 s.paint.a.a, .int .u8 s.paint.b.r, .int .u8 s.paint.b.g, .int .u8 s.paint.b.b, .int .u8 s.paint.b.a,
    .int .i64 s.paint.p.1, .int .i64 s.paint.p.2, .int .i64 s.paint.q.1, .int .i64 s.paint.q.2, .int .i64 s.paint.r, vc, .bool s.stroke, vd, .int .u8 s.line.r, .int .u8 s.line.g, .int .u8 s.line.b, .int .u8 s.line.a, .int .i64 s.cap, vda, vf, vt]
/-- A shape's rows. -/
structure ShV (K : AH) (s : Sh) (vw vh vp vc vd vda vf vt : Value) : Prop where
  w : Kys K vw s.w
  h : Kys K vh s.h
  paths : Pks K vp s.paths
  colors : Cks K vc s.colors
  width : Kys K vd s.width
  dash : Ins K vda s.dash
  frm : Kys K vf s.frm
  to : Kys K vt s.to
theorem ShV.old {K J : AH} {s : Sh} {a b c d e f g h : Value} (k : ShV K s a b c d e f g h) (o : Old K J) : ShV J s a b c d e f g h :=
  ⟨k.w.old KyE.m o, k.h.old KyE.m o, k.paths.old PkE.m o, k.colors.old CkE.m o, k.width.old KyE.m o, k.dash.old InE.m o, k.frm.old KyE.m o, k.to.old KyE.m o⟩
/-- A layer's cells. -/
abbrev lyC (l : Ly) (v0 v1 v2 v3 v4 v5 v6 v7 v8 pm : Value) (sh : List Value) : List Value :=
  .int .i64 l.kind :: .int .i64 l.parent :: .int .i64 l.comp :: .int .i64 l.matte :: .int .i64 l.in_ :: .int .i64 l.out :: .int .i64 l.start :: v0 :: v1 :: v2 :: v3 :: v4 :: v5 :: v6 :: v7 :: v8 :: .bool l.mask.1 :: pm :: sh
/-- A layer's rows. -/
structure LyV (K : AH) (l : Ly) (v0 v1 v2 v3 v4 v5 v6 v7 v8 pm : Value) : Prop where
  x : Kys K v0 l.x
  y : Kys K v1 l.y
  ax : Kys K v2 l.ax
  ay : Kys K v3 l.ay
  sx : Kys K v4 l.sx
  sy : Kys K v5 l.sy
  turn : Kys K v6 l.turn
  opac : Kys K v7 l.opac
  remap : Kys K v8 l.remap
  mask : Pts K pm l.mask.2
theorem LyV.old {K J : AH} {l : Ly} {a b c d e f g h i j : Value} (k : LyV K l a b c d e f g h i j) (o : Old K J) : LyV J l a b c d e f g h i j :=
  ⟨k.x.old KyE.m o, k.y.old KyE.m o, k.ax.old KyE.m o, k.ay.old KyE.m o, k.sx.old KyE.m o, k.sy.old KyE.m o, k.turn.old KyE.m o, k.opac.old KyE.m o, k.remap.old KyE.m o, k.mask.old o⟩
def LyE (K : AH) (c : List Value) (l : Ly) : Prop := ∃ v0 v1 v2 v3 v4 v5 v6 v7 v8 pm vw vh vp vc vd vda vf vt, c = lyC l v0 v1 v2 v3 v4 v5 v6 v7 v8 pm (shC l.shape vw vh vp vc vd vda vf vt) ∧ LyV K l v0 v1 v2 v3 v4 v5 v6 v7 v8 pm ∧ ShV K l.shape vw vh vp vc vd vda vf vt
theorem LyE.m : Mono LyE := fun _ _ _ _ o ⟨v0, v1, v2, v3, v4, v5, v6, v7, v8, pm, vw, vh, vp, vc, vd, vda, vf, vt, h1, h2, h3⟩ => ⟨v0, v1, v2, v3, v4, v5, v6, v7, v8, pm, vw, vh, vp, vc, vd, vda, vf, vt, h1, h2.old o, h3.old o⟩
abbrev Lys (K : AH) (v : Value) (l : List Ly) : Prop := RowOf 50 LyE K v l
def CoE (K : AH) (c : List Value) (l : List Ly) : Prop := ∃ v, c = [v] ∧ Lys K v l
theorem CoE.m : Mono CoE := RowOf.mono LyE.m
abbrev Cos (K : AH) (v : Value) (l : List (List Ly)) : Prop := RowOf 1 CoE K v l
abbrev dcV (d : Dc) (v : Value) : Value := .agg [.int .i64 d.in_, .int .i64 d.out, v].toArray
end Go.Proofs.YtnebnbdeobcegaaGreat
/- Documents: what may be, in plain words. -/
namespace Go.Proofs.YtnebnbdeobcegaaGreat
open Go Go.RowKit E
set_option linter.unusedSimpArgs false
set_option linter.unusedVariables false
def tickB (t : Int) : Bool := decide (-1073741824 ≤ t) && decide (t ≤ 1073741824)
def easeB (e : Ez) : Bool := (decide (0 ≤ e.x1) && decide (e.x1 ≤ 65536)) && (decide (0 ≤ e.x2) && decide (e.x2 ≤ 65536)) && (decide (-131072 ≤ e.y1) && decide (e.y1 ≤ 196608)) && (decide (-131072 ≤ e.y2) && decide (e.y2 ≤ 196608))
def ez0 (e : Ez) : Bool := (e.x1 == 0) && ((e.y1 == 0) && ((e.x2 == 0) && (e.y2 == 0)))
def howB (how : Int) (e : Ez) : Bool := if how = 2 then easeB e else ((how == 0) || (how == 1)) && ez0 e
def movesB (t how : Int) (e : Ez) : Bool := tickB t && howB how e
def kstB (f : Bool) (a t how : Int) (e : Ez) : Bool := tickB t && (f || decide (a < t)) && howB how e
def keysGo : Bool → Int → List Ky → Bool
  | _, _, [] => true
  | f, a, k :: l => kstB f a k.t k.how k.e && nearB k.v && keysGo false k.t l
def keysB (l : List Ky) : Bool := keysGo true 0 l && decide ((l.length : Int) ≤ 32)
def cksGo : Bool → Int → List Ck → Bool
  | _, _, [] => true
  | f, a, k :: l => kstB f a k.t k.how k.e && cksGo false k.t l
def cksB (l : List Ck) : Bool := cksGo true 0 l && decide ((l.length : Int) ≤ 32)
def fitsB (a b : PL) : Bool := decide ((a.2.length : Int) = b.2.length) && (a.1 == b.1)
def pksGo (z : PL) : Bool → Int → List Pk → Bool
  | _, _, [] => true
  | f, a, k :: l => kstB f a k.t k.how k.e && !(decide ((k.p.2.length : Int) = 0)) && rightB k.p.1 k.p.2 && fitsB k.p z && pksGo z false k.t l
def pksB (l : List Pk) : Bool := pksGo ((l[0]?).elim (false, []) (·.p)) true 0 l && decide ((l.length : Int) ≤ 32)
def paintB (p : Pnt) : Bool := decide (0 ≤ p.kind) && decide (p.kind ≤ 2) && nearB p.p.1 && nearB p.p.2 && nearB p.q.1 && nearB p.q.2 && nearB p.r
def dashB (l : List Int) : Bool := decide ((l.length : Int) ≤ 8) && l.all fun n => decide (65536 ≤ n) && decide (n ≤ 67108864)
def formB (s : Sh) : Bool :=
  if s.form < 0 ∨ 3 < s.form then false
  else if (s.form = 2 ∧ (s.n < 2 ∨ 16 < s.n)) ∨ (¬ s.form = 2 ∧ ¬ s.n = 0) then false
  else if s.form = 3 then decide ((s.w.length : Int) = 0) && decide ((s.h.length : Int) = 0) && pksB s.paths
  else decide ((s.paths.length : Int) = 0) && keysB s.w && keysB s.h
def shapeB (s : Sh) : Bool := formB s && ((s.rule == 0) || (s.rule == 1)) && paintB s.paint && cksB s.colors && keysB s.width && keysB s.frm && keysB s.to && ((s.cap == 0) || (s.cap == 1)) && dashB s.dash
/-- Rows of which each is as the other's. -/
def eqG {α : Type} (q : α → α → Bool) : List α → List α → Bool
  | [], [] => true
  | x :: s, y :: t => q x y && eqG q s t
  | _, _ => false
def ezQ (x y : Ez) : Bool := (x.x1 == y.x1) && ((x.y1 == y.y1) && ((x.x2 == y.x2) && (x.y2 == y.y2)))
def kyQ (x y : Ky) : Bool := (x.t == y.t) && ((x.v == y.v) && ((x.how == y.how) && ((x.e.x1 == y.e.x1) && ((x.e.y1 == y.e.y1) && ((x.e.x2 == y.e.x2) && (x.e.y2 == y.e.y2))))))
def ckQ (x y : Ck) : Bool := (x.t == y.t) && ((x.c.r == y.c.r) && ((x.c.g == y.c.g) && ((x.c.b == y.c.b) && ((x.c.a == y.c.a) && ((x.how == y.how) && ((x.e.x1 == y.e.x1) && ((x.e.y1 == y.e.y1) && ((x.e.x2 == y.e.x2) && (x.e.y2 == y.e.y2)))))))))
def ptQ (x y : Pt) : Bool := (x.1 == y.1) && (x.2 == y.2)
def inQ (x y : Int) : Bool := x == y
def plQ (p q : PL) : Bool := (p.1 == q.1) && eqG ptQ p.2 q.2
def pkQ (x y : Pk) : Bool := (x.t == y.t) && (x.how == y.how) && ezQ x.e y.e && plQ x.p y.p
def c4Q (x y : C4) : Bool := (x.r == y.r) && ((x.g == y.g) && ((x.b == y.b) && (x.a == y.a)))
def pntQ (x y : Pnt) : Bool := (x.kind == y.kind) && ((x.a.r == y.a.r) && ((x.a.g == y.a.g) && ((x.a.b == y.a.b) && ((x.a.a == y.a.a) && ((x.b.r == y.b.r) && ((x.b.g == y.b.g) && ((x.b.b == y.b.b) && ((x.b.a == y.b.a) && ((x.p.1 == y.p.1) && ((x.p.2 == y.p.2) && ((x.q.1 == y.q.1) && ((x.q.2 == y.q.2) && (x.r == y.r)))))))))))))
def shP (x y : Sh) : Bool := (x.form == y.form) && (x.n == y.n) && (x.fill == y.fill) && (x.rule == y.rule) && pntQ x.paint y.paint && (x.stroke == y.stroke) && c4Q x.line y.line && (x.cap == y.cap)
def shK (x y : Sh) : Bool := eqG kyQ x.w y.w && eqG kyQ x.h y.h && eqG kyQ x.width y.width && eqG kyQ x.frm y.frm && eqG kyQ x.to y.to
def shQ (x y : Sh) : Bool := shP x y && shK x y && eqG pkQ x.paths y.paths && eqG ckQ x.colors y.colors && eqG inQ x.dash y.dash
def ez00 : Ez := ⟨0, 0, 0, 0⟩
def c400 : C4 := ⟨0, 0, 0, 0⟩
def pnt00 : Pnt := ⟨0, c400, c400, (0, 0), (0, 0), 0⟩
def sh00 : Sh := ⟨0, 0, [], [], [], false, 0, pnt00, [], false, [], c400, 0, [], [], []⟩
def bareB (s : Sh) : Bool := shQ s sh00
def Ly.keys (l : Ly) : List (List Ky) := [l.x, l.y, l.ax, l.ay, l.sx, l.sy, l.turn, l.opac, l.remap]
def maskB (p : PL) : Bool := rightB p.1 p.2 && (decide ((p.2.length : Int) = 0) || p.1)
def layerB (l : Ly) : Bool :=
  (((l.kind == 0) || (l.kind == 1)) && decide (0 ≤ l.matte) && decide (l.matte ≤ 2)) && (tickB l.in_ && tickB l.out && tickB l.start && decide (l.in_ < l.out)) && maskB l.mask && l.keys.all keysB &&
    (if l.kind = 1 then bareB l.shape else (l.comp == 0) && decide ((l.remap.length : Int) = 0) && shapeB l.shape)
end Go.Proofs.YtnebnbdeobcegaaGreat
/- Parents that lead back: a plain law. -/
namespace Go.Proofs.YtnebnbdeobcegaaGreat
open Go Go.RowKit E
set_option linter.unusedSimpArgs false
set_option linter.unusedVariables false
/-- The k-th parent. -/
def chn (ps : List Int) (i : Int) : Nat → Int
  | 0 => i
  | k + 1 => if 0 ≤ chn ps i k then (ps[(chn ps i k).toNat]?).getD (-1) else chn ps i k
/-- Whether the way from k comes back. -/
def ringAt (ps : List Int) (k : Int) : Prop := ∃ m, 1 ≤ m ∧ m ≤ ps.length ∧ chn ps k m = k
end Go.Proofs.YtnebnbdeobcegaaGreat
/- Documents: what may be, on: where layers stand, how many nodes, how deep. -/
namespace Go.Proofs.YtnebnbdeobcegaaGreat
open Go Go.RowKit E
set_option linter.unusedSimpArgs false
set_option linter.unusedVariables false
def Ly.parents (c : List Ly) : List Int := c.map (·.parent)
def ringGo (ps : List Int) (k : Int) : Nat → Int → Bool
  | 0, _ => false
  | n + 1, a => if a = k then true else if 0 ≤ a ∧ a < ps.length then ringGo ps k n ((ps[a.toNat]?).getD (-1)) else false
def ringsB (ps : List Int) (k : Nat) : Bool := ringGo ps k ps.length ((ps[k]?).getD (-1))
def treeB (cs : List (List Ly)) (n k : Nat) (c : List Ly) (l : Ly) : Bool :=
  !(((l.parent != -1) && !(decide (0 ≤ l.parent) && decide (l.parent < (c.length : Int)))) || ringsB (Ly.parents c) k) &&
  !((l.matte != 0) && (((k : Int) == 0) || (((c[k - 1]?).elim 0 (·.matte)) != 0))) &&
  (!(l.kind == 1) || ((decide (0 ≤ l.comp) && decide (l.comp < (cs.length : Int))) && decide ((n : Int) < l.comp)))
def lysE (cs : List (List Ly)) (n : Nat) (c : List Ly) : Nat → List Ly → Int
  | _, [] => 0
  | k, l :: t => if layerB l = false then 14 else if treeB cs n k c l = false then 15 else lysE cs n c (k + 1) t
def cosE (cs : List (List Ly)) : Nat → List (List Ly) → Int
  | _, [] => 0
  | n, c :: t => if ¬ lysE cs n c 0 c = 0 then lysE cs n c 0 c else cosE cs (n + 1) t
/-- Something of each comp, from the c-th on, of what comps behind have. -/
def cntGo (f : Int → Ly → Int → Int) (z : Int) : Nat → List (List Ly) → List Int
  | _, [] => []
  | c, ls :: rest => ls.foldl (fun n l => f n l (if l.kind = 1 ∧ (c : Int) < l.comp ∧ l.comp < c + 1 + rest.length then (((cntGo f z (c + 1) rest)[(l.comp - (c + 1)).toNat]?).getD 0) else 0)) z :: cntGo f z (c + 1) rest
def mnI (a b : Int) : Int := if b < a then b else a
def mxI (a b : Int) : Int := if a < b then b else a
def nodF (n : Int) (l : Ly) (inner : Int) : Int := mnI (if l.kind = 0 then n + 2 else if l.kind = 1 then n + (1 + inner) else n) 257
def depF (n : Int) (_ : Ly) (inner : Int) : Int := mxI n (1 + inner)
def nodesE (cs : List (List Ly)) (c : Int) : Int := if (decide (0 ≤ c) && decide (c < (cs.length : Int))) = true then ((cntGo nodF 0 0 cs)[c.toNat]?).getD 0 else 0
def deepE (cs : List (List Ly)) (c : Int) : Int := if (decide (0 ≤ c) && decide (c < (cs.length : Int))) = true then ((cntGo depF 1 0 cs)[c.toNat]?).getD 0 else 0
def sizeB (cs : List (List Ly)) : Bool := decide ((cs.length : Int) < 1) || decide (8 < (cs.length : Int)) || cs.any fun c => decide (16 < (c.length : Int))
def rightE (d : Dc) : Int :=
  if sizeB d.comps = true then 23
  else if (!tickB d.in_ || !tickB d.out || decide (d.out ≤ d.in_)) = true then 1
  else if ¬ cosE d.comps 0 d.comps = 0 then cosE d.comps 0 d.comps
  else if 4 < deepE d.comps 0 ∨ 256 < nodesE d.comps 0 then 24 else 0
end Go.Proofs.YtnebnbdeobcegaaGreat
/- Documents: the walks of what judges keys. -/
namespace Go.Proofs.YtnebnbdeobcegaaGreat
open Go Go.RowKit E
attribute [local irreducible] XRun XOps XCode XCal XLoop XQ SemCall
set_option linter.unusedSimpArgs false
set_option linter.unusedVariables false
theorem not_lt_d {a b : Int} : (!decide (a < b)) = decide (b ≤ a) := by
  by_cases h : a < b
  · rw [dt h, df (show ¬ b ≤ a by omega)]; rfl
  · rw [df h, dt (show b ≤ a by omega)]; rfl
theorem easeR1_ (n lo hi : Int) (H : AH) : SemCall Tryz.prog 114 [.int .i64 n, .int .i64 lo, .int .i64 hi] H (.bool (decide (lo ≤ n) && decide (n ≤ hi))) H [] := by
  refine pure_of ?_ rfl
  cases h1 : decide (lo ≤ n) with
  | false =>
    refine XCal.of hm Tryz.func114 rfl (fun xs w => Tryz.call114 xs w) Tryz.ntmps114 Tryz.results114 rfl ?_
    (refine sg h1 ?_; try exact ⟨⟩)
  | true =>
    refine XCal.of hm Tryz.func114 rfl (fun xs w => Tryz.call114 xs w) Tryz.ntmps114 Tryz.results114 rfl ?_
    (refine sg h1 ?_; try exact ⟨⟩)
abbrev ezV (e : Ez) : Value := .agg [.int .i64 e.x1, .int .i64 e.y1, .int .i64 e.x2, .int .i64 e.y2].toArray
theorem easeR_ (e : Ez) (H : AH) : SemCall Tryz.prog 103 [ezV e] H (.bool (easeB e)) H [] := by
  refine pure_of ?_ rfl
  have c1 := fun H => easeR1_ e.x1 0 65536 H
  have c2 := fun H => easeR1_ e.x2 0 65536 H
  have c3 := fun H => easeR1_ e.y1 (-131072) 196608 H
  have c4 := fun H => easeR1_ e.y2 (-131072) 196608 H
  unfold easeB
  generalize (decide (0 ≤ e.x1) && decide (e.x1 ≤ 65536)) = p1 at *
  generalize (decide (0 ≤ e.x2) && decide (e.x2 ≤ 65536)) = p2 at *
  generalize (decide (-131072 ≤ e.y1) && decide (e.y1 ≤ 196608)) = p3 at *
  generalize (decide (-131072 ≤ e.y2) && decide (e.y2 ≤ 196608)) = p4 at *
  cases p1
  case' true => cases p2
  case' true.true => cases p3
  all_goals
    refine XCal.of hm Tryz.func103 rfl (fun xs w => Tryz.call103 xs w) Tryz.ntmps103 Tryz.results103 rfl ?_
    (refine sg trivial ?_; try exact ⟨⟩)
    repeat ((first | refine (c1 _).x ?_ | refine (c2 _).x ?_ | refine (c3 _).x ?_ | refine (c4 _).x ?_ | refine drawnF ?_ (by decide +kernel)); (refine sg trivial ?_; try exact ⟨⟩))
set_option maxHeartbeats 4000000 in
theorem kstep_ (i : Nat) (a t how : Int) (e : Ez) (H : AH) : SemCall Tryz.prog 78 [.int .i64 (i : Int), .int .i64 a, .int .i64 t, .int .i64 how, ezV e] H (.bool (kstB (decide (i = 0)) a t how e)) H [] := by
  refine pure_of ?_ rfl
  have hi : decide ((0 : Int) < (i : Int)) = !decide (i = 0) := by
    by_cases h : i = 0
    · rw [df (show ¬ (0 : Int) < (i : Int) by omega), dt h]; rfl
    · rw [dt (show (0 : Int) < (i : Int) by omega), df h]; rfl
  unfold kstB
  generalize decide (i = 0) = f at *
  have c1 := fun H => easeR_ e H
  have bad : ∀ X Y : Bool, tickB t = false → (tickB t && X && Y) = false := fun X Y h => by rw [h, Bool.false_and, Bool.false_and]
  by_cases h1 : t < -1073741824
  · rw [bad _ _ (by unfold tickB; rw [df (show ¬ -1073741824 ≤ t by omega), Bool.false_and])]
    refine XCal.of hm Tryz.func78 rfl (fun xs w => Tryz.call78 xs w) Tryz.ntmps78 Tryz.results78 rfl ?_
    (refine sg (dt h1) ?_; try exact ⟨⟩)
  · by_cases h2 : 1073741824 < t
    · rw [bad _ _ (by unfold tickB; rw [df (show ¬ t ≤ 1073741824 by omega), Bool.and_false])]
      refine XCal.of hm Tryz.func78 rfl (fun xs w => Tryz.call78 xs w) Tryz.ntmps78 Tryz.results78 rfl ?_
      (refine sg (et (df h1) (dt h2)) ?_; try exact ⟨⟩)
    · have ht : tickB t = true := by unfold tickB; rw [dt (show -1073741824 ≤ t by omega), dt (show t ≤ 1073741824 by omega)]; rfl
      rw [ht, Bool.true_and]
      cases hf : (f || decide (a < t)) with
      | false =>
        have hf0 : f = false := by cases f <;> simp_all
        subst hf0
        have h3 : t ≤ a := by simpa using hf
        rw [Bool.false_and]
        refine XCal.of hm Tryz.func78 rfl (fun xs w => Tryz.call78 xs w) Tryz.ntmps78 Tryz.results78 rfl ?_
        (refine sg (et (df h1) (et (df h2) (et hi (et Bool.not_false (dt h3))))) ?_; try exact ⟨⟩)
      | true =>
        rw [Bool.true_and]
        unfold howB
        have h3 : f = true ∨ (f = false ∧ decide (t ≤ a) = false) := by
          cases f
          · right; refine ⟨rfl, ?_⟩; simp at hf; exact df (by omega)
          · exact .inl rfl
        by_cases hw : how = 2
        · rw [if_pos hw]
          rcases h3 with h3 | ⟨h3, h4⟩
          · refine XCal.of hm Tryz.func78 rfl (fun xs w => Tryz.call78 xs w) Tryz.ntmps78 Tryz.results78 rfl ?_
            (refine sg (et (df h1) (et (df h2) (et hi (et h3 (et Bool.not_true (bt hw)))))) ?_; try exact ⟨⟩)
            repeat ((first | refine (c1 _).x ?_ | refine drawnF ?_ (by decide +kernel)); (refine sg trivial ?_; try exact ⟨⟩))
          · refine XCal.of hm Tryz.func78 rfl (fun xs w => Tryz.call78 xs w) Tryz.ntmps78 Tryz.results78 rfl ?_
            (refine sg (et (df h1) (et (df h2) (et hi (et h3 (et h4 (et Bool.not_false (bt hw))))))) ?_; try exact ⟨⟩)
            repeat ((first | refine (c1 _).x ?_ | refine drawnF ?_ (by decide +kernel)); (refine sg trivial ?_; try exact ⟨⟩))
        · rw [if_neg hw]
          by_cases w0 : how = 0
          · rw [bt w0, Bool.true_or, Bool.true_and]
            rcases h3 with h3 | ⟨h3, h4⟩
            · refine XCal.of hm Tryz.func78 rfl (fun xs w => Tryz.call78 xs w) Tryz.ntmps78 Tryz.results78 rfl ?_
              simp only [go_sem, Nat.reduceEqDiff, Nat.reduceAdd, Nat.reduceSub, Nat.reduceMul, Nat.reduceLT, Nat.reduceLeDiff, Int.reducePow, Int.reduceBEq, Int.reduceBNe, Int.reduceDiv, Int.reduceMod, Int.reduceEq, Int.reduceLT, Int.reduceLE, Int.reduceAdd, Int.reduceSub, Int.reduceMul, Int.reduceNeg, Int.reduceToNat, Int.reduceTDiv, Int.reduceTMod, ↓reduceIte, df h1, df h2, hi, h3, Bool.not_true, bf hw, bt w0, ez0]
            · refine XCal.of hm Tryz.func78 rfl (fun xs w => Tryz.call78 xs w) Tryz.ntmps78 Tryz.results78 rfl ?_
              simp only [go_sem, Nat.reduceEqDiff, Nat.reduceAdd, Nat.reduceSub, Nat.reduceMul, Nat.reduceLT, Nat.reduceLeDiff, Int.reducePow, Int.reduceBEq, Int.reduceBNe, Int.reduceDiv, Int.reduceMod, Int.reduceEq, Int.reduceLT, Int.reduceLE, Int.reduceAdd, Int.reduceSub, Int.reduceMul, Int.reduceNeg, Int.reduceToNat, Int.reduceTDiv, Int.reduceTMod, ↓reduceIte, df h1, df h2, hi, h3, h4, Bool.not_false, bf hw, bt w0, ez0]
          · by_cases w1 : how = 1
            · rw [bf w0, bt w1, Bool.false_or, Bool.true_and]
              rcases h3 with h3 | ⟨h3, h4⟩
              · refine XCal.of hm Tryz.func78 rfl (fun xs w => Tryz.call78 xs w) Tryz.ntmps78 Tryz.results78 rfl ?_
                simp only [go_sem, Nat.reduceEqDiff, Nat.reduceAdd, Nat.reduceSub, Nat.reduceMul, Nat.reduceLT, Nat.reduceLeDiff, Int.reducePow, Int.reduceBEq, Int.reduceBNe, Int.reduceDiv, Int.reduceMod, Int.reduceEq, Int.reduceLT, Int.reduceLE, Int.reduceAdd, Int.reduceSub, Int.reduceMul, Int.reduceNeg, Int.reduceToNat, Int.reduceTDiv, Int.reduceTMod, ↓reduceIte, df h1, df h2, hi, h3, Bool.not_true, bf hw, bf w0, bt w1, ez0]
              · refine XCal.of hm Tryz.func78 rfl (fun xs w => Tryz.call78 xs w) Tryz.ntmps78 Tryz.results78 rfl ?_
                simp only [go_sem, Nat.reduceEqDiff, Nat.reduceAdd, Nat.reduceSub, Nat.reduceMul, Nat.reduceLT, Nat.reduceLeDiff, Int.reducePow, Int.reduceBEq, Int.reduceBNe, Int.reduceDiv, Int.reduceMod, Int.reduceEq, Int.reduceLT, Int.reduceLE, Int.reduceAdd, Int.reduceSub, Int.reduceMul, Int.reduceNeg, Int.reduceToNat, Int.reduceTDiv, Int.reduceTMod, ↓reduceIte, df h1, df h2, hi, h3, h4, Bool.not_false, bf hw, bf w0, bt w1, ez0]
            · rw [bf w0, bf w1, Bool.false_or, Bool.false_and]
              rcases h3 with h3 | ⟨h3, h4⟩
              · refine XCal.of hm Tryz.func78 rfl (fun xs w => Tryz.call78 xs w) Tryz.ntmps78 Tryz.results78 rfl ?_
                (refine sg (et (df h1) (et (df h2) (et hi (et h3 (et Bool.not_true (et (bf hw) (et (bf w0) (bf w1)))))))) ?_; try exact ⟨⟩)
              · refine XCal.of hm Tryz.func78 rfl (fun xs w => Tryz.call78 xs w) Tryz.ntmps78 Tryz.results78 rfl ?_
                (refine sg (et (df h1) (et (df h2) (et hi (et h3 (et h4 (et Bool.not_false (et (bf hw) (et (bf w0) (bf w1))))))))) ?_; try exact ⟨⟩)
theorem drop_at {α : Type} {l : List α} {i : Nat} {x : α} (h : l[i]? = some x) : l.drop i = x :: l.drop (i + 1) := by
  have hi := (List.getElem?_eq_some_iff.1 h)
  rw [List.drop_eq_getElem_cons hi.1, hi.2]
set_option maxHeartbeats 4000000 in
theorem keyR_ (l : List Ky) (v : Value) (H : AH) (h : Kys H v l) : SemCall Tryz.prog 52 [v] H (.bool (keysB l)) H [] := by
  refine pure_of ?_ rfl
  have hlen := h.len
  obtain ⟨va, ve, hv⟩ := h.form
  subst hv
  refine XCal.of hm Tryz.func52 rfl (fun xs w => Tryz.call52 xs w) Tryz.ntmps52 Tryz.results52 rfl ?_
  (refine sg trivial ?_; try exact ⟨⟩)
  refine keep (fun k T K D => D = [] ∧ ∃ (i : Nat) (a : Int), i + k = l.length ∧ Old H K ∧ H.length ≤ K.length ∧ keysB l = (keysGo (decide (i = 0)) a (l.drop i) && decide ((l.length : Int) ≤ 32)) ∧ T 0 = .slice va l.length ve ∧ T 3 = .int .i64 a ∧ T 6 = .slice va l.length ve ∧ T 7 = .int .i64 (l.length : Int) ∧ T 8 = .int .i64 (i : Int)) l.length
    ⟨rfl, 0, 0, by omega, Old.refl _, by omega, rfl, by (refine sg trivial ?_; try exact ⟨⟩), by (refine sg trivial ?_; try exact ⟨⟩) <;> rfl, by (refine sg trivial ?_; try exact ⟨⟩), by (refine sg trivial ?_; try exact ⟨⟩), by (refine sg trivial ?_; try exact ⟨⟩) <;> rfl⟩ ?_
  rintro k T K D ⟨rfl, i, a, hik, hold, hKl, hr, t0, t3, t6, t7, t8⟩
  have kd : ∀ n, decide (K.length + n < H.length) = false := fun n => df (by omega)
  have kd0 : decide (K.length < H.length) = false := df (by omega)
  by_cases hk : i < l.length
  · obtain ⟨x, hx⟩ : ∃ x, l[i]? = some x := ⟨_, List.getElem?_eq_getElem hk⟩
    obtain ⟨b, g, cells, rw_, c, hve, hb, hc, hcl, hle, hld, hgt⟩ := h.at hx
    have hc : c = kyC x := hc
    subst hc
    have kb := hold _ _ hb
    rw [drop_at hx] at hr
    simp only [keysGo] at hr
    rw [hve] at t0 t6
    have q0 : (0 : Int) ≤ (i : Int) := by omega
    have q1 : (i : Int) < (l.length : Int) := by omega
    have w1 : IntKind.i64.wrap ((i : Int) + 1) = ((i + 1 : Nat) : Int) := by rw [wi (by omega) (by omega)]; rfl
    have ks := fun H => kstep_ i a x.t x.how x.e H
    cases hs : kstB (decide (i = 0)) a x.t x.how x.e with
    | false =>
      rw [hs] at ks hr
      (refine sg (et t0 (et t3 (et t6 (et t7 (et t8 (et (dt q1) (et q0 (et q1 (et Int.toNat_natCast (et Nat.zero_add (et kb (et hld (et kd kd0))))))))))))) ?_; try exact ⟨⟩)
      repeat ((first | refine (ks _).x ?_ | refine drawnF ?_ (by decide +kernel)); (refine sg (et kd (et kd0 (et t0 (et t3 (et t6 (et t7 t8)))))) ?_; try exact ⟨⟩))
      rw [hr]; rfl
    | true =>
      rw [hs] at ks hr
      by_cases n1 : x.v < -67108864
      · (refine sg (et t0 (et t3 (et t6 (et t7 (et t8 (et (dt q1) (et q0 (et q1 (et Int.toNat_natCast (et Nat.zero_add (et kb (et hld (et kd kd0))))))))))))) ?_; try exact ⟨⟩)
        repeat ((first | refine (ks _).x ?_ | refine drawnF ?_ (by decide +kernel)); (refine sg (et kd (et kd0 (et t0 (et t3 (et t6 (et t7 (et t8 (dt n1)))))))) ?_; try exact ⟨⟩))
        rw [hr]; unfold nearB; rw [df (show ¬ -67108864 ≤ x.v by omega)]; rfl
      · by_cases n2 : 67108864 < x.v
        · (refine sg (et t0 (et t3 (et t6 (et t7 (et t8 (et (dt q1) (et q0 (et q1 (et Int.toNat_natCast (et Nat.zero_add (et kb (et hld (et kd kd0))))))))))))) ?_; try exact ⟨⟩)
          repeat ((first | refine (ks _).x ?_ | refine drawnF ?_ (by decide +kernel)); (refine sg (et kd (et kd0 (et t0 (et t3 (et t6 (et t7 (et t8 (et (df n1) (dt n2))))))))) ?_; try exact ⟨⟩))
          rw [hr]; unfold nearB; rw [df (show ¬ x.v ≤ 67108864 by omega), Bool.and_false]; rfl
        · have hn : nearB x.v = true := by unfold nearB; rw [dt (show -67108864 ≤ x.v by omega), dt (show x.v ≤ 67108864 by omega)]; rfl
          rw [hn] at hr
          (refine sg (et t0 (et t3 (et t6 (et t7 (et t8 (et (dt q1) (et q0 (et q1 (et Int.toNat_natCast (et Nat.zero_add (et kb (et hld (et kd kd0))))))))))))) ?_; try exact ⟨⟩)
          repeat ((first | refine (ks _).x ?_ | refine drawnF ?_ (by decide +kernel)); (refine sg (et kd (et kd0 (et t0 (et t3 (et t6 (et t7 (et t8 (et (df n1) (et (df n2) w1))))))))) ?_; try exact ⟨⟩))
          exact ⟨k - 1, by omega, i + 1, x.t, by omega, hold.app _, by omega, by rw [df (show ¬ i + 1 = 0 by omega)]; exact hr, hve.symm, rfl, hve.symm, rfl⟩
  · have hi : i = l.length := by omega
    subst hi
    rw [List.drop_eq_nil_of_le (by omega)] at hr
    (refine sg (et t0 (et t3 (et t6 (et t7 (et t8 (df (show ¬ ((l.length : Nat) : Int) < (l.length : Int) by omega))))))) ?_; try exact ⟨⟩)
    rw [hr]; rfl
end Go.Proofs.YtnebnbdeobcegaaGreat
/- Documents: the walks of what judges colours, dashes, paths of keys, paints. -/
namespace Go.Proofs.YtnebnbdeobcegaaGreat
open Go Go.RowKit E
attribute [local irreducible] XRun XOps XCode XCal XLoop XQ SemCall
set_option linter.unusedSimpArgs false
set_option linter.unusedVariables false
set_option maxHeartbeats 4000000 in
theorem hueR_ (l : List Ck) (v : Value) (H : AH) (h : Cks H v l) : SemCall Tryz.prog 84 [v] H (.bool (cksB l)) H [] := by
  refine pure_of ?_ rfl
  have hlen := h.len
  obtain ⟨va, ve, hv⟩ := h.form
  subst hv
  refine XCal.of hm Tryz.func84 rfl (fun xs w => Tryz.call84 xs w) Tryz.ntmps84 Tryz.results84 rfl ?_
  (refine sg trivial ?_; try exact ⟨⟩)
  refine keep (fun k T K D => D = [] ∧ ∃ (i : Nat) (a : Int), i + k = l.length ∧ Old H K ∧ H.length ≤ K.length ∧ cksB l = (cksGo (decide (i = 0)) a (l.drop i) && decide ((l.length : Int) ≤ 32)) ∧ T 0 = .slice va l.length ve ∧ T 3 = .int .i64 a ∧ T 6 = .slice va l.length ve ∧ T 7 = .int .i64 (l.length : Int) ∧ T 8 = .int .i64 (i : Int)) l.length
    ⟨rfl, 0, 0, by omega, Old.refl _, by omega, rfl, by (refine sg trivial ?_; try exact ⟨⟩), by (refine sg trivial ?_; try exact ⟨⟩) <;> rfl, by (refine sg trivial ?_; try exact ⟨⟩), by (refine sg trivial ?_; try exact ⟨⟩), by (refine sg trivial ?_; try exact ⟨⟩) <;> rfl⟩ ?_
  rintro k T K D ⟨rfl, i, a, hik, hold, hKl, hr, t0, t3, t6, t7, t8⟩
  have kd : ∀ n, decide (K.length + n < H.length) = false := fun n => df (by omega)
  have kd0 : decide (K.length < H.length) = false := df (by omega)
  by_cases hk : i < l.length
  · obtain ⟨x, hx⟩ : ∃ x, l[i]? = some x := ⟨_, List.getElem?_eq_getElem hk⟩
    obtain ⟨b, g, cells, rw_, c, hve, hb, hc, hcl, hle, hld, hgt⟩ := h.at hx
    have hc : c = ckC x := hc
    subst hc
    have kb := hold _ _ hb
    rw [drop_at hx] at hr
    simp only [cksGo] at hr
    rw [hve] at t0 t6
    have q0 : (0 : Int) ≤ (i : Int) := by omega
    have q1 : (i : Int) < (l.length : Int) := by omega
    have w1 : IntKind.i64.wrap ((i : Int) + 1) = ((i + 1 : Nat) : Int) := by rw [wi (by omega) (by omega)]; rfl
    have ks := fun H => kstep_ i a x.t x.how x.e H
    cases hs : kstB (decide (i = 0)) a x.t x.how x.e with
    | false =>
      rw [hs] at ks hr
      (refine sg (et t0 (et t3 (et t6 (et t7 (et t8 (et (dt q1) (et q0 (et q1 (et Int.toNat_natCast (et Nat.zero_add (et kb (et hld (et kd kd0))))))))))))) ?_; try exact ⟨⟩)
      repeat ((first | refine (ks _).x ?_ | refine drawnF ?_ (by decide +kernel)); (refine sg (et kd (et kd0 (et t0 (et t3 (et t6 (et t7 t8)))))) ?_; try exact ⟨⟩))
      rw [hr]; rfl
    | true =>
      rw [hs] at ks hr
      (refine sg (et t0 (et t3 (et t6 (et t7 (et t8 (et (dt q1) (et q0 (et q1 (et Int.toNat_natCast (et Nat.zero_add (et kb (et hld (et kd kd0))))))))))))) ?_; try exact ⟨⟩)
      repeat ((first | refine (ks _).x ?_ | refine drawnF ?_ (by decide +kernel)); (refine sg (et kd (et kd0 (et t0 (et t3 (et t6 (et t7 (et t8 w1))))))) ?_; try exact ⟨⟩))
      exact ⟨k - 1, by omega, i + 1, x.t, by omega, hold.app _, by omega, by rw [df (show ¬ i + 1 = 0 by omega)]; exact hr, hve.symm, rfl, hve.symm, rfl⟩
  · have hi : i = l.length := by omega
    subst hi
    rw [List.drop_eq_nil_of_le (by omega)] at hr
    (refine sg (et t0 (et t3 (et t6 (et t7 (et t8 (df (show ¬ ((l.length : Nat) : Int) < (l.length : Int) by omega))))))) ?_; try exact ⟨⟩)
    rw [hr]; rfl
/-- Where the first is that something holds of. -/
def idxG {α : Type} (p : α → Bool) : List α → Nat → Int
  | [], _ => -1
  | x :: t, i => if p x = true then (i : Int) else idxG p t (i + 1)
theorem idxG_ge {α : Type} (p : α → Bool) : ∀ (l : List α) (i : Nat), decide (0 ≤ idxG p l i) = l.any p
  | [], i => rfl
  | x :: t, i => by
    cases h : p x with
    | true => rw [idxG, if_pos h, List.any_cons, h, Bool.true_or]; exact dt (by omega)
    | false => rw [idxG, if_neg (by rw [h]; decide), idxG_ge p t (i + 1), List.any_cons, h, Bool.false_or]
def dashG (n : Int) : Bool := decide (n < 65536) || decide (67108864 < n)
theorem dashR1_ (n : Int) (H : AH) : SemCall Tryz.prog 109 [.int .i64 n] H (.bool (dashG n)) H [] := by
  refine pure_of ?_ rfl
  unfold dashG
  cases h : decide (n < 65536)
  all_goals
    refine XCal.of hm Tryz.func109 rfl (fun xs w => Tryz.call109 xs w) Tryz.ntmps109 Tryz.results109 rfl ?_
    (refine sg h ?_; try exact ⟨⟩)
theorem dash_all : ∀ (l : List Int), (l.all fun n => decide (65536 ≤ n) && decide (n ≤ 67108864)) = !l.any dashG
  | [] => rfl
  | x :: t => by
    rw [List.all_cons, List.any_cons, dash_all t, Bool.not_or]
    congr 1
    unfold dashG
    rw [Bool.not_or, not_lt_d, not_lt_d]
theorem dIndex_ (l : List Int) (v : Value) (H : AH) (h : Ins H v l) : SemCall Tryz.prog 116 [v, .func (.func 109) [].toArray [].toArray] H (.int .i64 (idxG dashG l 0)) H [] := by
  refine pure_of ?_ rfl
  have hlen := h.len
  obtain ⟨va, ve, hv⟩ := h.form
  subst hv
  refine XCal.of hm Tryz.func116 rfl (fun xs w => Tryz.call116 xs w) Tryz.ntmps116 Tryz.results116 rfl ?_
  (refine sg trivial ?_; try exact ⟨⟩)
  refine keep (fun k T H' D => H = H' ∧ D = [] ∧ T 0 = .slice va l.length ve ∧ T 1 = .func (.func 109) [].toArray [].toArray ∧ T 7 = .int .i64 (l.length : Int) ∧ ∃ i : Nat, i + k = l.length ∧ T 8 = .int .i64 (i : Int) ∧ idxG dashG (l.drop i) i = idxG dashG l 0) l.length ⟨rfl, rfl, rfl, rfl, rfl, 0, by omega, rfl, rfl⟩ ?_
  rintro k T H' D ⟨rfl, rfl, h0, h1, h7, i, hi, h8, hr⟩
  by_cases hk : i < l.length
  · obtain ⟨x, hx⟩ : ∃ x, l[i]? = some x := ⟨_, List.getElem?_eq_getElem hk⟩
    obtain ⟨b, g, cells, rw_, c, hve, hb, hc, hcl, hle, hld, hgt⟩ := h.at hx
    have hc : c = [.int .i64 x] := hc
    subst hc
    have hg := hgt 0 (by omega)
    rw [Nat.mul_one, Nat.add_zero] at hg
    have hg : cells[i]? = some (.int .i64 x) := hg
    rw [hve] at h0
    rw [drop_at hx, idxG] at hr
    have w1 : IntKind.i64.wrap ((i : Int) + 1) = ((i + 1 : Nat) : Int) := by rw [wi (by omega) (by omega)]; rfl
    have c1 := fun H => dashR1_ x H
    cases hd : dashG x with
    | true =>
      rw [hd] at c1
      rw [if_pos hd] at hr
      (refine sg (et h0 (et h1 (et h7 (et h8 (et (dt (show (i : Int) < (l.length : Int) by omega)) (et hb (et (show (0 : Int) ≤ (i : Int) by omega) (et (show (i : Int) < (l.length : Int) by omega) (et Int.toNat_natCast (et Nat.zero_add (et Nat.mul_one hg))))))))))) ?_; try exact ⟨⟩)
      refine (c1 _).x ?_
      (refine sg (et h0 (et h1 (et h7 h8))) ?_; try exact ⟨⟩)
      rw [← hr]
    | false =>
      rw [hd] at c1
      rw [if_neg (by rw [hd]; decide)] at hr
      (refine sg (et h0 (et h1 (et h7 (et h8 (et (dt (show (i : Int) < (l.length : Int) by omega)) (et hb (et (show (0 : Int) ≤ (i : Int) by omega) (et (show (i : Int) < (l.length : Int) by omega) (et Int.toNat_natCast (et Nat.zero_add (et Nat.mul_one hg))))))))))) ?_; try exact ⟨⟩)
      refine (c1 _).x ?_
      simp only [go_sem, Nat.reduceEqDiff, Nat.reduceAdd, Nat.reduceSub, Nat.reduceMul, Nat.reduceLT, Nat.reduceLeDiff, Int.reducePow, Int.reduceBEq, Int.reduceBNe, Int.reduceDiv, Int.reduceMod, Int.reduceEq, Int.reduceLT, Int.reduceLE, Int.reduceAdd, Int.reduceSub, Int.reduceMul, Int.reduceNeg, Int.reduceToNat, Int.reduceTDiv, Int.reduceTMod, ↓reduceIte, h0, h1, h7, h8, w1]
      exact ⟨k - 1, by omega, hve.symm, i + 1, by omega, rfl, hr⟩
  · rw [List.drop_eq_nil_of_le (by omega)] at hr
    simp only [go_sem, Nat.reduceEqDiff, Nat.reduceAdd, Nat.reduceSub, Nat.reduceMul, Nat.reduceLT, Nat.reduceLeDiff, Int.reducePow, Int.reduceBEq, Int.reduceBNe, Int.reduceDiv, Int.reduceMod, Int.reduceEq, Int.reduceLT, Int.reduceLE, Int.reduceAdd, Int.reduceSub, Int.reduceMul, Int.reduceNeg, Int.reduceToNat, Int.reduceTDiv, Int.reduceTMod, ↓reduceIte, h0, h1, h7, h8, df (show ¬ (i : Int) < (l.length : Int) by omega)]
    rw [← hr]; rfl
theorem dContains_ (l : List Int) (v : Value) (H : AH) (h : Ins H v l) : SemCall Tryz.prog 108 [v, .func (.func 109) [].toArray [].toArray] H (.bool (l.any dashG)) H [] := by
  refine pure_of ?_ rfl
  refine XCal.of hm Tryz.func108 rfl (fun xs w => Tryz.call108 xs w) Tryz.ntmps108 Tryz.results108 rfl ?_
  simp only [go_sem, Nat.reduceEqDiff, Nat.reduceAdd, Nat.reduceSub, Nat.reduceMul, Nat.reduceLT, Nat.reduceLeDiff, Int.reducePow, Int.reduceBEq, Int.reduceBNe, Int.reduceDiv, Int.reduceMod, Int.reduceEq, Int.reduceLT, Int.reduceLE, Int.reduceAdd, Int.reduceSub, Int.reduceMul, Int.reduceNeg, Int.reduceToNat, Int.reduceTDiv, Int.reduceTMod, ↓reduceIte]
  repeat ((first | refine (dIndex_ l v _ h).x ?_ | refine drawnF ?_ (by decide +kernel)); simp only [go_sem, Nat.reduceEqDiff, Nat.reduceAdd, Nat.reduceSub, Nat.reduceMul, Nat.reduceLT, Nat.reduceLeDiff, Int.reducePow, Int.reduceBEq, Int.reduceBNe, Int.reduceDiv, Int.reduceMod, Int.reduceEq, Int.reduceLT, Int.reduceLE, Int.reduceAdd, Int.reduceSub, Int.reduceMul, Int.reduceNeg, Int.reduceToNat, Int.reduceTDiv, Int.reduceTMod, ↓reduceIte, idxG_ge])
theorem dashR_ (l : List Int) (v : Value) (H : AH) (h : Ins H v l) : SemCall Tryz.prog 85 [v] H (.bool (dashB l)) H [] := by
  refine pure_of ?_ rfl
  obtain ⟨va, ve, hv⟩ := h.form
  subst hv
  unfold dashB
  rw [dash_all]
  cases hd : decide ((l.length : Int) ≤ 8)
  all_goals
    refine XCal.of hm Tryz.func85 rfl (fun xs w => Tryz.call85 xs w) Tryz.ntmps85 Tryz.results85 rfl ?_
    (refine sg hd ?_; try exact ⟨⟩)
    repeat ((first | refine (dContains_ l _ _ h).x ?_ | refine drawnF ?_ (by decide +kernel)); (refine sg hd ?_; try exact ⟨⟩))
theorem snear_ (x : Int) (H : AH) : SemCall Tryz.prog 107 [.int .i64 x] H (.bool (nearB x)) H [] := by
  refine pure_of ?_ rfl
  unfold nearB
  cases h1 : decide (-67108864 ≤ x) with
  | false =>
    refine XCal.of hm Tryz.func107 rfl (fun xs w => Tryz.call107 xs w) Tryz.ntmps107 Tryz.results107 rfl ?_
    (refine sg h1 ?_; try exact ⟨⟩)
  | true =>
    refine XCal.of hm Tryz.func107 rfl (fun xs w => Tryz.call107 xs w) Tryz.ntmps107 Tryz.results107 rfl ?_
    (refine sg h1 ?_; try exact ⟨⟩)
theorem pnear_ (x : Int) (H : AH) : SemCall Tryz.prog 86 [.int .i64 x] H (.bool (nearB x)) H [] := by
  refine pure_of ?_ rfl
  unfold nearB
  cases h1 : decide (-67108864 ≤ x) with
  | false =>
    refine XCal.of hm Tryz.func86 rfl (fun xs w => Tryz.call86 xs w) Tryz.ntmps86 Tryz.results86 rfl ?_
    (refine sg h1 ?_; try exact ⟨⟩)
  | true =>
    refine XCal.of hm Tryz.func86 rfl (fun xs w => Tryz.call86 xs w) Tryz.ntmps86 Tryz.results86 rfl ?_
    (refine sg h1 ?_; try exact ⟨⟩)
abbrev pntV (p : Pnt) : Value := .agg (pntC p).toArray
theorem spaint_ (p : Pnt) (H : AH) : SemCall Tryz.prog 83 [pntV p] H (.bool (paintB p)) H [] := by
  refine pure_of ?_ rfl
  unfold paintB
  cases h1 : nearB p.p.1 with
  | false =>
    cases g1 : decide (0 ≤ p.kind) <;> cases g2 : decide (p.kind ≤ 2)
    all_goals
      refine XCal.of hm Tryz.func83 rfl (fun xs w => Tryz.call83 xs w) Tryz.ntmps83 Tryz.results83 rfl ?_
      simp only [go_sem, Nat.reduceEqDiff, Nat.reduceAdd, Nat.reduceSub, Nat.reduceMul, Nat.reduceLT, Nat.reduceLeDiff, Int.reducePow, Int.reduceBEq, Int.reduceBNe, Int.reduceDiv, Int.reduceMod, Int.reduceEq, Int.reduceLT, Int.reduceLE, Int.reduceAdd, Int.reduceSub, Int.reduceMul, Int.reduceNeg, Int.reduceToNat, Int.reduceTDiv, Int.reduceTMod, ↓reduceIte, pntV, g1, g2]
      repeat ((first | refine (snear_ _ _).x ?_ | refine drawnF ?_ (by decide +kernel)); (refine sg (et h1 (et g1 g2)) ?_; try exact ⟨⟩))
  | true =>
    cases h2 : nearB p.p.2 with
    | false =>
      cases g1 : decide (0 ≤ p.kind) <;> cases g2 : decide (p.kind ≤ 2)
      all_goals
        refine XCal.of hm Tryz.func83 rfl (fun xs w => Tryz.call83 xs w) Tryz.ntmps83 Tryz.results83 rfl ?_
        simp only [go_sem, Nat.reduceEqDiff, Nat.reduceAdd, Nat.reduceSub, Nat.reduceMul, Nat.reduceLT, Nat.reduceLeDiff, Int.reducePow, Int.reduceBEq, Int.reduceBNe, Int.reduceDiv, Int.reduceMod, Int.reduceEq, Int.reduceLT, Int.reduceLE, Int.reduceAdd, Int.reduceSub, Int.reduceMul, Int.reduceNeg, Int.reduceToNat, Int.reduceTDiv, Int.reduceTMod, ↓reduceIte, pntV, g1, g2]
        repeat ((first | refine (snear_ _ _).x ?_ | refine drawnF ?_ (by decide +kernel)); (refine sg (et h1 (et h2 (et g1 g2))) ?_; try exact ⟨⟩))
    | true =>
      cases h3 : nearB p.q.1 with
      | false =>
        cases g1 : decide (0 ≤ p.kind) <;> cases g2 : decide (p.kind ≤ 2)
        all_goals
          refine XCal.of hm Tryz.func83 rfl (fun xs w => Tryz.call83 xs w) Tryz.ntmps83 Tryz.results83 rfl ?_
          simp only [go_sem, Nat.reduceEqDiff, Nat.reduceAdd, Nat.reduceSub, Nat.reduceMul, Nat.reduceLT, Nat.reduceLeDiff, Int.reducePow, Int.reduceBEq, Int.reduceBNe, Int.reduceDiv, Int.reduceMod, Int.reduceEq, Int.reduceLT, Int.reduceLE, Int.reduceAdd, Int.reduceSub, Int.reduceMul, Int.reduceNeg, Int.reduceToNat, Int.reduceTDiv, Int.reduceTMod, ↓reduceIte, pntV, g1, g2]
          repeat ((first | refine (snear_ _ _).x ?_ | refine drawnF ?_ (by decide +kernel)); (refine sg (et h1 (et h2 (et h3 (et g1 g2)))) ?_; try exact ⟨⟩))
      | true =>
        cases h4 : nearB p.q.2 with
        | false =>
          cases g1 : decide (0 ≤ p.kind) <;> cases g2 : decide (p.kind ≤ 2)
          all_goals
            refine XCal.of hm Tryz.func83 rfl (fun xs w => Tryz.call83 xs w) Tryz.ntmps83 Tryz.results83 rfl ?_
            simp only [go_sem, Nat.reduceEqDiff, Nat.reduceAdd, Nat.reduceSub, Nat.reduceMul, Nat.reduceLT, Nat.reduceLeDiff, Int.reducePow, Int.reduceBEq, Int.reduceBNe, Int.reduceDiv, Int.reduceMod, Int.reduceEq, Int.reduceLT, Int.reduceLE, Int.reduceAdd, Int.reduceSub, Int.reduceMul, Int.reduceNeg, Int.reduceToNat, Int.reduceTDiv, Int.reduceTMod, ↓reduceIte, pntV, g1, g2]
            repeat ((first | refine (snear_ _ _).x ?_ | refine drawnF ?_ (by decide +kernel)); (refine sg (et h1 (et h2 (et h3 (et h4 (et g1 g2))))) ?_; try exact ⟨⟩))
        | true =>
          cases g1 : decide (0 ≤ p.kind) <;> cases g2 : decide (p.kind ≤ 2)
          all_goals
            refine XCal.of hm Tryz.func83 rfl (fun xs w => Tryz.call83 xs w) Tryz.ntmps83 Tryz.results83 rfl ?_
            simp only [go_sem, Nat.reduceEqDiff, Nat.reduceAdd, Nat.reduceSub, Nat.reduceMul, Nat.reduceLT, Nat.reduceLeDiff, Int.reducePow, Int.reduceBEq, Int.reduceBNe, Int.reduceDiv, Int.reduceMod, Int.reduceEq, Int.reduceLT, Int.reduceLE, Int.reduceAdd, Int.reduceSub, Int.reduceMul, Int.reduceNeg, Int.reduceToNat, Int.reduceTDiv, Int.reduceTMod, ↓reduceIte, pntV, g1, g2]
            repeat ((first | refine (snear_ _ _).x ?_ | refine drawnF ?_ (by decide +kernel)); (refine sg (et h1 (et h2 (et h3 (et h4 (et g1 g2))))) ?_; try exact ⟨⟩))
theorem ppaint_ (p : Pnt) (H : AH) : SemCall Tryz.prog 55 [pntV p] H (.bool (paintB p)) H [] := by
  refine pure_of ?_ rfl
  unfold paintB
  cases h1 : nearB p.p.1 with
  | false =>
    cases g1 : decide (0 ≤ p.kind) <;> cases g2 : decide (p.kind ≤ 2)
    all_goals
      refine XCal.of hm Tryz.func55 rfl (fun xs w => Tryz.call55 xs w) Tryz.ntmps55 Tryz.results55 rfl ?_
      simp only [go_sem, Nat.reduceEqDiff, Nat.reduceAdd, Nat.reduceSub, Nat.reduceMul, Nat.reduceLT, Nat.reduceLeDiff, Int.reducePow, Int.reduceBEq, Int.reduceBNe, Int.reduceDiv, Int.reduceMod, Int.reduceEq, Int.reduceLT, Int.reduceLE, Int.reduceAdd, Int.reduceSub, Int.reduceMul, Int.reduceNeg, Int.reduceToNat, Int.reduceTDiv, Int.reduceTMod, ↓reduceIte, pntV, g1, g2]
      repeat ((first | refine (pnear_ _ _).x ?_ | refine drawnF ?_ (by decide +kernel)); (refine sg (et h1 (et g1 g2)) ?_; try exact ⟨⟩))
  | true =>
    cases h2 : nearB p.p.2 with
    | false =>
      cases g1 : decide (0 ≤ p.kind) <;> cases g2 : decide (p.kind ≤ 2)
      all_goals
        refine XCal.of hm Tryz.func55 rfl (fun xs w => Tryz.call55 xs w) Tryz.ntmps55 Tryz.results55 rfl ?_
        simp only [go_sem, Nat.reduceEqDiff, Nat.reduceAdd, Nat.reduceSub, Nat.reduceMul, Nat.reduceLT, Nat.reduceLeDiff, Int.reducePow, Int.reduceBEq, Int.reduceBNe, Int.reduceDiv, Int.reduceMod, Int.reduceEq, Int.reduceLT, Int.reduceLE, Int.reduceAdd, Int.reduceSub, Int.reduceMul, Int.reduceNeg, Int.reduceToNat, Int.reduceTDiv, Int.reduceTMod, ↓reduceIte, pntV, g1, g2]
        repeat ((first | refine (pnear_ _ _).x ?_ | refine drawnF ?_ (by decide +kernel)); (refine sg (et h1 (et h2 (et g1 g2))) ?_; try exact ⟨⟩))
    | true =>
      cases h3 : nearB p.q.1 with
      | false =>
        cases g1 : decide (0 ≤ p.kind) <;> cases g2 : decide (p.kind ≤ 2)
        all_goals
          refine XCal.of hm Tryz.func55 rfl (fun xs w => Tryz.call55 xs w) Tryz.ntmps55 Tryz.results55 rfl ?_
          simp only [go_sem, Nat.reduceEqDiff, Nat.reduceAdd, Nat.reduceSub, Nat.reduceMul, Nat.reduceLT, Nat.reduceLeDiff, Int.reducePow, Int.reduceBEq, Int.reduceBNe, Int.reduceDiv, Int.reduceMod, Int.reduceEq, Int.reduceLT, Int.reduceLE, Int.reduceAdd, Int.reduceSub, Int.reduceMul, Int.reduceNeg, Int.reduceToNat, Int.reduceTDiv, Int.reduceTMod, ↓reduceIte, pntV, g1, g2]
          repeat ((first | refine (pnear_ _ _).x ?_ | refine drawnF ?_ (by decide +kernel)); (refine sg (et h1 (et h2 (et h3 (et g1 g2)))) ?_; try exact ⟨⟩))
      | true =>
        cases h4 : nearB p.q.2 with
        | false =>
          cases g1 : decide (0 ≤ p.kind) <;> cases g2 : decide (p.kind ≤ 2)
          all_goals
            refine XCal.of hm Tryz.func55 rfl (fun xs w => Tryz.call55 xs w) Tryz.ntmps55 Tryz.results55 rfl ?_
            simp only [go_sem, Nat.reduceEqDiff, Nat.reduceAdd, Nat.reduceSub, Nat.reduceMul, Nat.reduceLT, Nat.reduceLeDiff, Int.reducePow, Int.reduceBEq, Int.reduceBNe, Int.reduceDiv, Int.reduceMod, Int.reduceEq, Int.reduceLT, Int.reduceLE, Int.reduceAdd, Int.reduceSub, Int.reduceMul, Int.reduceNeg, Int.reduceToNat, Int.reduceTDiv, Int.reduceTMod, ↓reduceIte, pntV, g1, g2]
            repeat ((first | refine (pnear_ _ _).x ?_ | refine drawnF ?_ (by decide +kernel)); (refine sg (et h1 (et h2 (et h3 (et h4 (et g1 g2))))) ?_; try exact ⟨⟩))
        | true =>
          cases g1 : decide (0 ≤ p.kind) <;> cases g2 : decide (p.kind ≤ 2)
          all_goals
            refine XCal.of hm Tryz.func55 rfl (fun xs w => Tryz.call55 xs w) Tryz.ntmps55 Tryz.results55 rfl ?_
            simp only [go_sem, Nat.reduceEqDiff, Nat.reduceAdd, Nat.reduceSub, Nat.reduceMul, Nat.reduceLT, Nat.reduceLeDiff, Int.reducePow, Int.reduceBEq, Int.reduceBNe, Int.reduceDiv, Int.reduceMod, Int.reduceEq, Int.reduceLT, Int.reduceLE, Int.reduceAdd, Int.reduceSub, Int.reduceMul, Int.reduceNeg, Int.reduceToNat, Int.reduceTDiv, Int.reduceTMod, ↓reduceIte, pntV, g1, g2]
            repeat ((first | refine (pnear_ _ _).x ?_ | refine drawnF ?_ (by decide +kernel)); (refine sg (et h1 (et h2 (et h3 (et h4 (et g1 g2))))) ?_; try exact ⟨⟩))
end Go.Proofs.YtnebnbdeobcegaaGreat
/- Documents: the walks of what judges paths of keys, shapes. -/
namespace Go.Proofs.YtnebnbdeobcegaaGreat
open Go Go.RowKit E
attribute [local irreducible] XRun XOps XCode XCal XLoop XQ SemCall
set_option linter.unusedSimpArgs false
set_option linter.unusedVariables false
theorem ald_two {cells : List Value} {o b g : Nat} {rw_ : Bool} {x y : Value} (h1 : cells[o]? = some x) (h2 : cells[o + 1]? = some y) : ald (some true) (some 2) (some ⟨cells, g, rw_⟩) b o g = some (.agg [x, y].toArray, b) := by
  have l2 := (List.getElem?_eq_some_iff.1 h2)
  have l1 := (List.getElem?_eq_some_iff.1 h1)
  have e : cells.drop o = x :: y :: cells.drop (o + 2) := by
    rw [List.drop_eq_getElem_cons l1.1, List.drop_eq_getElem_cons l2.1, l1.2, l2.2]
  have : o + 2 ≤ cells.length := by have := l2.1; omega
  simp only [ald, true_and, this, if_true]
  rw [e]; rfl
theorem fits_ (p q : PL) (pv qv : Value) (H : AH) (hp : Pts H pv p.2) (hq : Pts H qv q.2) : SemCall Tryz.prog 115 [.agg [.bool p.1, pv].toArray, .agg [.bool q.1, qv].toArray] H (.bool (fitsB p q)) H [] := by
  refine pure_of ?_ rfl
  obtain ⟨a1, e1, rfl⟩ := hp.form
  obtain ⟨a2, e2, rfl⟩ := hq.form
  unfold fitsB
  by_cases hl : (p.2.length : Int) = (q.2.length : Int)
  · rw [dt hl, Bool.true_and]
    refine XCal.of hm Tryz.func115 rfl (fun xs w => Tryz.call115 xs w) Tryz.ntmps115 Tryz.results115 rfl ?_
    (refine sg (bt hl) ?_; try exact ⟨⟩)
  · rw [df hl, Bool.false_and]
    refine XCal.of hm Tryz.func115 rfl (fun xs w => Tryz.call115 xs w) Tryz.ntmps115 Tryz.results115 rfl ?_
    (refine sg (bf hl) ?_; try exact ⟨⟩)
set_option maxHeartbeats 4000000 in
theorem pkeys_ (l : List Pk) (v : Value) (H : AH) (h : Pks H v l) : SemCall Tryz.prog 106 [v] H (.bool (pksB l)) H [] := by
  refine pure_of ?_ rfl
  have hlen := h.len
  obtain ⟨va, ve, hv⟩ := h.form
  subst hv
  refine XCal.of hm Tryz.func106 rfl (fun xs w => Tryz.call106 xs w) Tryz.ntmps106 Tryz.results106 rfl ?_
  (refine sg trivial ?_; try exact ⟨⟩)
  obtain ⟨z, hz⟩ : ∃ z, (l[0]?).elim (false, []) (·.p) = z := ⟨_, rfl⟩
  have hB : pksB l = (pksGo z true 0 l && decide ((l.length : Int) ≤ 32)) := by unfold pksB; rw [hz]
  refine keep (fun k T K D => D = [] ∧ ∃ (i : Nat) (a : Int), i + k = l.length ∧ Old H K ∧ H.length ≤ K.length ∧ pksB l = (pksGo z (decide (i = 0)) a (l.drop i) && decide ((l.length : Int) ≤ 32)) ∧ T 0 = .slice va l.length ve ∧ T 3 = .int .i64 a ∧ T 6 = .slice va l.length ve ∧ T 7 = .int .i64 (l.length : Int) ∧ T 8 = .int .i64 (i : Int)) l.length
    ⟨rfl, 0, 0, by omega, Old.refl _, by omega, hB, by (refine sg trivial ?_; try exact ⟨⟩), by (refine sg trivial ?_; try exact ⟨⟩) <;> rfl, by (refine sg trivial ?_; try exact ⟨⟩), by (refine sg trivial ?_; try exact ⟨⟩), by (refine sg trivial ?_; try exact ⟨⟩) <;> rfl⟩ ?_
  clear hB
  rintro k T K D ⟨rfl, i, a, hik, hold, hKl, hr, t0, t3, t6, t7, t8⟩
  have kd : ∀ n, decide (K.length + n < H.length) = false := fun n => df (by omega)
  have kd0 : decide (K.length < H.length) = false := df (by omega)
  by_cases hk : i < l.length
  · obtain ⟨x, hx⟩ : ∃ x, l[i]? = some x := ⟨_, List.getElem?_eq_getElem hk⟩
    obtain ⟨y, hy⟩ : ∃ y, l[0]? = some y := ⟨_, List.getElem?_eq_getElem (by omega)⟩
    obtain ⟨b, g, cells, rw_, c, hve, hb, ⟨pv, hc, hp⟩, hcl, hle, hld, hgt⟩ := h.at hx
    subst hc
    obtain ⟨b', g', cells', rw', c', hve', hb', ⟨qv, hc', hq⟩, hcl', hle', hld', hgt'⟩ := h.at hy
    subst hc'
    rw [hve] at hve'
    cases hve'
    rw [hb] at hb'
    cases hb'
    rw [hy] at hz
    have hz : y.p = z := hz
    have kb := hold _ _ hb
    have l1 := hgt' 1 (by omega)
    have l2 := hgt' 2 (by omega)
    rw [Nat.zero_mul, Nat.zero_add] at l1 l2
    have l12 := fun c : Nat => ald_two (b := c) (g := g) (rw_ := rw_) (o := 1) (x := .bool y.p.1) (y := qv) l1 l2
    have hpk := (hp.old hold).app [⟨[.int .i64 x.t, .bool x.p.1, pv, .int .i64 x.how, .int .i64 x.e.x1, .int .i64 x.e.y1, .int .i64 x.e.x2, .int .i64 x.e.y2], 0, true⟩]
    have hqk := (hq.old hold).app [⟨[.int .i64 x.t, .bool x.p.1, pv, .int .i64 x.how, .int .i64 x.e.x1, .int .i64 x.e.y1, .int .i64 x.e.x2, .int .i64 x.e.y2], 0, true⟩]
    rw [drop_at hx] at hr
    simp only [pksGo] at hr
    rw [hve] at t0 t6
    have q0 : (0 : Int) ≤ (i : Int) := by omega
    have q1 : (i : Int) < (l.length : Int) := by omega
    have q2 : (0 : Int) < (l.length : Int) := by omega
    have w1 : IntKind.i64.wrap ((i : Int) + 1) = ((i + 1 : Nat) : Int) := by rw [wi (by omega) (by omega)]; rfl
    have ks := fun H => kstep_ i a x.t x.how x.e H
    have k2 := empty_ x.p.1 x.p.2 pv _ hpk
    have k3 := right_ x.p.1 x.p.2 pv _ hpk
    have k4 := fits_ x.p y.p pv qv _ hpk hqk
    rw [show fitsB x.p y.p = fitsB x.p z by rw [hz]] at k4
    have he : ((x.p.2.length : Int) == 0) = decide ((x.p.2.length : Int) = 0) := rfl
    rw [he] at k2
    generalize decide ((x.p.2.length : Int) = 0) = E1 at *
    generalize kstB (decide (i = 0)) a x.t x.how x.e = E0 at *
    generalize rightB x.p.1 x.p.2 = E2 at *
    generalize fitsB x.p z = E3 at *
    cases E0
    case' true => cases E1
    case' true.false => cases E2
    case' true.false.true => cases E3
    all_goals
      (refine sg (et t0 (et t3 (et t6 (et t7 (et t8 (et (dt q1) (et q0 (et q1 (et Int.toNat_natCast (et Nat.zero_add (et kb (et hld (et kd kd0))))))))))))) ?_; try exact ⟨⟩)
      repeat ((first | refine (ks _).x ?_ | refine (k2).x ?_ | refine (k3).x ?_ | refine (k4).x ?_ | refine drawnF ?_ (by decide +kernel)); simp only [go_sem, Nat.reduceEqDiff, Nat.reduceAdd, Nat.reduceSub, Nat.reduceMul, Nat.reduceLT, Nat.reduceLeDiff, Int.reducePow, Int.reduceBEq, Int.reduceBNe, Int.reduceDiv, Int.reduceMod, Int.reduceEq, Int.reduceLT, Int.reduceLE, Int.reduceAdd, Int.reduceSub, Int.reduceMul, Int.reduceNeg, Int.reduceToNat, Int.reduceTDiv, Int.reduceTMod, ↓reduceIte, kd, kd0, t0, t3, t6, t7, t8, q0, q1, q2, w1, old_get kb, l12, Int.toNat_natCast, Int.reduceToNat, Nat.zero_add, Nat.zero_mul, Bool.not_true, Bool.not_false])
    all_goals
      first | (rw [hr]; rfl) | exact ⟨k - 1, by omega, i + 1, x.t, by omega, hold.app _, by omega, by rw [df (show ¬ i + 1 = 0 by omega)]; exact hr, hve.symm, rfl, hve.symm, rfl⟩
  · have hi : i = l.length := by omega
    subst hi
    rw [List.drop_eq_nil_of_le (by omega)] at hr
    simp only [go_sem, Nat.reduceEqDiff, Nat.reduceAdd, Nat.reduceSub, Nat.reduceMul, Nat.reduceLT, Nat.reduceLeDiff, Int.reducePow, Int.reduceBEq, Int.reduceBNe, Int.reduceDiv, Int.reduceMod, Int.reduceEq, Int.reduceLT, Int.reduceLE, Int.reduceAdd, Int.reduceSub, Int.reduceMul, Int.reduceNeg, Int.reduceToNat, Int.reduceTDiv, Int.reduceTMod, ↓reduceIte, t0, t3, t6, t7, t8, df (show ¬ ((l.length : Nat) : Int) < (l.length : Int) by omega)]
    rw [hr]; rfl
end Go.Proofs.YtnebnbdeobcegaaGreat
