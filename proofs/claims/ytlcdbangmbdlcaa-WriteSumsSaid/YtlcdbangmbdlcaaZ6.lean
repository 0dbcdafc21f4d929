/- Merged texts: Roe Ol Data Spec Doc1 Ink1 Ink2 Ink3 Doc2 Doc3. -/
import Derived.Test.YtlcdbangmbdlcaaZ5
/- Rows in blocks, of anything; rows that are being made. -/
namespace Go.Proofs.Ytlcdbangmbdlcaa
open Go Go.RowKit E
set_option linter.unusedSimpArgs false
set_option linter.unusedVariables false
/-- A row of things, each of s cells. -/
def RowOf {α : Type} (s : Nat) (E : AH → List Value → α → Prop) (K : AH) (v : Value) (l : List α) : Prop :=
  (l = [] ∧ ((∃ e, v = .slice (some ⟨0, 0, none⟩) 0 e) ∨ v = .slice none 0 0)) ∨
  ∃ b g rest rw_, ∃ cs : List (List Value), v = sl b 0 g l.length s ∧ K[b]? = some ⟨cs.flatten ++ rest, g, rw_⟩ ∧ cs.length = l.length ∧ l.length ≤ 9223372036854775807 ∧
    ∀ (i : Nat) x, l[i]? = some x → ∃ c, cs[i]? = some c ∧ c.length = s ∧ E K c x
/-- What holds of things in blocks, holds where these stand. -/
def Mono {α : Type} (E : AH → List Value → α → Prop) : Prop := ∀ K J c x, Old K J → E K c x → E J c x
theorem RowOf.old {α : Type} {s : Nat} {E : AH → List Value → α → Prop} {K J : AH} {v : Value} {l : List α} (h : RowOf s E K v l) (m : Mono E) (o : Old K J) : RowOf s E J v l := by
  rcases h with h | ⟨b, g, rest, rw_, cs, h1, h2, h3, h4, h5⟩
  · exact .inl h
  · exact .inr ⟨b, g, rest, rw_, cs, h1, o _ _ h2, h3, h4, fun i x hx => by obtain ⟨c, e1, e2, e3⟩ := h5 i x hx; exact ⟨c, e1, e2, m _ _ _ _ o e3⟩⟩
theorem RowOf.mono {α : Type} {s : Nat} {E : AH → List Value → α → Prop} (m : Mono E) : Mono (fun K (c : List Value) (l : List α) => ∃ v, c = [v] ∧ RowOf s E K v l) := fun K J c x o h => by
  obtain ⟨v, h1, h2⟩ := h; exact ⟨v, h1, h2.old m o⟩
theorem RowOf.form {α : Type} {s : Nat} {E : AH → List Value → α → Prop} {K : AH} {v : Value} {l : List α} (h : RowOf s E K v l) : ∃ a e, v = .slice a l.length e := by
  rcases h with ⟨rfl, ⟨e, rfl⟩ | rfl⟩ | ⟨b, g, rest, rw_, cs, rfl, _⟩
  · exact ⟨_, _, rfl⟩
  · exact ⟨_, _, rfl⟩
  · exact ⟨_, _, rfl⟩
theorem RowOf.len {α : Type} {s : Nat} {E : AH → List Value → α → Prop} {K : AH} {v : Value} {l : List α} (h : RowOf s E K v l) : l.length ≤ 9223372036854775807 := by
  rcases h with ⟨rfl, _⟩ | ⟨b, g, rest, rw_, cs, _, _, _, h, _⟩
  · simp
  · exact h
theorem flatten_len {s : Nat} : ∀ {cs : List (List Value)}, (∀ c ∈ cs, c.length = s) → cs.flatten.length = cs.length * s
  | [], _ => by simp
  | c :: cs, h => by
    rw [List.flatten_cons, List.length_append, flatten_len (fun d hd => h d (by simp [hd])), h c (by simp), List.length_cons, Nat.add_mul]; omega
theorem flatten_drop {s : Nat} : ∀ {cs : List (List Value)} {i : Nat} {c : List Value}, (∀ c ∈ cs, c.length = s) → cs[i]? = some c → cs.flatten.drop (i * s) = c ++ (cs.drop (i + 1)).flatten
  | [], i, c, _, hi => by simp at hi
  | d :: cs, 0, c, h, hi => by simp at hi; subst hi; simp
  | d :: cs, i + 1, c, h, hi => by
    have := flatten_drop (s := s) (cs := cs) (i := i) (fun d hd => h d (by simp [hd])) (by simpa using hi)
    have hd := h d (by simp)
    rw [List.flatten_cons, Nat.add_mul, Nat.one_mul, Nat.add_comm, ← List.drop_drop, ← hd, List.drop_left, hd, this]; rfl
theorem RowOf.all {s : Nat} {α : Type} {P : List Value → α → Prop} {cs : List (List Value)} {l : List α} (hl : cs.length = l.length) (h : ∀ (i : Nat) x, l[i]? = some x → ∃ c, cs[i]? = some c ∧ c.length = s ∧ P c x) : ∀ c ∈ cs, c.length = s := fun c hc => by
  obtain ⟨i, hi⟩ := List.getElem?_of_mem hc
  have hil : i < l.length := by have := (List.getElem?_eq_some_iff.1 hi).1; omega
  obtain ⟨c', e1, e2, _⟩ := h i l[i] (List.getElem?_eq_getElem hil)
  rw [hi] at e1; cases e1; exact e2
/-- One of a row: its block, its cells, how it is read. -/
theorem RowOf.at {α : Type} {s : Nat} {E : AH → List Value → α → Prop} {K : AH} {v : Value} {l : List α} (h : RowOf s E K v l) {i : Nat} {x : α} (hx : l[i]? = some x) :
    ∃ b g cells rw_ c, v = sl b 0 g l.length s ∧ K[b]? = some ⟨cells, g, rw_⟩ ∧ E K c x ∧ c.length = s ∧ l.length * s ≤ cells.length ∧ (∀ b', ald (some true) (some s) (some ⟨cells, g, rw_⟩) b' (i * s) g = some (.agg c.toArray, b')) ∧ ∀ j, j < s → cells[i * s + j]? = c[j]? := by
  have hi := (List.getElem?_eq_some_iff.1 hx).1
  rcases h with ⟨rfl, _⟩ | ⟨b, g, rest, rw_, cs, h1, h2, h3, h4, h5⟩
  · simp at hx
  · obtain ⟨c, e1, e2, e3⟩ := h5 i x hx
    have hall := RowOf.all h3 h5
    have hfl := flatten_len hall
    have hdr := flatten_drop hall e1
    have hb : i * s + s ≤ cs.flatten.length := by
      rw [hfl, h3]
      have : (i + 1) * s ≤ l.length * s := Nat.mul_le_mul_right s hi
      rw [Nat.add_mul, Nat.one_mul] at this; exact this
    refine ⟨b, g, _, rw_, c, h1, h2, e3, e2, by rw [List.length_append, hfl, h3]; omega, fun b' => ?_, fun j hj => ?_⟩
    · have : i * s + s ≤ (cs.flatten ++ rest).length := by rw [List.length_append]; omega
      simp only [ald, true_and, this, if_true]
      rw [List.drop_append_of_le_length (by omega), hdr, List.append_assoc, ← e2, List.take_left]
    · rw [List.getElem?_append_left (by omega), ← List.getElem?_drop, hdr, List.getElem?_append_left (by omega)]
/-- What hangs on blocks from n0 on alone. -/
def Dep (n0 : Nat) (K : AH) (Φ : AH → Prop) : Prop := ∀ J, (∀ (c : Nat) (k : Blk), n0 ≤ c → K[c]? = some k → J[c]? = some k) → Φ J
/-- And not on block b. -/
def Dex (n0 b : Nat) (K : AH) (Φ : AH → Prop) : Prop := ∀ J, (∀ (c : Nat) (k : Blk), n0 ≤ c → c ≠ b → K[c]? = some k → J[c]? = some k) → Φ J
theorem Dep.here {n0 : Nat} {K : AH} {Φ : AH → Prop} (h : Dep n0 K Φ) : Φ K := h K fun _ _ _ e => e
theorem Dep.old {n0 : Nat} {K J : AH} {Φ : AH → Prop} (h : Dep n0 K Φ) (o : Old K J) : Dep n0 J Φ := fun J' h' => h J' fun c k hc e => h' c k hc (o c k e)
theorem Dep.low {n0 n1 : Nat} {K : AH} {Φ : AH → Prop} (h : Dep n0 K Φ) (hn : n1 ≤ n0) : Dep n1 K Φ := fun J h' => h J fun c k hc e => h' c k (by omega) e
theorem Dep.olx {n0 b : Nat} {K J : AH} {Φ : AH → Prop} (h : Dep n0 K Φ) (o : Olx b K J) (hb : b < n0) : Dep n0 J Φ := fun J' h' => h J' fun c k hc e => h' c k hc (o c k (by omega) e)
theorem Dep.map {n0 : Nat} {K : AH} {Φ Ψ : AH → Prop} (h : Dep n0 K Φ) (m : ∀ J, Φ J → Ψ J) : Dep n0 K Ψ := fun J h' => m J (h J h')
theorem Dep.and {n0 : Nat} {K : AH} {Φ Ψ : AH → Prop} (h : Dep n0 K Φ) (h' : Dep n0 K Ψ) : Dep n0 K (fun J => Φ J ∧ Ψ J) := fun J k => ⟨h J k, h' J k⟩
theorem Dep.pure {n0 : Nat} {K : AH} {p : Prop} (h : p) : Dep n0 K (fun _ => p) := fun _ _ => h
theorem Dex.olx {n0 b : Nat} {K J : AH} {Φ : AH → Prop} (h : Dex n0 b K Φ) (o : Olx b K J) : Dex n0 b J Φ := fun J' h' => h J' fun c k hc hb e => h' c k hc hb (o c k hb e)
theorem Dex.olt {n0 b t : Nat} {K J : AH} {Φ : AH → Prop} (h : Dex n0 b K Φ) (o : Olx t K J) (ht : t < n0) : Dex n0 b J Φ := fun J' h' => h J' fun c k hc hb e => h' c k hc hb (o c k (by omega) e)
theorem Dex.dep {n0 b : Nat} {K : AH} {Φ : AH → Prop} (h : Dex n0 b K Φ) : Dep n0 K Φ := fun J h' => h J fun c k hc _ e => h' c k hc e
theorem Dep.dex {n0 n1 b : Nat} {K : AH} {Φ : AH → Prop} (h : Dep n1 K Φ) (hn : n0 ≤ n1) (hb : b < n1 ∨ K.length ≤ b) : Dex n0 b K Φ := fun J h' => h J fun c k hc e => h' c k (by omega) (by have := (List.getElem?_eq_some_iff.1 e).1; omega) e
/-- A row that is being made, in a block from n0 on. -/
def MkRow {α : Type} (s : Nat) (E : AH → List Value → α → Prop) (n0 : Nat) (K : AH) (v : Value) (l : List α) : Prop :=
  (l = [] ∧ v = .slice none 0 0) ∨
  ∃ b g, ∃ cs : List (List Value), n0 ≤ b ∧ v = sl b 0 g l.length s ∧ K[b]? = some ⟨cs.flatten, g, true⟩ ∧ cs.length = l.length ∧
    ∀ (i : Nat) x, l[i]? = some x → ∃ c, cs[i]? = some c ∧ c.length = s ∧ Dex n0 b K (fun J => E J c x)
theorem MkRow.dep {α : Type} {s : Nat} {E : AH → List Value → α → Prop} {n0 : Nat} {K : AH} {v : Value} {l : List α} (h : MkRow s E n0 K v l) (hl : l.length ≤ 9223372036854775807) : Dep n0 K (fun J => RowOf s E J v l) := by
  rcases h with ⟨rfl, rfl⟩ | ⟨b, g, cs, h0, h1, h2, h3, h4⟩
  · exact fun J _ => .inl ⟨rfl, .inr rfl⟩
  · exact fun J hJ => .inr ⟨b, g, [], true, cs, h1, by rw [List.append_nil]; exact hJ _ _ h0 h2, h3, hl, fun i x hx => by obtain ⟨c, e1, e2, e3⟩ := h4 i x hx; exact ⟨c, e1, e2, e3.dep J hJ⟩⟩
theorem MkRow.low {α : Type} {s : Nat} {E : AH → List Value → α → Prop} {n0 n1 : Nat} {K : AH} {v : Value} {l : List α} (h : MkRow s E n0 K v l) (hn : n1 ≤ n0) : MkRow s E n1 K v l := by
  rcases h with h | ⟨b, g, cs, h0, h1, h2, h3, h4⟩
  · exact .inl h
  · exact .inr ⟨b, g, cs, by omega, h1, h2, h3, fun i x hx => by obtain ⟨c, e1, e2, e3⟩ := h4 i x hx; exact ⟨c, e1, e2, fun J hJ => e3 J fun c k hc hb e => hJ c k (by omega) hb e⟩⟩
theorem MkRow.old {α : Type} {s : Nat} {E : AH → List Value → α → Prop} {n0 : Nat} {K J : AH} {v : Value} {l : List α} (h : MkRow s E n0 K v l) (o : Old K J) : MkRow s E n0 J v l := by
  rcases h with h | ⟨b, g, cs, h0, h1, h2, h3, h4⟩
  · exact .inl h
  · exact .inr ⟨b, g, cs, h0, h1, o _ _ h2, h3, fun i x hx => by obtain ⟨c, e1, e2, e3⟩ := h4 i x hx; exact ⟨c, e1, e2, e3.olx (Olx.old o)⟩⟩
theorem MkRow.olt {α : Type} {s : Nat} {E : AH → List Value → α → Prop} {n0 t : Nat} {K J : AH} {v : Value} {l : List α} (h : MkRow s E n0 K v l) (o : Olx t K J) (ht : t < n0) : MkRow s E n0 J v l := by
  rcases h with h | ⟨b, g, cs, h0, h1, h2, h3, h4⟩
  · exact .inl h
  · exact .inr ⟨b, g, cs, h0, h1, o _ _ (by omega) h2, h3, fun i x hx => by obtain ⟨c, e1, e2, e3⟩ := h4 i x hx; exact ⟨c, e1, e2, e3.olt o ht⟩⟩
theorem MkRow.form {α : Type} {s : Nat} {E : AH → List Value → α → Prop} {n0 : Nat} {K : AH} {v : Value} {l : List α} (h : MkRow s E n0 K v l) : ∃ a e, v = .slice a l.length e := by
  rcases h with ⟨rfl, rfl⟩ | ⟨b, g, cs, _, rfl, _⟩
  · exact ⟨_, _, rfl⟩
  · exact ⟨_, _, rfl⟩
/-- The first of a row that is being made. -/
theorem MkRow.first {α : Type} {s : Nat} {E : AH → List Value → α → Prop} {n0 : Nat} {J : AH} {x : α} {c : List Value} {b g : Nat} (hc : Dex n0 b J (fun J => E J c x)) (hl : c.length = s) (hb : J[b]? = some ⟨c, g, true⟩) (hn : n0 ≤ b) : MkRow s E n0 J (sl b 0 g 1 s) [x] :=
  .inr ⟨b, g, [c], hn, rfl, by simpa using hb, rfl, fun i y hy => by
    cases i with
    | zero => simp at hy; subst hy; exact ⟨c, rfl, hl, hc⟩
    | succ i => simp at hy⟩
/-- One more of a row that is being made. -/
theorem MkRow.next {α : Type} {s : Nat} {E : AH → List Value → α → Prop} {n0 : Nat} {K J : AH} {l : List α} {x : α} {c : List Value} {b g' : Nat} {cs : List (List Value)} (h0 : n0 ≤ b) (h3 : cs.length = l.length)
    (h4 : ∀ (i : Nat) x, l[i]? = some x → ∃ c, cs[i]? = some c ∧ c.length = s ∧ Dex n0 b K (fun J => E J c x)) (o : Olx b K J) (hc : Dex n0 b J (fun J => E J c x)) (hl : c.length = s) (hb : J[b]? = some ⟨cs.flatten ++ c, g', true⟩) : MkRow s E n0 J (sl b 0 g' (l.length + 1) s) (l ++ [x]) :=
  .inr ⟨b, g', cs ++ [c], h0, by rw [List.length_append]; rfl, by rw [List.flatten_append, List.flatten_singleton]; exact hb, by rw [List.length_append, List.length_append, h3]; rfl, fun i y hy => by
    by_cases hi : i < l.length
    · rw [List.getElem?_append_left hi] at hy
      rw [List.getElem?_append_left (by omega)]
      obtain ⟨d, e1, e2, e3⟩ := h4 i y hy
      exact ⟨d, e1, e2, e3.olx o⟩
    · rw [List.getElem?_append_right (by omega)] at hy
      rw [List.getElem?_append_right (by omega), h3]
      have : i - l.length = 0 := by have := (List.getElem?_eq_some_iff.1 hy).1; simp at this; omega
      rw [this] at hy ⊢
      simp at hy; subst hy
      exact ⟨c, rfl, hl, hc⟩⟩
theorem RowOf.none {α : Type} {s : Nat} {E : AH → List Value → α → Prop} {K : AH} : RowOf s E K (.slice none 0 0) [] := .inl ⟨rfl, .inr rfl⟩
end Go.Proofs.Ytlcdbangmbdlcaa
/- Heaps that differ at some blocks. -/
namespace Go.Proofs.Ytlcdbangmbdlcaa
open Go Go.RowKit E
/-- Blocks beside p stand. -/
def OlP (p : Nat → Prop) (K J : AH) : Prop := ∀ (c : Nat) (k : Blk), ¬ p c → K[c]? = some k → J[c]? = some k
theorem OlP.refl (p : Nat → Prop) (K : AH) : OlP p K K := fun _ _ _ h => h
theorem OlP.old {p : Nat → Prop} {K J : AH} (o : Old K J) : OlP p K J := fun c k _ e => o c k e
theorem take_snoc {α : Type} {l : List α} {i : Nat} {x : α} (h : l[i]? = some x) : l.take (i + 1) = l.take i ++ [x] := by
  obtain ⟨hi, rfl⟩ := List.getElem?_eq_some_iff.1 h
  rw [List.take_append_getElem hi]
end Go.Proofs.Ytlcdbangmbdlcaa
/- Documents as plain data. -/
namespace Go.Proofs.Ytlcdbangmbdlcaa
open Go Go.RowKit E
set_option linter.unusedSimpArgs false
set_option linter.unusedVariables false
structure Ez where
  x1 : Int
  y1 : Int
  x2 : Int
  y2 : Int
structure Ky where
  t : Int
  v : Int
  how : Int
  e : Ez
structure Pk where
  t : Int
  p : PL
  how : Int
  e : Ez
structure C4 where
  r : Int
  g : Int
  b : Int
  a : Int
structure Ck where
  t : Int
  c : C4
  how : Int
  e : Ez
structure Pnt where
  kind : Int
  a : C4
  b : C4
  p : Pt
  q : Pt
  r : Int
structure Sh where
  form : Int
  n : Int
  w : List Ky
  h : List Ky
  paths : List Pk
  fill : Bool
  rule : Int
  paint : Pnt
  colors : List Ck
  stroke : Bool
  width : List Ky
  line : C4
  cap : Int
  dash : List Int
  frm : List Ky
  to : List Ky
structure Ly where
  kind : Int
  parent : Int
  comp : Int
  matte : Int
  in_ : Int
  out : Int
  start : Int
  x : List Ky
  y : List Ky
  ax : List Ky
  ay : List Ky
  sx : List Ky
  sy : List Ky
  turn : List Ky
  opac : List Ky
  remap : List Ky
  mask : PL
  shape : Sh
structure Dc where
  in_ : Int
  out : Int
  comps : List (List Ly)
abbrev ezC (e : Ez) : List Value := [.int .i64 e.x1, .int .i64 e.y1, .int .i64 e.x2, .int .i64 e.y2]
abbrev c4C (c : C4) : List Value := [.int .u8 c.r, .int .u8 c.g, .int .u8 c.b, .int .u8 c.a]
abbrev kyC (k : Ky) : List Value := [.int .i64 k.t, .int .i64 k.v, .int .i64 k.how, .int .i64 k.e.x1, .int .i64 k.e.y1, .int .i64 k.e.x2, .int .i64 k.e.y2]
abbrev ckC (k : Ck) : List Value := [.int .i64 k.t, .int .u8 k.c.r, .int .u8 k.c.g, .int .u8 k.c.b, .int .u8 k.c.a, .int .i64 k.how, .int .i64 k.e.x1, .int .i64 k.e.y1, .int .i64 k.e.x2, .int .i64 k.e.y2]
abbrev pntC (p : Pnt) : List Value := [.int .i64 p.kind, .int .u8 p.a.r, .int .u8 p.a.g, .int .u8 p.a.b, .int .u8 p.a.a, .int .u8 p.b.r, .int .u8 p.b.g, .int .u8 p.b.b, .int .u8 p.b.a, .int .i64 p.p.1, .int .i64 p.p.2, .int .i64 p.q.1, .int .i64 p.q.2, .int .i64 p.r]
def KyE (_ : AH) (c : List Value) (k : Ky) : Prop := c = kyC k
def CkE (_ : AH) (c : List Value) (k : Ck) : Prop := c = ckC k
def InE (_ : AH) (c : List Value) (k : Int) : Prop := c = [.int .i64 k]
def PkE (K : AH) (c : List Value) (k : Pk) : Prop := ∃ pv, c = [.int .i64 k.t, .bool k.p.1, pv, .int .i64 k.how, .int .i64 k.e.x1, .int .i64 k.e.y1, .int .i64 k.e.x2, .int .i64 k.e.y2] ∧ Pts K pv k.p.2
abbrev Kys (K : AH) (v : Value) (l : List Ky) : Prop := RowOf 7 KyE K v l
abbrev Cks (K : AH) (v : Value) (l : List Ck) : Prop := RowOf 10 CkE K v l
abbrev Ins (K : AH) (v : Value) (l : List Int) : Prop := RowOf 1 InE K v l
abbrev Pks (K : AH) (v : Value) (l : List Pk) : Prop := RowOf 8 PkE K v l
theorem KyE.m : Mono KyE := fun _ _ _ _ _ h => h
theorem CkE.m : Mono CkE := fun _ _ _ _ _ h => h
theorem InE.m : Mono InE := fun _ _ _ _ _ h => h
theorem PkE.m : Mono PkE := fun _ _ _ _ o ⟨pv, h1, h2⟩ => ⟨pv, h1, h2.old o⟩
/-- A shape's cells. -/
abbrev shC (s : Sh) (vw vh vp vc vd vda vf vt : Value) : List Value :=
  [.int .i64 s.form, .int .i64 s.n, vw, vh, vp, .bool s.fill, .int .i64 s.rule, .int .i64 s.paint.kind, .int .u8 s.paint.a.r, .int .u8 s.paint.a.g, .int .u8 s.paint.a.b, .int .u8 s.paint.a.a, .int .u8 s.paint.b.r, .int .u8 s.paint.b.g, .int .u8 s.paint.b.b, .int .u8 s.paint.b.a,
    .int .i64 s.paint.p.1, .int .i64 s.paint.p.2, .int .i64 s.paint.q.1, .int .i64 s.paint.q.2, .int .i64 s.paint.r, vc, .bool s.stroke, vd, .int .u8 s.line.r, .int .u8 s.line.g, .int .u8 s.line.b, .int .u8 s.line.a, .int .i64 s.cap, vda, vf, vt]
/-- A shape's rows. -/
structure ShV (K : AH) (s : Sh) (vw vh vp vc vd vda vf vt : Value) : Prop where
  w : Kys K vw s.w
  h : Kys K vh s.h
  paths : Pks K vp s.paths
  colors : Cks K vc s.colors
  width : Kys K vd s.width
  dash : Ins K vda s.dash
  frm : Kys K vf s.frm
  to : Kys K vt s.to
theorem ShV.old {K J : AH} {s : Sh} {a b c d e f g h : Value} (k : ShV K s a b c d e f g h) (o : Old K J) : ShV J s a b c d e f g h :=
  ⟨k.w.old KyE.m o, k.h.old KyE.m o, k.paths.old PkE.m o, k.colors.old CkE.m o, k.width.old KyE.m o, k.dash.old InE.m o, k.frm.old KyE.m o, k.to.old KyE.m o⟩
/-- A layer's cells. -/
abbrev lyC (l : Ly) (v0 v1 v2 v3 v4 v5 v6 v7 v8 pm : Value) (sh : List Value) : List Value :=
  .int .i64 l.kind :: .int .i64 l.parent :: .int .i64 l.comp :: .int .i64 l.matte :: .int .i64 l.in_ :: .int .i64 l.out :: .int .i64 l.start :: v0 :: v1 :: v2 :: v3 :: v4 :: v5 :: v6 :: v7 :: v8 :: .bool l.mask.1 :: pm :: sh
/-- A layer's rows. -/
structure LyV (K : AH) (l : Ly) (v0 v1 v2 v3 v4 v5 v6 v7 v8 pm : Value) : Prop where
  x : Kys K v0 l.x
  y : Kys K v1 l.y
  ax : Kys K v2 l.ax
  ay : Kys K v3 l.ay
  sx : Kys K v4 l.sx
  sy : Kys K v5 l.sy
  turn : Kys K v6 l.turn
  opac : Kys K v7 l.opac
  remap : Kys K v8 l.remap
  mask : Pts K pm l.mask.2
theorem LyV.old {K J : AH} {l : Ly} {a b c d e f g h i j : Value} (k : LyV K l a b c d e f g h i j) (o : Old K J) : LyV J l a b c d e f g h i j :=
  ⟨k.x.old KyE.m o, k.y.old KyE.m o, k.ax.old KyE.m o, k.ay.old KyE.m o, k.sx.old KyE.m o, k.sy.old KyE.m o, k.turn.old KyE.m o, k.opac.old KyE.m o, k.remap.old KyE.m o, k.mask.old o⟩
def LyE (K : AH) (c : List Value) (l : Ly) : Prop := ∃ v0 v1 v2 v3 v4 v5 v6 v7 v8 pm vw vh vp vc vd vda vf vt, c = lyC l v0 v1 v2 v3 v4 v5 v6 v7 v8 pm (shC l.shape vw vh vp vc vd vda vf vt) ∧ LyV K l v0 v1 v2 v3 v4 v5 v6 v7 v8 pm ∧ ShV K l.shape vw vh vp vc vd vda vf vt
theorem LyE.m : Mono LyE := fun _ _ _ _ o ⟨v0, v1, v2, v3, v4, v5, v6, v7, v8, pm, vw, vh, vp, vc, vd, vda, vf, vt, h1, h2, h3⟩ => ⟨v0, v1, v2, v3, v4, v5, v6, v7, v8, pm, vw, vh, vp, vc, vd, vda, vf, vt, h1, h2.old o, h3.old o⟩
abbrev Lys (K : AH) (v : Value) (l : List Ly) : Prop := RowOf 50 LyE K v l
def CoE (K : AH) (c : List Value) (l : List Ly) : Prop := ∃ v, c = [v] ∧ Lys K v l
theorem CoE.m : Mono CoE := RowOf.mono LyE.m
abbrev Cos (K : AH) (v : Value) (l : List (List Ly)) : Prop := RowOf 1 CoE K v l
abbrev dcV (d : Dc) (v : Value) : Value := .agg [.int .i64 d.in_, .int .i64 d.out, v].toArray
end Go.Proofs.Ytlcdbangmbdlcaa
/- Documents: what may be, in plain words. -/
namespace Go.Proofs.Ytlcdbangmbdlcaa
open Go Go.RowKit E
set_option linter.unusedSimpArgs false
set_option linter.unusedVariables false
def tickB (t : Int) : Bool := decide (-1073741824 ≤ t) && decide (t ≤ 1073741824)
def easeB (e : Ez) : Bool := (decide (0 ≤ e.x1) && decide (e.x1 ≤ 65536)) && (decide (0 ≤ e.x2) && decide (e.x2 ≤ 65536)) && (decide (-131072 ≤ e.y1) && decide (e.y1 ≤ 196608)) && (decide (-131072 ≤ e.y2) && decide (e.y2 ≤ 196608))
def ez0 (e : Ez) : Bool := (e.x1 == 0) && ((e.y1 == 0) && ((e.x2 == 0) && (e.y2 == 0)))
def howB (how : Int) (e : Ez) : Bool := if how = 2 then easeB e else ((how == 0) || (how == 1)) && ez0 e
def movesB (t how : Int) (e : Ez) : Bool := tickB t && howB how e
def kstB (f : Bool) (a t how : Int) (e : Ez) : Bool := tickB t && (f || decide (a < t)) && howB how e
def keysGo : Bool → Int → List Ky → Bool
  | _, _, [] => true
  | f, a, k :: l => kstB f a k.t k.how k.e && nearB k.v && keysGo false k.t l
def keysB (l : List Ky) : Bool := keysGo true 0 l && decide ((l.length : Int) ≤ 32)
def cksGo : Bool → Int → List Ck → Bool
  | _, _, [] => true
  | f, a, k :: l => kstB f a k.t k.how k.e && cksGo false k.t l
def cksB (l : List Ck) : Bool := cksGo true 0 l && decide ((l.length : Int) ≤ 32)
def fitsB (a b : PL) : Bool := decide ((a.2.length : Int) = b.2.length) && (a.1 == b.1)
def pksGo (z : PL) : Bool → Int → List Pk → Bool
  | _, _, [] => true
  | f, a, k :: l => kstB f a k.t k.how k.e && !(decide ((k.p.2.length : Int) = 0)) && rightB k.p.1 k.p.2 && fitsB k.p z && pksGo z false k.t l
def pksB (l : List Pk) : Bool := pksGo ((l[0]?).elim (false, []) (·.p)) true 0 l && decide ((l.length : Int) ≤ 32)
def paintB (p : Pnt) : Bool := decide (0 ≤ p.kind) && decide (p.kind ≤ 2) && nearB p.p.1 && nearB p.p.2 && nearB p.q.1 && nearB p.q.2 && nearB p.r
def dashB (l : List Int) : Bool := decide ((l.length : Int) ≤ 8) && l.all fun n => decide (65536 ≤ n) && decide (n ≤ 67108864)
def formB (s : Sh) : Bool :=
  if s.form < 0 ∨ 3 < s.form then false
  else if (s.form = 2 ∧ (s.n < 2 ∨ 16 < s.n)) ∨ (¬ s.form = 2 ∧ ¬ s.n = 0) then false
  else if s.form = 3 then decide ((s.w.length : Int) = 0) && decide ((s.h.length : Int) = 0) && pksB s.paths
  else decide ((s.paths.length : Int) = 0) && keysB s.w && keysB s.h
def shapeB (s : Sh) : Bool := formB s && ((s.rule == 0) || (s.rule == 1)) && paintB s.paint && cksB s.colors && keysB s.width && keysB s.frm && keysB s.to && ((s.cap == 0) || (s.cap == 1)) && dashB s.dash
/-- Rows of which each is as the other's. -/
def eqG {α : Type} (q : α → α → Bool) : List α → List α → Bool
  | [], [] => true
  | x :: s, y :: t => q x y && eqG q s t
  | _, _ => false
def ezQ (x y : Ez) : Bool := (x.x1 == y.x1) && ((x.y1 == y.y1) && ((x.x2 == y.x2) && (x.y2 == y.y2)))
def kyQ (x y : Ky) : Bool := (x.t == y.t) && ((x.v == y.v) && ((x.how == y.how) && ((x.e.x1 == y.e.x1) && ((x.e.y1 == y.e.y1) && ((x.e.x2 == y.e.x2) && (x.e.y2 == y.e.y2))))))
def ckQ (x y : Ck) : Bool := (x.t == y.t) && ((x.c.r == y.c.r) && ((x.c.g == y.c.g) && ((x.c.b == y.c.b) && ((x.c.a == y.c.a) && ((x.how == y.how) && ((x.e.x1 == y.e.x1) && ((x.e.y1 == y.e.y1) && ((x.e.x2 == y.e.x2) && (x.e.y2 == y.e.y2)))))))))
def ptQ (x y : Pt) : Bool := (x.1 == y.1) && (x.2 == y.2)
def inQ (x y : Int) : Bool := x == y
def plQ (p q : PL) : Bool := (p.1 == q.1) && eqG ptQ p.2 q.2
def pkQ (x y : Pk) : Bool := (x.t == y.t) && (x.how == y.how) && ezQ x.e y.e && plQ x.p y.p
def c4Q (x y : C4) : Bool := (x.r == y.r) && ((x.g == y.g) && ((x.b == y.b) && (x.a == y.a)))
def pntQ (x y : Pnt) : Bool := (x.kind == y.kind) && ((x.a.r == y.a.r) && ((x.a.g == y.a.g) && ((x.a.b == y.a.b) && ((x.a.a == y.a.a) && ((x.b.r == y.b.r) && ((x.b.g == y.b.g) && ((x.b.b == y.b.b) && ((x.b.a == y.b.a) && ((x.p.1 == y.p.1) && ((x.p.2 == y.p.2) && ((x.q.1 == y.q.1) && ((x.q.2 == y.q.2) && (x.r == y.r)))))))))))))
def shP (x y : Sh) : Bool := (x.form == y.form) && (x.n == y.n) && (x.fill == y.fill) && (x.rule == y.rule) && pntQ x.paint y.paint && (x.stroke == y.stroke) && c4Q x.line y.line && (x.cap == y.cap)
def shK (x y : Sh) : Bool := eqG kyQ x.w y.w && eqG kyQ x.h y.h && eqG kyQ x.width y.width && eqG kyQ x.frm y.frm && eqG kyQ x.to y.to
def shQ (x y : Sh) : Bool := shP x y && shK x y && eqG pkQ x.paths y.paths && eqG ckQ x.colors y.colors && eqG inQ x.dash y.dash
def ez00 : Ez := ⟨0, 0, 0, 0⟩
def c400 : C4 := ⟨0, 0, 0, 0⟩
def pnt00 : Pnt := ⟨0, c400, c400, (0, 0), (0, 0), 0⟩
def sh00 : Sh := ⟨0, 0, [], [], [], false, 0, pnt00, [], false, [], c400, 0, [], [], []⟩
def bareB (s : Sh) : Bool := shQ s sh00
def Ly.keys (l : Ly) : List (List Ky) := [l.x, l.y, l.ax, l.ay, l.sx, l.sy, l.turn, l.opac, l.remap]
def maskB (p : PL) : Bool := rightB p.1 p.2 && (decide ((p.2.length : Int) = 0) || p.1)
def layerB (l : Ly) : Bool :=
  (((l.kind == 0) || (l.kind == 1)) && decide (0 ≤ l.matte) && decide (l.matte ≤ 2)) && (tickB l.in_ && tickB l.out && tickB l.start && decide (l.in_ < l.out)) && maskB l.mask && l.keys.all keysB &&
    (if l.kind = 1 then bareB l.shape else (l.comp == 0) && decide ((l.remap.length : Int) = 0) && shapeB l.shape)
end Go.Proofs.Ytlcdbangmbdlcaa
/- Documents: the walks of what judges keys. -/
namespace Go.Proofs.Ytlcdbangmbdlcaa
open Go Go.RowKit E
attribute [local irreducible] XRun XOps XCode XCal XLoop XQ SemCall
set_option linter.unusedSimpArgs false
set_option linter.unusedVariables false
theorem not_lt_d {a b : Int} : (!decide (a < b)) = decide (b ≤ a) := by
  by_cases h : a < b
  · rw [dt h, df (show ¬ b ≤ a by omega)]; rfl
  · rw [df h, dt (show b ≤ a by omega)]; rfl
theorem easeR1_ (n lo hi : Int) (H : AH) : SemCall Try.prog 76 [.int .i64 n, .int .i64 lo, .int .i64 hi] H (.bool (decide (lo ≤ n) && decide (n ≤ hi))) H [] := by
  refine pure_of ?_ rfl
  cases h1 : decide (lo ≤ n) with
  | false =>
    refine XCal.of hm Try.func76 rfl (fun xs w => Try.call76 xs w) Try.ntmps76 Try.results76 rfl ?_
    simp only [go_sem, Nat.reduceEqDiff, Nat.reduceAdd, Nat.reduceSub, Nat.reduceMul, Nat.reduceLT, Nat.reduceLeDiff, Int.reducePow, Int.reduceBEq, Int.reduceBNe, Int.reduceDiv, Int.reduceMod, Int.reduceEq, Int.reduceLT, Int.reduceLE, Int.reduceAdd, Int.reduceSub, Int.reduceMul, Int.reduceNeg, Int.reduceToNat, Int.reduceTDiv, Int.reduceTMod, ↓reduceIte, h1]
  | true =>
    refine XCal.of hm Try.func76 rfl (fun xs w => Try.call76 xs w) Try.ntmps76 Try.results76 rfl ?_
    simp only [go_sem, Nat.reduceEqDiff, Nat.reduceAdd, Nat.reduceSub, Nat.reduceMul, Nat.reduceLT, Nat.reduceLeDiff, Int.reducePow, Int.reduceBEq, Int.reduceBNe, Int.reduceDiv, Int.reduceMod, Int.reduceEq, Int.reduceLT, Int.reduceLE, Int.reduceAdd, Int.reduceSub, Int.reduceMul, Int.reduceNeg, Int.reduceToNat, Int.reduceTDiv, Int.reduceTMod, ↓reduceIte, h1]
abbrev ezV (e : Ez) : Value := .agg [.int .i64 e.x1, .int .i64 e.y1, .int .i64 e.x2, .int .i64 e.y2].toArray
theorem easeR_ (e : Ez) (H : AH) : SemCall Try.prog 68 [ezV e] H (.bool (easeB e)) H [] := by
  refine pure_of ?_ rfl
  have c1 := fun H => easeR1_ e.x1 0 65536 H
  have c2 := fun H => easeR1_ e.x2 0 65536 H
  have c3 := fun H => easeR1_ e.y1 (-131072) 196608 H
  have c4 := fun H => easeR1_ e.y2 (-131072) 196608 H
  unfold easeB
  generalize (decide (0 ≤ e.x1) && decide (e.x1 ≤ 65536)) = p1 at *
  generalize (decide (0 ≤ e.x2) && decide (e.x2 ≤ 65536)) = p2 at *
  generalize (decide (-131072 ≤ e.y1) && decide (e.y1 ≤ 196608)) = p3 at *
  generalize (decide (-131072 ≤ e.y2) && decide (e.y2 ≤ 196608)) = p4 at *
  cases p1
  case' true => cases p2
  case' true.true => cases p3
  all_goals
    refine XCal.of hm Try.func68 rfl (fun xs w => Try.call68 xs w) Try.ntmps68 Try.results68 rfl ?_
    simp only [go_sem, Nat.reduceEqDiff, Nat.reduceAdd, Nat.reduceSub, Nat.reduceMul, Nat.reduceLT, Nat.reduceLeDiff, Int.reducePow, Int.reduceBEq, Int.reduceBNe, Int.reduceDiv, Int.reduceMod, Int.reduceEq, Int.reduceLT, Int.reduceLE, Int.reduceAdd, Int.reduceSub, Int.reduceMul, Int.reduceNeg, Int.reduceToNat, Int.reduceTDiv, Int.reduceTMod, ↓reduceIte]
    repeat ((first | refine (c1 _).x ?_ | refine (c2 _).x ?_ | refine (c3 _).x ?_ | refine (c4 _).x ?_ | refine drawnF ?_ (by decide +kernel)); simp only [go_sem, Nat.reduceEqDiff, Nat.reduceAdd, Nat.reduceSub, Nat.reduceMul, Nat.reduceLT, Nat.reduceLeDiff, Int.reducePow, Int.reduceBEq, Int.reduceBNe, Int.reduceDiv, Int.reduceMod, Int.reduceEq, Int.reduceLT, Int.reduceLE, Int.reduceAdd, Int.reduceSub, Int.reduceMul, Int.reduceNeg, Int.reduceToNat, Int.reduceTDiv, Int.reduceTMod, ↓reduceIte])
set_option maxHeartbeats 4000000 in
theorem kstep_ (i : Nat) (a t how : Int) (e : Ez) (H : AH) : SemCall Try.prog 57 [.int .i64 (i : Int), .int .i64 a, .int .i64 t, .int .i64 how, ezV e] H (.bool (kstB (decide (i = 0)) a t how e)) H [] := by
  refine pure_of ?_ rfl
  have hi : decide ((0 : Int) < (i : Int)) = !decide (i = 0) := by
    by_cases h : i = 0
    · rw [df (show ¬ (0 : Int) < (i : Int) by omega), dt h]; rfl
    · rw [dt (show (0 : Int) < (i : Int) by omega), df h]; rfl
  unfold kstB
  generalize decide (i = 0) = f at *
  have c1 := fun H => easeR_ e H
  have bad : ∀ X Y : Bool, tickB t = false → (tickB t && X && Y) = false := fun X Y h => by rw [h, Bool.false_and, Bool.false_and]
  by_cases h1 : t < -1073741824
  · rw [bad _ _ (by unfold tickB; rw [df (show ¬ -1073741824 ≤ t by omega), Bool.false_and])]
    refine XCal.of hm Try.func57 rfl (fun xs w => Try.call57 xs w) Try.ntmps57 Try.results57 rfl ?_
    simp only [go_sem, Nat.reduceEqDiff, Nat.reduceAdd, Nat.reduceSub, Nat.reduceMul, Nat.reduceLT, Nat.reduceLeDiff, Int.reducePow, Int.reduceBEq, Int.reduceBNe, Int.reduceDiv, Int.reduceMod, Int.reduceEq, Int.reduceLT, Int.reduceLE, Int.reduceAdd, Int.reduceSub, Int.reduceMul, Int.reduceNeg, Int.reduceToNat, Int.reduceTDiv, Int.reduceTMod, ↓reduceIte, dt h1]
  · by_cases h2 : 1073741824 < t
    · rw [bad _ _ (by unfold tickB; rw [df (show ¬ t ≤ 1073741824 by omega), Bool.and_false])]
      refine XCal.of hm Try.func57 rfl (fun xs w => Try.call57 xs w) Try.ntmps57 Try.results57 rfl ?_
      simp only [go_sem, Nat.reduceEqDiff, Nat.reduceAdd, Nat.reduceSub, Nat.reduceMul, Nat.reduceLT, Nat.reduceLeDiff, Int.reducePow, Int.reduceBEq, Int.reduceBNe, Int.reduceDiv, Int.reduceMod, Int.reduceEq, Int.reduceLT, Int.reduceLE, Int.reduceAdd, Int.reduceSub, Int.reduceMul, Int.reduceNeg, Int.reduceToNat, Int.reduceTDiv, Int.reduceTMod, ↓reduceIte, df h1, dt h2]
    · have ht : tickB t = true := by unfold tickB; rw [dt (show -1073741824 ≤ t by omega), dt (show t ≤ 1073741824 by omega)]; rfl
      rw [ht, Bool.true_and]
      cases hf : (f || decide (a < t)) with
      | false =>
        have hf0 : f = false := by cases f <;> simp_all
        subst hf0
        have h3 : t ≤ a := by simpa using hf
        rw [Bool.false_and]
        refine XCal.of hm Try.func57 rfl (fun xs w => Try.call57 xs w) Try.ntmps57 Try.results57 rfl ?_
        simp only [go_sem, Nat.reduceEqDiff, Nat.reduceAdd, Nat.reduceSub, Nat.reduceMul, Nat.reduceLT, Nat.reduceLeDiff, Int.reducePow, Int.reduceBEq, Int.reduceBNe, Int.reduceDiv, Int.reduceMod, Int.reduceEq, Int.reduceLT, Int.reduceLE, Int.reduceAdd, Int.reduceSub, Int.reduceMul, Int.reduceNeg, Int.reduceToNat, Int.reduceTDiv, Int.reduceTMod, ↓reduceIte, df h1, df h2, hi, Bool.not_false, dt h3]
      | true =>
        rw [Bool.true_and]
        unfold howB
        have h3 : f = true ∨ (f = false ∧ decide (t ≤ a) = false) := by
          cases f
          · right; refine ⟨rfl, ?_⟩; simp at hf; exact df (by omega)
          · exact .inl rfl
        by_cases hw : how = 2
        · rw [if_pos hw]
          rcases h3 with h3 | ⟨h3, h4⟩
          · refine XCal.of hm Try.func57 rfl (fun xs w => Try.call57 xs w) Try.ntmps57 Try.results57 rfl ?_
            simp only [go_sem, Nat.reduceEqDiff, Nat.reduceAdd, Nat.reduceSub, Nat.reduceMul, Nat.reduceLT, Nat.reduceLeDiff, Int.reducePow, Int.reduceBEq, Int.reduceBNe, Int.reduceDiv, Int.reduceMod, Int.reduceEq, Int.reduceLT, Int.reduceLE, Int.reduceAdd, Int.reduceSub, Int.reduceMul, Int.reduceNeg, Int.reduceToNat, Int.reduceTDiv, Int.reduceTMod, ↓reduceIte, df h1, df h2, hi, h3, Bool.not_true, bt hw]
            repeat ((first | refine (c1 _).x ?_ | refine drawnF ?_ (by decide +kernel)); simp only [go_sem, Nat.reduceEqDiff, Nat.reduceAdd, Nat.reduceSub, Nat.reduceMul, Nat.reduceLT, Nat.reduceLeDiff, Int.reducePow, Int.reduceBEq, Int.reduceBNe, Int.reduceDiv, Int.reduceMod, Int.reduceEq, Int.reduceLT, Int.reduceLE, Int.reduceAdd, Int.reduceSub, Int.reduceMul, Int.reduceNeg, Int.reduceToNat, Int.reduceTDiv, Int.reduceTMod, ↓reduceIte])
          · refine XCal.of hm Try.func57 rfl (fun xs w => Try.call57 xs w) Try.ntmps57 Try.results57 rfl ?_
            simp only [go_sem, Nat.reduceEqDiff, Nat.reduceAdd, Nat.reduceSub, Nat.reduceMul, Nat.reduceLT, Nat.reduceLeDiff, Int.reducePow, Int.reduceBEq, Int.reduceBNe, Int.reduceDiv, Int.reduceMod, Int.reduceEq, Int.reduceLT, Int.reduceLE, Int.reduceAdd, Int.reduceSub, Int.reduceMul, Int.reduceNeg, Int.reduceToNat, Int.reduceTDiv, Int.reduceTMod, ↓reduceIte, df h1, df h2, hi, h3, h4, Bool.not_false, bt hw]
            repeat ((first | refine (c1 _).x ?_ | refine drawnF ?_ (by decide +kernel)); simp only [go_sem, Nat.reduceEqDiff, Nat.reduceAdd, Nat.reduceSub, Nat.reduceMul, Nat.reduceLT, Nat.reduceLeDiff, Int.reducePow, Int.reduceBEq, Int.reduceBNe, Int.reduceDiv, Int.reduceMod, Int.reduceEq, Int.reduceLT, Int.reduceLE, Int.reduceAdd, Int.reduceSub, Int.reduceMul, Int.reduceNeg, Int.reduceToNat, Int.reduceTDiv, Int.reduceTMod, ↓reduceIte])
        · rw [if_neg hw]
          by_cases w0 : how = 0
          · rw [bt w0, Bool.true_or, Bool.true_and]
            rcases h3 with h3 | ⟨h3, h4⟩
            · refine XCal.of hm Try.func57 rfl (fun xs w => Try.call57 xs w) Try.ntmps57 Try.results57 rfl ?_
              simp only [go_sem, Nat.reduceEqDiff, Nat.reduceAdd, Nat.reduceSub, Nat.reduceMul, Nat.reduceLT, Nat.reduceLeDiff, Int.reducePow, Int.reduceBEq, Int.reduceBNe, Int.reduceDiv, Int.reduceMod, Int.reduceEq, Int.reduceLT, Int.reduceLE, Int.reduceAdd, Int.reduceSub, Int.reduceMul, Int.reduceNeg, Int.reduceToNat, Int.reduceTDiv, Int.reduceTMod, ↓reduceIte, df h1, df h2, hi, h3, Bool.not_true, bf hw, bt w0, ez0]
            · refine XCal.of hm Try.func57 rfl (fun xs w => Try.call57 xs w) Try.ntmps57 Try.results57 rfl ?_
              simp only [go_sem, Nat.reduceEqDiff, Nat.reduceAdd, Nat.reduceSub, Nat.reduceMul, Nat.reduceLT, Nat.reduceLeDiff, Int.reducePow, Int.reduceBEq, Int.reduceBNe, Int.reduceDiv, Int.reduceMod, Int.reduceEq, Int.reduceLT, Int.reduceLE, Int.reduceAdd, Int.reduceSub, Int.reduceMul, Int.reduceNeg, Int.reduceToNat, Int.reduceTDiv, Int.reduceTMod, ↓reduceIte, df h1, df h2, hi, h3, h4, Bool.not_false, bf hw, bt w0, ez0]
          · by_cases w1 : how = 1
            · rw [bf w0, bt w1, Bool.false_or, Bool.true_and]
              rcases h3 with h3 | ⟨h3, h4⟩
              · refine XCal.of hm Try.func57 rfl (fun xs w => Try.call57 xs w) Try.ntmps57 Try.results57 rfl ?_
                simp only [go_sem, Nat.reduceEqDiff, Nat.reduceAdd, Nat.reduceSub, Nat.reduceMul, Nat.reduceLT, Nat.reduceLeDiff, Int.reducePow, Int.reduceBEq, Int.reduceBNe, Int.reduceDiv, Int.reduceMod, Int.reduceEq, Int.reduceLT, Int.reduceLE, Int.reduceAdd, Int.reduceSub, Int.reduceMul, Int.reduceNeg, Int.reduceToNat, Int.reduceTDiv, Int.reduceTMod, ↓reduceIte, df h1, df h2, hi, h3, Bool.not_true, bf hw, bf w0, bt w1, ez0]
              · refine XCal.of hm Try.func57 rfl (fun xs w => Try.call57 xs w) Try.ntmps57 Try.results57 rfl ?_
                simp only [go_sem, Nat.reduceEqDiff, Nat.reduceAdd, Nat.reduceSub, Nat.reduceMul, Nat.reduceLT, Nat.reduceLeDiff, Int.reducePow, Int.reduceBEq, Int.reduceBNe, Int.reduceDiv, Int.reduceMod, Int.reduceEq, Int.reduceLT, Int.reduceLE, Int.reduceAdd, Int.reduceSub, Int.reduceMul, Int.reduceNeg, Int.reduceToNat, Int.reduceTDiv, Int.reduceTMod, ↓reduceIte, df h1, df h2, hi, h3, h4, Bool.not_false, bf hw, bf w0, bt w1, ez0]
            · rw [bf w0, bf w1, Bool.false_or, Bool.false_and]
              rcases h3 with h3 | ⟨h3, h4⟩
              · refine XCal.of hm Try.func57 rfl (fun xs w => Try.call57 xs w) Try.ntmps57 Try.results57 rfl ?_
                simp only [go_sem, Nat.reduceEqDiff, Nat.reduceAdd, Nat.reduceSub, Nat.reduceMul, Nat.reduceLT, Nat.reduceLeDiff, Int.reducePow, Int.reduceBEq, Int.reduceBNe, Int.reduceDiv, Int.reduceMod, Int.reduceEq, Int.reduceLT, Int.reduceLE, Int.reduceAdd, Int.reduceSub, Int.reduceMul, Int.reduceNeg, Int.reduceToNat, Int.reduceTDiv, Int.reduceTMod, ↓reduceIte, df h1, df h2, hi, h3, Bool.not_true, bf hw, bf w0, bf w1]
              · refine XCal.of hm Try.func57 rfl (fun xs w => Try.call57 xs w) Try.ntmps57 Try.results57 rfl ?_
                simp only [go_sem, Nat.reduceEqDiff, Nat.reduceAdd, Nat.reduceSub, Nat.reduceMul, Nat.reduceLT, Nat.reduceLeDiff, Int.reducePow, Int.reduceBEq, Int.reduceBNe, Int.reduceDiv, Int.reduceMod, Int.reduceEq, Int.reduceLT, Int.reduceLE, Int.reduceAdd, Int.reduceSub, Int.reduceMul, Int.reduceNeg, Int.reduceToNat, Int.reduceTDiv, Int.reduceTMod, ↓reduceIte, df h1, df h2, hi, h3, h4, Bool.not_false, bf hw, bf w0, bf w1]
theorem drop_at {α : Type} {l : List α} {i : Nat} {x : α} (h : l[i]? = some x) : l.drop i = x :: l.drop (i + 1) := by
  have hi := (List.getElem?_eq_some_iff.1 h)
  rw [List.drop_eq_getElem_cons hi.1, hi.2]
set_option maxHeartbeats 4000000 in
theorem keyR_ (l : List Ky) (v : Value) (H : AH) (h : Kys H v l) : SemCall Try.prog 48 [v] H (.bool (keysB l)) H [] := by
  refine pure_of ?_ rfl
  have hlen := h.len
  obtain ⟨va, ve, hv⟩ := h.form
  subst hv
  refine XCal.of hm Try.func48 rfl (fun xs w => Try.call48 xs w) Try.ntmps48 Try.results48 rfl ?_
  simp only [go_sem, Nat.reduceEqDiff, Nat.reduceAdd, Nat.reduceSub, Nat.reduceMul, Nat.reduceLT, Nat.reduceLeDiff, Int.reducePow, Int.reduceBEq, Int.reduceBNe, Int.reduceDiv, Int.reduceMod, Int.reduceEq, Int.reduceLT, Int.reduceLE, Int.reduceAdd, Int.reduceSub, Int.reduceMul, Int.reduceNeg, Int.reduceToNat, Int.reduceTDiv, Int.reduceTMod, ↓reduceIte]
  refine keep (fun k T K D => D = [] ∧ ∃ (i : Nat) (a : Int), i + k = l.length ∧ Old H K ∧ H.length ≤ K.length ∧ keysB l = (keysGo (decide (i = 0)) a (l.drop i) && decide ((l.length : Int) ≤ 32)) ∧ T 0 = .slice va l.length ve ∧ T 3 = .int .i64 a ∧ T 6 = .slice va l.length ve ∧ T 7 = .int .i64 (l.length : Int) ∧ T 8 = .int .i64 (i : Int)) l.length
    ⟨rfl, 0, 0, by omega, Old.refl _, by omega, rfl, by simp only [go_sem, Nat.reduceEqDiff, Nat.reduceAdd, Nat.reduceSub, Nat.reduceMul, Nat.reduceLT, Nat.reduceLeDiff, Int.reducePow, Int.reduceBEq, Int.reduceBNe, Int.reduceDiv, Int.reduceMod, Int.reduceEq, Int.reduceLT, Int.reduceLE, Int.reduceAdd, Int.reduceSub, Int.reduceMul, Int.reduceNeg, Int.reduceToNat, Int.reduceTDiv, Int.reduceTMod, ↓reduceIte], by simp only [go_sem, Nat.reduceEqDiff, Nat.reduceAdd, Nat.reduceSub, Nat.reduceMul, Nat.reduceLT, Nat.reduceLeDiff, Int.reducePow, Int.reduceBEq, Int.reduceBNe, Int.reduceDiv, Int.reduceMod, Int.reduceEq, Int.reduceLT, Int.reduceLE, Int.reduceAdd, Int.reduceSub, Int.reduceMul, Int.reduceNeg, Int.reduceToNat, Int.reduceTDiv, Int.reduceTMod, ↓reduceIte] <;> rfl, by simp only [go_sem, Nat.reduceEqDiff, Nat.reduceAdd, Nat.reduceSub, Nat.reduceMul, Nat.reduceLT, Nat.reduceLeDiff, Int.reducePow, Int.reduceBEq, Int.reduceBNe, Int.reduceDiv, Int.reduceMod, Int.reduceEq, Int.reduceLT, Int.reduceLE, Int.reduceAdd, Int.reduceSub, Int.reduceMul, Int.reduceNeg, Int.reduceToNat, Int.reduceTDiv, Int.reduceTMod, ↓reduceIte], by simp only [go_sem, Nat.reduceEqDiff, Nat.reduceAdd, Nat.reduceSub, Nat.reduceMul, Nat.reduceLT, Nat.reduceLeDiff, Int.reducePow, Int.reduceBEq, Int.reduceBNe, Int.reduceDiv, Int.reduceMod, Int.reduceEq, Int.reduceLT, Int.reduceLE, Int.reduceAdd, Int.reduceSub, Int.reduceMul, Int.reduceNeg, Int.reduceToNat, Int.reduceTDiv, Int.reduceTMod, ↓reduceIte], by simp only [go_sem, Nat.reduceEqDiff, Nat.reduceAdd, Nat.reduceSub, Nat.reduceMul, Nat.reduceLT, Nat.reduceLeDiff, Int.reducePow, Int.reduceBEq, Int.reduceBNe, Int.reduceDiv, Int.reduceMod, Int.reduceEq, Int.reduceLT, Int.reduceLE, Int.reduceAdd, Int.reduceSub, Int.reduceMul, Int.reduceNeg, Int.reduceToNat, Int.reduceTDiv, Int.reduceTMod, ↓reduceIte] <;> rfl⟩ ?_
  rintro k T K D ⟨rfl, i, a, hik, hold, hKl, hr, t0, t3, t6, t7, t8⟩
  have kd : ∀ n, decide (K.length + n < H.length) = false := fun n => df (by omega)
  have kd0 : decide (K.length < H.length) = false := df (by omega)
  by_cases hk : i < l.length
  · obtain ⟨x, hx⟩ : ∃ x, l[i]? = some x := ⟨_, List.getElem?_eq_getElem hk⟩
    obtain ⟨b, g, cells, rw_, c, hve, hb, hc, hcl, hle, hld, hgt⟩ := h.at hx
    have hc : c = kyC x := hc
    subst hc
    have kb := hold _ _ hb
    rw [drop_at hx] at hr
    simp only [keysGo] at hr
    rw [hve] at t0 t6
    have q0 : (0 : Int) ≤ (i : Int) := by omega
    have q1 : (i : Int) < (l.length : Int) := by omega
    have w1 : IntKind.i64.wrap ((i : Int) + 1) = ((i + 1 : Nat) : Int) := by rw [wi (by omega) (by omega)]; rfl
    have ks := fun H => kstep_ i a x.t x.how x.e H
    cases hs : kstB (decide (i = 0)) a x.t x.how x.e with
    | false =>
      rw [hs] at ks hr
      simp only [go_sem, Nat.reduceEqDiff, Nat.reduceAdd, Nat.reduceSub, Nat.reduceMul, Nat.reduceLT, Nat.reduceLeDiff, Int.reducePow, Int.reduceBEq, Int.reduceBNe, Int.reduceDiv, Int.reduceMod, Int.reduceEq, Int.reduceLT, Int.reduceLE, Int.reduceAdd, Int.reduceSub, Int.reduceMul, Int.reduceNeg, Int.reduceToNat, Int.reduceTDiv, Int.reduceTMod, ↓reduceIte, t0, t3, t6, t7, t8, dt q1, q0, q1, Int.toNat_natCast, Nat.zero_add, kb, hld, kd, kd0]
      repeat ((first | refine (ks _).x ?_ | refine drawnF ?_ (by decide +kernel)); simp only [go_sem, Nat.reduceEqDiff, Nat.reduceAdd, Nat.reduceSub, Nat.reduceMul, Nat.reduceLT, Nat.reduceLeDiff, Int.reducePow, Int.reduceBEq, Int.reduceBNe, Int.reduceDiv, Int.reduceMod, Int.reduceEq, Int.reduceLT, Int.reduceLE, Int.reduceAdd, Int.reduceSub, Int.reduceMul, Int.reduceNeg, Int.reduceToNat, Int.reduceTDiv, Int.reduceTMod, ↓reduceIte, kd, kd0, t0, t3, t6, t7, t8])
      rw [hr]; rfl
    | true =>
      rw [hs] at ks hr
      by_cases n1 : x.v < -67108864
      · simp only [go_sem, Nat.reduceEqDiff, Nat.reduceAdd, Nat.reduceSub, Nat.reduceMul, Nat.reduceLT, Nat.reduceLeDiff, Int.reducePow, Int.reduceBEq, Int.reduceBNe, Int.reduceDiv, Int.reduceMod, Int.reduceEq, Int.reduceLT, Int.reduceLE, Int.reduceAdd, Int.reduceSub, Int.reduceMul, Int.reduceNeg, Int.reduceToNat, Int.reduceTDiv, Int.reduceTMod, ↓reduceIte, t0, t3, t6, t7, t8, dt q1, q0, q1, Int.toNat_natCast, Nat.zero_add, kb, hld, kd, kd0]
        repeat ((first | refine (ks _).x ?_ | refine drawnF ?_ (by decide +kernel)); simp only [go_sem, Nat.reduceEqDiff, Nat.reduceAdd, Nat.reduceSub, Nat.reduceMul, Nat.reduceLT, Nat.reduceLeDiff, Int.reducePow, Int.reduceBEq, Int.reduceBNe, Int.reduceDiv, Int.reduceMod, Int.reduceEq, Int.reduceLT, Int.reduceLE, Int.reduceAdd, Int.reduceSub, Int.reduceMul, Int.reduceNeg, Int.reduceToNat, Int.reduceTDiv, Int.reduceTMod, ↓reduceIte, kd, kd0, t0, t3, t6, t7, t8, dt n1])
        rw [hr]; unfold nearB; rw [df (show ¬ -67108864 ≤ x.v by omega)]; rfl
      · by_cases n2 : 67108864 < x.v
        · simp only [go_sem, Nat.reduceEqDiff, Nat.reduceAdd, Nat.reduceSub, Nat.reduceMul, Nat.reduceLT, Nat.reduceLeDiff, Int.reducePow, Int.reduceBEq, Int.reduceBNe, Int.reduceDiv, Int.reduceMod, Int.reduceEq, Int.reduceLT, Int.reduceLE, Int.reduceAdd, Int.reduceSub, Int.reduceMul, Int.reduceNeg, Int.reduceToNat, Int.reduceTDiv, Int.reduceTMod, ↓reduceIte, t0, t3, t6, t7, t8, dt q1, q0, q1, Int.toNat_natCast, Nat.zero_add, kb, hld, kd, kd0]
          repeat ((first | refine (ks _).x ?_ | refine drawnF ?_ (by decide +kernel)); simp only [go_sem, Nat.reduceEqDiff, Nat.reduceAdd, Nat.reduceSub, Nat.reduceMul, Nat.reduceLT, Nat.reduceLeDiff, Int.reducePow, Int.reduceBEq, Int.reduceBNe, Int.reduceDiv, Int.reduceMod, Int.reduceEq, Int.reduceLT, Int.reduceLE, Int.reduceAdd, Int.reduceSub, Int.reduceMul, Int.reduceNeg, Int.reduceToNat, Int.reduceTDiv, Int.reduceTMod, ↓reduceIte, kd, kd0, t0, t3, t6, t7, t8, df n1, dt n2])
          rw [hr]; unfold nearB; rw [df (show ¬ x.v ≤ 67108864 by omega), Bool.and_false]; rfl
        · have hn : nearB x.v = true := by unfold nearB; rw [dt (show -67108864 ≤ x.v by omega), dt (show x.v ≤ 67108864 by omega)]; rfl
          rw [hn] at hr
          simp only [go_sem, Nat.reduceEqDiff, Nat.reduceAdd, Nat.reduceSub, Nat.reduceMul, Nat.reduceLT, Nat.reduceLeDiff, Int.reducePow, Int.reduceBEq, Int.reduceBNe, Int.reduceDiv, Int.reduceMod, Int.reduceEq, Int.reduceLT, Int.reduceLE, Int.reduceAdd, Int.reduceSub, Int.reduceMul, Int.reduceNeg, Int.reduceToNat, Int.reduceTDiv, Int.reduceTMod, ↓reduceIte, t0, t3, t6, t7, t8, dt q1, q0, q1, Int.toNat_natCast, Nat.zero_add, kb, hld, kd, kd0]
          repeat ((first | refine (ks _).x ?_ | refine drawnF ?_ (by decide +kernel)); simp only [go_sem, Nat.reduceEqDiff, Nat.reduceAdd, Nat.reduceSub, Nat.reduceMul, Nat.reduceLT, Nat.reduceLeDiff, Int.reducePow, Int.reduceBEq, Int.reduceBNe, Int.reduceDiv, Int.reduceMod, Int.reduceEq, Int.reduceLT, Int.reduceLE, Int.reduceAdd, Int.reduceSub, Int.reduceMul, Int.reduceNeg, Int.reduceToNat, Int.reduceTDiv, Int.reduceTMod, ↓reduceIte, kd, kd0, t0, t3, t6, t7, t8, df n1, df n2, w1])
          exact ⟨k - 1, by omega, i + 1, x.t, by omega, hold.app _, by omega, by rw [df (show ¬ i + 1 = 0 by omega)]; exact hr, hve.symm, rfl, hve.symm, rfl⟩
  · have hi : i = l.length := by omega
    subst hi
    rw [List.drop_eq_nil_of_le (by omega)] at hr
    simp only [go_sem, Nat.reduceEqDiff, Nat.reduceAdd, Nat.reduceSub, Nat.reduceMul, Nat.reduceLT, Nat.reduceLeDiff, Int.reducePow, Int.reduceBEq, Int.reduceBNe, Int.reduceDiv, Int.reduceMod, Int.reduceEq, Int.reduceLT, Int.reduceLE, Int.reduceAdd, Int.reduceSub, Int.reduceMul, Int.reduceNeg, Int.reduceToNat, Int.reduceTDiv, Int.reduceTMod, ↓reduceIte, t0, t3, t6, t7, t8, df (show ¬ ((l.length : Nat) : Int) < (l.length : Int) by omega)]
    rw [hr]; rfl
end Go.Proofs.Ytlcdbangmbdlcaa
/- Writing: bytes that are being written. -/
namespace Go.Proofs.Ytlcdbangmbdlcaa
open Go Go.RowKit E
attribute [local irreducible] XRun XOps XCode XCal XLoop XQ SemCall
set_option linter.unusedSimpArgs false
set_option linter.unusedVariables false
/-- Bytes as cells. -/
def byC (xs : List Int) : List Value := xs.map (Value.int .u8)
theorem byC_len (xs : List Int) : (byC xs).length = xs.length := List.length_map ..
theorem byC_app (xs ys : List Int) : byC xs ++ byC ys = byC (xs ++ ys) := by simp [byC]
/-- The two blocks of a writer. -/
def pbP (p b : Nat) : Nat → Prop := fun c => c = p ∨ c = b
/-- A writer in block p, its bytes in block b. -/
def InkAt (K : AH) (p b : Nat) (xs : List Int) : Prop := p ≠ b ∧ ∃ g, K[p]? = some ⟨[sl b 0 g xs.length 1], 0, true⟩ ∧ K[b]? = some ⟨byC xs, g, true⟩
/-- What a writer's walk leaves. -/
structure InkS (H K : AH) (p b : Nat) (xs : List Int) : Prop where
  old : OlP (pbP p b) H K
  len : H.length ≤ K.length
  ink : InkAt K p b xs
theorem OlP.trans {q : Nat → Prop} {H K J : AH} (o : OlP q H K) (o' : OlP q K J) : OlP q H J := fun c k hc e => o' c k hc (o c k hc e)
theorem InkAt.lt {K : AH} {p b : Nat} {xs : List Int} (h : InkAt K p b xs) : p < K.length ∧ b < K.length := by
  obtain ⟨_, g, h1, h2⟩ := h
  exact ⟨(List.getElem?_eq_some_iff.1 h1).1, (List.getElem?_eq_some_iff.1 h2).1⟩
theorem InkAt.app {K : AH} {p b : Nat} {xs : List Int} (h : InkAt K p b xs) (L : AH) : InkAt (K ++ L) p b xs := by
  obtain ⟨h0, g, h1, h2⟩ := h
  exact ⟨h0, g, old_get h1 L, old_get h2 L⟩
theorem InkS.refl {H : AH} {p b : Nat} {xs : List Int} (h : InkAt H p b xs) : InkS H H p b xs := ⟨OlP.refl _ _, Nat.le_refl _, h⟩
theorem InkS.app {H K : AH} {p b : Nat} {xs : List Int} (h : InkS H K p b xs) (L : AH) : InkS H (K ++ L) p b xs := ⟨h.old.trans (OlP.old (Old.app' _ _)), by have := h.len; rw [List.length_append]; omega, h.ink.app L⟩
theorem InkS.trans {H K J : AH} {p b : Nat} {xs ys : List Int} (h : InkS H K p b xs) (h' : InkS K J p b ys) : InkS H J p b ys := ⟨h.old.trans h'.old, Nat.le_trans h.len h'.len, h'.ink⟩
/-- One append. -/
theorem InkS.put {H K : AH} {p b g : Nat} {xs : List Int} (h : InkS H K p b xs) (L : AH) (ys : List Int) {n : Nat} {cs : List Value} (hn : n = ys.length) (hc : cs = byC ys) : InkS H ((K.set b ⟨cs, g, true⟩ ++ L).set p ⟨[sl b 0 g n 1], 0, true⟩) p b ys := by
  obtain ⟨hp, hb⟩ := h.ink.lt
  have hne := h.ink.1
  subst hn hc
  refine ⟨h.old.trans fun c k hc e => ?_, by have := h.len; simp; omega, hne, g, List.getElem?_set_self (by simp; omega), ?_⟩
  · rw [List.getElem?_set_ne (fun e => hc (.inl e.symm))]
    exact old_get (by rw [List.getElem?_set_ne (fun e => hc (.inr e.symm))]; exact e) L
  · rw [List.getElem?_set_ne hne]
    exact old_get (List.getElem?_set_self (by simpa using hb)) L
theorem ink_get {K : AH} {p b : Nat} {k : Blk} (hne : p ≠ b) (h : K[p]? = some k) : ∀ P L, (K.set b P ++ L)[p]? = some k := fun P L => old_get (by rw [List.getElem?_set_ne (fun e => hne e.symm)]; exact h) L
/-- What was written lies in those two. -/
def OnW (W : List Nat) (p b : Nat) : Prop := ∀ x ∈ W, x = p ∨ x = b
theorem OnW.nil (p b : Nat) : OnW [] p b := fun x h => by cases h
theorem OnW.app {W W' : List Nat} {p b : Nat} (h : OnW W p b) (h' : OnW W' p b) : OnW (W ++ W') p b := fun x hx => by
  rcases List.mem_append.1 hx with hx | hx
  · exact h x hx
  · exact h' x hx
theorem OnW.one {p b : Nat} : OnW [b, p] p b ∧ OnW [p] p b ∧ OnW [b] p b ∧ OnW [p, b] p b := ⟨fun x h => by simp at h; omega, fun x h => by simp at h; omega, fun x h => by simp at h; omega, fun x h => by simp at h; omega⟩
/-! What is written. -/
def u8 (n : Int) : Int := IntKind.u8.wrap n
def lngAt (n : Int) (j : Nat) : Int := u8 (n.fdiv (2 ^ (56 - 8 * j)))
def lng (n : Int) : List Int := (List.range 8).map (lngAt n)
theorem lng_take (n : Int) {j : Nat} (h : j < 8) : (lng n).take (j + 1) = (lng n).take j ++ [lngAt n j] := by
  unfold lng
  rw [take_snoc (x := lngAt n j) (by simp [h])]
def easeO (how : Int) (e : Ez) : List Int := u8 how :: (if how = 2 then lng e.x1 ++ lng e.y1 ++ lng e.x2 ++ lng e.y2 else [])
def keyO (k : Ky) : List Int := lng k.t ++ lng k.v ++ easeO k.how k.e
def keysO (l : List Ky) : List Int := u8 l.length :: l.flatMap keyO
def yesO (b : Bool) : List Int := [if b then 1 else 0]
def ptO (p : Pt) : List Int := lng p.1 ++ lng p.2
def pathO (p : PL) : List Int := yesO p.1 ++ u8 p.2.length :: p.2.flatMap ptO
def colO (c : C4) : List Int := [c.r, c.g, c.b, c.a]
def pkO (k : Pk) : List Int := lng k.t ++ pathO k.p ++ easeO k.how k.e
def ckO (k : Ck) : List Int := lng k.t ++ colO k.c ++ easeO k.how k.e
def shO (s : Sh) : List Int :=
  [u8 s.form, u8 s.n] ++ keysO s.w ++ keysO s.h ++ u8 s.paths.length :: s.paths.flatMap pkO ++ yesO s.fill ++ [u8 s.rule, u8 s.paint.kind] ++ colO s.paint.a ++ colO s.paint.b ++ ptO s.paint.p ++ ptO s.paint.q ++ lng s.paint.r
    ++ u8 s.colors.length :: s.colors.flatMap ckO ++ yesO s.stroke ++ keysO s.width ++ colO s.line ++ [u8 s.cap, u8 s.dash.length] ++ s.dash.flatMap lng ++ keysO s.frm ++ keysO s.to
def lyO (l : Ly) : List Int :=
  [u8 l.kind, u8 (IntKind.i64.wrap (l.parent + 1)), u8 l.comp, u8 l.matte] ++ lng l.in_ ++ lng l.out ++ lng l.start ++ keysO l.x ++ keysO l.y ++ keysO l.ax ++ keysO l.ay ++ keysO l.sx ++ keysO l.sy ++ keysO l.turn ++ keysO l.opac ++ keysO l.remap ++ pathO l.mask ++ (if l.kind = 0 then shO l.shape else [])
def coO (c : List Ly) : List Int := u8 c.length :: c.flatMap lyO
def bodyO (d : Dc) : List Int := [75, 86, 65, 49] ++ lng d.in_ ++ lng d.out ++ u8 d.comps.length :: d.comps.flatMap coO
end Go.Proofs.Ytlcdbangmbdlcaa
/- Writing: the walks of small things. -/
namespace Go.Proofs.Ytlcdbangmbdlcaa
open Go Go.RowKit E
attribute [local irreducible] XRun XOps XCode XCal XLoop XQ SemCall
set_option linter.unusedSimpArgs false
set_option linter.unusedVariables false
/-- Room for what is written. -/
def roomP (n : Nat) : Prop := n ≤ 70368744177664
theorem room1 {n : Nat} (h : roomP (n + 1)) : (n + 1) * 1 - 140737488355328 = 0 ∧ n + 1 - 140737488355328 = 0 := by unfold roomP at h; omega
set_option maxHeartbeats 4000000 in
theorem wsmall_ (ls : List Int) (lv : Value) (p b : Nat) (xs : List Int) (H : AH) (hI : InkAt H p b xs) (hv : ∀ J, OlP (pbP p b) H J → Ins J lv ls) (hn : roomP (xs.length + ls.length)) :
    Cal Try.prog 12 [ap p 0 0, lv] H fun v' H' W => v' = .tuple #[] ∧ OnW W p b ∧ InkS H H' p b (xs ++ ls.map u8) := by
  refine of_x ?_
  have hln := (hv H (OlP.refl _ _)).len
  obtain ⟨la, le, hlf⟩ := (hv H (OlP.refl _ _)).form
  subst hlf
  obtain ⟨hpl, hbl⟩ := hI.lt
  have dp : decide (p < H.length) = true := dt hpl
  have db : decide (b < H.length) = true := dt hbl
  refine XCal.of hm Try.func12 rfl (fun xs w => Try.call12 xs w) Try.ntmps12 Try.results12 rfl ?_
  simp only [go_sem, Nat.reduceEqDiff, Nat.reduceAdd, Nat.reduceSub, Nat.reduceMul, Nat.reduceLT, Nat.reduceLeDiff, Int.reducePow, Int.reduceBEq, Int.reduceBNe, Int.reduceDiv, Int.reduceMod, Int.reduceEq, Int.reduceLT, Int.reduceLE, Int.reduceAdd, Int.reduceSub, Int.reduceMul, Int.reduceNeg, Int.reduceToNat, Int.reduceTDiv, Int.reduceTMod, ↓reduceIte]
  refine keep (fun r T K D => OnW D p b ∧ ∃ (i : Nat), i + r = ls.length ∧ InkS H K p b (xs ++ (ls.take i).map u8) ∧ T 0 = ap p 0 0 ∧ T 6 = .slice la ls.length le ∧ T 7 = .int .i64 (ls.length : Int) ∧ T 8 = .int .i64 (i : Int)) ls.length
    ⟨OnW.nil _ _, 0, by omega, by simpa using InkS.refl hI, by simp only [go_sem, Nat.reduceEqDiff, Nat.reduceAdd, Nat.reduceSub, Nat.reduceMul, Nat.reduceLT, Nat.reduceLeDiff, Int.reducePow, Int.reduceBEq, Int.reduceBNe, Int.reduceDiv, Int.reduceMod, Int.reduceEq, Int.reduceLT, Int.reduceLE, Int.reduceAdd, Int.reduceSub, Int.reduceMul, Int.reduceNeg, Int.reduceToNat, Int.reduceTDiv, Int.reduceTMod, ↓reduceIte], by simp only [go_sem, Nat.reduceEqDiff, Nat.reduceAdd, Nat.reduceSub, Nat.reduceMul, Nat.reduceLT, Nat.reduceLeDiff, Int.reducePow, Int.reduceBEq, Int.reduceBNe, Int.reduceDiv, Int.reduceMod, Int.reduceEq, Int.reduceLT, Int.reduceLE, Int.reduceAdd, Int.reduceSub, Int.reduceMul, Int.reduceNeg, Int.reduceToNat, Int.reduceTDiv, Int.reduceTMod, ↓reduceIte], by simp only [go_sem, Nat.reduceEqDiff, Nat.reduceAdd, Nat.reduceSub, Nat.reduceMul, Nat.reduceLT, Nat.reduceLeDiff, Int.reducePow, Int.reduceBEq, Int.reduceBNe, Int.reduceDiv, Int.reduceMod, Int.reduceEq, Int.reduceLT, Int.reduceLE, Int.reduceAdd, Int.reduceSub, Int.reduceMul, Int.reduceNeg, Int.reduceToNat, Int.reduceTDiv, Int.reduceTMod, ↓reduceIte], by simp only [go_sem, Nat.reduceEqDiff, Nat.reduceAdd, Nat.reduceSub, Nat.reduceMul, Nat.reduceLT, Nat.reduceLeDiff, Int.reducePow, Int.reduceBEq, Int.reduceBNe, Int.reduceDiv, Int.reduceMod, Int.reduceEq, Int.reduceLT, Int.reduceLE, Int.reduceAdd, Int.reduceSub, Int.reduceMul, Int.reduceNeg, Int.reduceToNat, Int.reduceTDiv, Int.reduceTMod, ↓reduceIte] <;> rfl⟩ ?_
  rintro r T K D ⟨hD, i, hir, hS, t0, t6, t7, t8⟩
  have kd : ∀ n, decide (K.length + n < H.length) = false := fun n => df (by have := hS.len; omega)
  have kd0 : decide (K.length < H.length) = false := df (by have := hS.len; omega)
  by_cases hi : i < ls.length
  · obtain ⟨x, hx⟩ : ∃ x, ls[i]? = some x := ⟨_, List.getElem?_eq_getElem hi⟩
    obtain ⟨bl, gl, cells, rw_, c, hve, hb, hc, hcl, hle, hld, hgt⟩ := (hv K hS.old).at hx
    have hc : c = [.int .i64 x] := hc
    subst hc
    have hc0 : cells[i * 1]? = some (.int .i64 x) := hgt 0 (by omega)
    rw [hve] at t6
    obtain ⟨hne, g, gp, gb⟩ := hS.ink
    have hl : (xs ++ (ls.take i).map u8).length = xs.length + i := by simp; omega
    rw [hl] at gp
    have q0 : (0 : Int) ≤ (i : Int) := by omega
    have q1 : (i : Int) < (ls.length : Int) := by omega
    have w1 : IntKind.i64.wrap ((i : Int) + 1) = ((i + 1 : Nat) : Int) := by rw [wi (by omega) (by omega)]; rfl
    obtain ⟨r1, r2⟩ := room1 (n := xs.length + i) (by unfold roomP at hn ⊢; omega)
    have hbc : (xs.length + i) * 1 = (byC (xs ++ (ls.take i).map u8)).length := by rw [byC_len, hl, Nat.mul_one]
    simp only [go_sem, Nat.reduceEqDiff, Nat.reduceAdd, Nat.reduceSub, Nat.reduceMul, Nat.reduceLT, Nat.reduceLeDiff, Int.reducePow, Int.reduceBEq, Int.reduceBNe, Int.reduceDiv, Int.reduceMod, Int.reduceEq, Int.reduceLT, Int.reduceLE, Int.reduceAdd, Int.reduceSub, Int.reduceMul, Int.reduceNeg, Int.reduceToNat, Int.reduceTDiv, Int.reduceTMod, ↓reduceIte, t0, t6, t7, t8, dt q1, q0, q1, Int.toNat_natCast, Nat.zero_add, hb, hc0, kd, kd0, dp, db, gp, old_get gp, old_get gb, old_set gb, ink_get hne gp, hbc, r1, r2, w1]
    refine ⟨r - 1, by omega, ?_, i + 1, by omega, hS.put _ _ (by simp; omega) (by rw [take_snoc hx, List.map_append, ← List.append_assoc]; exact byC_app _ [u8 x]), hve.symm, rfl⟩
    exact (hD.app OnW.one.2.2.1).app OnW.one.2.1
  · have hi : i = ls.length := by omega
    simp only [go_sem, Nat.reduceEqDiff, Nat.reduceAdd, Nat.reduceSub, Nat.reduceMul, Nat.reduceLT, Nat.reduceLeDiff, Int.reducePow, Int.reduceBEq, Int.reduceBNe, Int.reduceDiv, Int.reduceMod, Int.reduceEq, Int.reduceLT, Int.reduceLE, Int.reduceAdd, Int.reduceSub, Int.reduceMul, Int.reduceNeg, Int.reduceToNat, Int.reduceTDiv, Int.reduceTMod, ↓reduceIte, t0, t6, t7, t8, df (show ¬ (i : Int) < (ls.length : Int) by omega), kd, kd0]
    rw [show ls.take i = ls by rw [hi, List.take_length]] at hS
    exact ⟨hD, hS⟩
theorem abin_shrv {P : Program} {t : TypeId} {k yk : IntKind} {a b : Int} (h : 0 ≤ b) : abin P .shr t (.int k a) (.int yk b) = some (.int k (a.fdiv (2 ^ min b.toNat k.bits))) := by
  simp [abin, aint, isShift, h]
theorem lng_len (n : Int) : (lng n).length = 8 := by simp [lng]
theorem lngs_len (l : List Int) : (l.flatMap lng).length = 8 * l.length := by
  induction l with
  | nil => rfl
  | cons x l ih => rw [List.flatMap_cons, List.length_append, lng_len, ih, List.length_cons]; omega
set_option maxHeartbeats 4000000 in
theorem wwhole_ (ls : List Int) (lv : Value) (p b : Nat) (xs : List Int) (H : AH) (hI : InkAt H p b xs) (hv : ∀ J, OlP (pbP p b) H J → Ins J lv ls) (hn : roomP (xs.length + 8 * ls.length)) :
    Cal Try.prog 11 [ap p 0 0, lv] H fun v' H' W => v' = .tuple #[] ∧ OnW W p b ∧ InkS H H' p b (xs ++ ls.flatMap lng) := by
  refine of_x ?_
  have hln := (hv H (OlP.refl _ _)).len
  obtain ⟨la, le, hlf⟩ := (hv H (OlP.refl _ _)).form
  subst hlf
  obtain ⟨hpl, hbl⟩ := hI.lt
  have dp : decide (p < H.length) = true := dt hpl
  have db : decide (b < H.length) = true := dt hbl
  refine XCal.of hm Try.func11 rfl (fun xs w => Try.call11 xs w) Try.ntmps11 Try.results11 rfl ?_
  simp only [go_sem, Nat.reduceEqDiff, Nat.reduceAdd, Nat.reduceSub, Nat.reduceMul, Nat.reduceLT, Nat.reduceLeDiff, Int.reducePow, Int.reduceBEq, Int.reduceBNe, Int.reduceDiv, Int.reduceMod, Int.reduceEq, Int.reduceLT, Int.reduceLE, Int.reduceAdd, Int.reduceSub, Int.reduceMul, Int.reduceNeg, Int.reduceToNat, Int.reduceTDiv, Int.reduceTMod, ↓reduceIte]
  refine keep (fun r T K D => OnW D p b ∧ ∃ (i : Nat), i + r = ls.length ∧ InkS H K p b (xs ++ (ls.take i).flatMap lng) ∧ T 0 = ap p 0 0 ∧ T 7 = .slice la ls.length le ∧ T 8 = .int .i64 (ls.length : Int) ∧ T 9 = .int .i64 (i : Int)) ls.length
    ⟨OnW.nil _ _, 0, by omega, by simpa using InkS.refl hI, by simp only [go_sem, Nat.reduceEqDiff, Nat.reduceAdd, Nat.reduceSub, Nat.reduceMul, Nat.reduceLT, Nat.reduceLeDiff, Int.reducePow, Int.reduceBEq, Int.reduceBNe, Int.reduceDiv, Int.reduceMod, Int.reduceEq, Int.reduceLT, Int.reduceLE, Int.reduceAdd, Int.reduceSub, Int.reduceMul, Int.reduceNeg, Int.reduceToNat, Int.reduceTDiv, Int.reduceTMod, ↓reduceIte], by simp only [go_sem, Nat.reduceEqDiff, Nat.reduceAdd, Nat.reduceSub, Nat.reduceMul, Nat.reduceLT, Nat.reduceLeDiff, Int.reducePow, Int.reduceBEq, Int.reduceBNe, Int.reduceDiv, Int.reduceMod, Int.reduceEq, Int.reduceLT, Int.reduceLE, Int.reduceAdd, Int.reduceSub, Int.reduceMul, Int.reduceNeg, Int.reduceToNat, Int.reduceTDiv, Int.reduceTMod, ↓reduceIte], by simp only [go_sem, Nat.reduceEqDiff, Nat.reduceAdd, Nat.reduceSub, Nat.reduceMul, Nat.reduceLT, Nat.reduceLeDiff, Int.reducePow, Int.reduceBEq, Int.reduceBNe, Int.reduceDiv, Int.reduceMod, Int.reduceEq, Int.reduceLT, Int.reduceLE, Int.reduceAdd, Int.reduceSub, Int.reduceMul, Int.reduceNeg, Int.reduceToNat, Int.reduceTDiv, Int.reduceTMod, ↓reduceIte], by simp only [go_sem, Nat.reduceEqDiff, Nat.reduceAdd, Nat.reduceSub, Nat.reduceMul, Nat.reduceLT, Nat.reduceLeDiff, Int.reducePow, Int.reduceBEq, Int.reduceBNe, Int.reduceDiv, Int.reduceMod, Int.reduceEq, Int.reduceLT, Int.reduceLE, Int.reduceAdd, Int.reduceSub, Int.reduceMul, Int.reduceNeg, Int.reduceToNat, Int.reduceTDiv, Int.reduceTMod, ↓reduceIte] <;> rfl⟩ ?_
  rintro r T K D ⟨hD, i, hir, hS, t0, t6, t7, t8⟩
  by_cases hi : i < ls.length
  · obtain ⟨x, hx⟩ : ∃ x, ls[i]? = some x := ⟨_, List.getElem?_eq_getElem hi⟩
    obtain ⟨bl, gl, cells, rw_, c, hve, hb, hc, hcl, hle, hld, hgt⟩ := (hv K hS.old).at hx
    have hc : c = [.int .i64 x] := hc
    subst hc
    have hc0 : cells[i * 1]? = some (.int .i64 x) := hgt 0 (by omega)
    rw [hve] at t6
    have q0 : (0 : Int) ≤ (i : Int) := by omega
    have q1 : (i : Int) < (ls.length : Int) := by omega
    have w1 : IntKind.i64.wrap ((i : Int) + 1) = ((i + 1 : Nat) : Int) := by rw [wi (by omega) (by omega)]; rfl
    have hfl : ((ls.take i).flatMap lng).length = 8 * i := by rw [lngs_len, List.length_take]; omega
    simp only [go_sem, Nat.reduceEqDiff, Nat.reduceAdd, Nat.reduceSub, Nat.reduceMul, Nat.reduceLT, Nat.reduceLeDiff, Int.reducePow, Int.reduceBEq, Int.reduceBNe, Int.reduceDiv, Int.reduceMod, Int.reduceEq, Int.reduceLT, Int.reduceLE, Int.reduceAdd, Int.reduceSub, Int.reduceMul, Int.reduceNeg, Int.reduceToNat, Int.reduceTDiv, Int.reduceTMod, ↓reduceIte, t0, t6, t7, t8, dt q1, q0, q1, Int.toNat_natCast, Nat.zero_add, hb, hc0]
    refine keep (fun r T K D => OnW D p b ∧ ∃ (j : Nat), j + r = 8 ∧ InkS H K p b (xs ++ (ls.take i).flatMap lng ++ (lng x).take j) ∧ T 0 = ap p 0 0 ∧ T 7 = sl bl 0 gl ls.length 1 ∧ T 8 = .int .i64 (ls.length : Int) ∧ T 9 = .int .i64 (i : Int) ∧ T 5 = .int .i64 x ∧ T 6 = .int .i64 (56 - 8 * (j : Int))) 8
      ⟨hD, 0, by omega, by simpa using hS, by simp only [go_sem, Nat.reduceEqDiff, Nat.reduceAdd, Nat.reduceSub, Nat.reduceMul, Nat.reduceLT, Nat.reduceLeDiff, Int.reducePow, Int.reduceBEq, Int.reduceBNe, Int.reduceDiv, Int.reduceMod, Int.reduceEq, Int.reduceLT, Int.reduceLE, Int.reduceAdd, Int.reduceSub, Int.reduceMul, Int.reduceNeg, Int.reduceToNat, Int.reduceTDiv, Int.reduceTMod, ↓reduceIte, t0], by simp only [go_sem, Nat.reduceEqDiff, Nat.reduceAdd, Nat.reduceSub, Nat.reduceMul, Nat.reduceLT, Nat.reduceLeDiff, Int.reducePow, Int.reduceBEq, Int.reduceBNe, Int.reduceDiv, Int.reduceMod, Int.reduceEq, Int.reduceLT, Int.reduceLE, Int.reduceAdd, Int.reduceSub, Int.reduceMul, Int.reduceNeg, Int.reduceToNat, Int.reduceTDiv, Int.reduceTMod, ↓reduceIte, t6], by simp only [go_sem, Nat.reduceEqDiff, Nat.reduceAdd, Nat.reduceSub, Nat.reduceMul, Nat.reduceLT, Nat.reduceLeDiff, Int.reducePow, Int.reduceBEq, Int.reduceBNe, Int.reduceDiv, Int.reduceMod, Int.reduceEq, Int.reduceLT, Int.reduceLE, Int.reduceAdd, Int.reduceSub, Int.reduceMul, Int.reduceNeg, Int.reduceToNat, Int.reduceTDiv, Int.reduceTMod, ↓reduceIte, t7], by simp only [go_sem, Nat.reduceEqDiff, Nat.reduceAdd, Nat.reduceSub, Nat.reduceMul, Nat.reduceLT, Nat.reduceLeDiff, Int.reducePow, Int.reduceBEq, Int.reduceBNe, Int.reduceDiv, Int.reduceMod, Int.reduceEq, Int.reduceLT, Int.reduceLE, Int.reduceAdd, Int.reduceSub, Int.reduceMul, Int.reduceNeg, Int.reduceToNat, Int.reduceTDiv, Int.reduceTMod, ↓reduceIte, t8], by simp only [go_sem, Nat.reduceEqDiff, Nat.reduceAdd, Nat.reduceSub, Nat.reduceMul, Nat.reduceLT, Nat.reduceLeDiff, Int.reducePow, Int.reduceBEq, Int.reduceBNe, Int.reduceDiv, Int.reduceMod, Int.reduceEq, Int.reduceLT, Int.reduceLE, Int.reduceAdd, Int.reduceSub, Int.reduceMul, Int.reduceNeg, Int.reduceToNat, Int.reduceTDiv, Int.reduceTMod, ↓reduceIte], by simp only [go_sem, Nat.reduceEqDiff, Nat.reduceAdd, Nat.reduceSub, Nat.reduceMul, Nat.reduceLT, Nat.reduceLeDiff, Int.reducePow, Int.reduceBEq, Int.reduceBNe, Int.reduceDiv, Int.reduceMod, Int.reduceEq, Int.reduceLT, Int.reduceLE, Int.reduceAdd, Int.reduceSub, Int.reduceMul, Int.reduceNeg, Int.reduceToNat, Int.reduceTDiv, Int.reduceTMod, ↓reduceIte] <;> rfl⟩ ?_
    clear hS hD t0 t6 t7 t8 hb
    rintro r2 T2 K D ⟨hD, j, hjr, hS, s0, s7, s8, s9, s5, s6⟩
    have kd : ∀ n, decide (K.length + n < H.length) = false := fun n => df (by have := hS.len; omega)
    have kd0 : decide (K.length < H.length) = false := df (by have := hS.len; omega)
    by_cases hj : j < 8
    · obtain ⟨hne, g, gp, gb⟩ := hS.ink
      have hl : (xs ++ (ls.take i).flatMap lng ++ (lng x).take j).length = xs.length + 8 * i + j := by
        rw [List.length_append, List.length_append, hfl, List.length_take, lng_len]; omega
      rw [hl] at gp
      obtain ⟨r1, r2'⟩ := room1 (n := xs.length + 8 * i + j) (by unfold roomP at hn ⊢; omega)
      have hbc : (xs.length + 8 * i + j) * 1 = (byC (xs ++ (ls.take i).flatMap lng ++ (lng x).take j)).length := by rw [byC_len, hl, Nat.mul_one]
      have hsh : ∀ {t}, abin Try.prog .shr t (.int .i64 x) (.int .i64 (56 - 8 * (j : Int))) = some (.int .i64 (x.fdiv (2 ^ (56 - 8 * j)))) := fun {t} => by
        rw [abin_shrv (by omega), show (56 - 8 * (j : Int)).toNat = 56 - 8 * j by omega, Nat.min_eq_left (by show 56 - 8 * j ≤ 64; omega)]
      have w2 : IntKind.i64.wrap (56 - 8 * (j : Int) - 8) = 56 - 8 * ((j + 1 : Nat) : Int) := by rw [wi (by omega) (by omega)]; omega
      simp only [go_sem, Nat.reduceEqDiff, Nat.reduceAdd, Nat.reduceSub, Nat.reduceMul, Nat.reduceLT, Nat.reduceLeDiff, Int.reducePow, Int.reduceBEq, Int.reduceBNe, Int.reduceDiv, Int.reduceMod, Int.reduceEq, Int.reduceLT, Int.reduceLE, Int.reduceAdd, Int.reduceSub, Int.reduceMul, Int.reduceNeg, Int.reduceToNat, Int.reduceTDiv, Int.reduceTMod, ↓reduceIte, s0, s7, s8, s9, s5, s6, dt (show (0 : Int) ≤ 56 - 8 * (j : Int) by omega), show (56 - 8 * (j : Int) ≥ 0) = True by simp; omega]
      first | refine drawnF ?_ (by decide +kernel) | refine drawnU [(0, 10)] (by decide +kernel) ?_
      simp only [go_sem, Nat.reduceEqDiff, Nat.reduceAdd, Nat.reduceSub, Nat.reduceMul, Nat.reduceLT, Nat.reduceLeDiff, Int.reducePow, Int.reduceBEq, Int.reduceBNe, Int.reduceDiv, Int.reduceMod, Int.reduceEq, Int.reduceLT, Int.reduceLE, Int.reduceAdd, Int.reduceSub, Int.reduceMul, Int.reduceNeg, Int.reduceToNat, Int.reduceTDiv, Int.reduceTMod, ↓reduceIte, s0, s5, s6, hsh, kd, kd0, dp, db, gp, old_get gp, old_get gb, old_set gb, ink_get hne gp, hbc, r1, r2', w2]
      refine ⟨r2 - 1, by omega, (hD.app OnW.one.2.2.1).app OnW.one.2.1, j + 1, by omega, hS.put _ _ (by rw [List.length_append, List.length_append, hfl, List.length_take, lng_len]; omega) (by rw [lng_take x hj, ← List.append_assoc]; exact byC_app _ [lngAt x j]), s7, s8, s9, rfl⟩
    · have hj8 : j = 8 := by omega
      subst hj8
      rw [show (lng x).take 8 = lng x from List.take_of_length_le (by rw [lng_len]; omega)] at hS
      simp only [go_sem, Nat.reduceEqDiff, Nat.reduceAdd, Nat.reduceSub, Nat.reduceMul, Nat.reduceLT, Nat.reduceLeDiff, Int.reducePow, Int.reduceBEq, Int.reduceBNe, Int.reduceDiv, Int.reduceMod, Int.reduceEq, Int.reduceLT, Int.reduceLE, Int.reduceAdd, Int.reduceSub, Int.reduceMul, Int.reduceNeg, Int.reduceToNat, Int.reduceTDiv, Int.reduceTMod, ↓reduceIte, s0, s7, s8, s9, s5, s6, w1, Int.reduceMul, Int.reduceSub]
      exact ⟨r - 1, by omega, hD, i + 1, by omega, by rw [take_snoc hx, List.flatMap_append, List.flatMap_singleton, ← List.append_assoc]; exact hS, hve.symm, rfl⟩
  · have hi : i = ls.length := by omega
    simp only [go_sem, Nat.reduceEqDiff, Nat.reduceAdd, Nat.reduceSub, Nat.reduceMul, Nat.reduceLT, Nat.reduceLeDiff, Int.reducePow, Int.reduceBEq, Int.reduceBNe, Int.reduceDiv, Int.reduceMod, Int.reduceEq, Int.reduceLT, Int.reduceLE, Int.reduceAdd, Int.reduceSub, Int.reduceMul, Int.reduceNeg, Int.reduceToNat, Int.reduceTDiv, Int.reduceTMod, ↓reduceIte, t0, t6, t7, t8, df (show ¬ (i : Int) < (ls.length : Int) by omega)]
    rw [show ls.take i = ls by rw [hi, List.take_length]] at hS
    exact ⟨hD, hS⟩
end Go.Proofs.Ytlcdbangmbdlcaa
/- Writing: the walks of yes, color, goes, path, keys. -/
namespace Go.Proofs.Ytlcdbangmbdlcaa
open Go Go.RowKit E
attribute [local irreducible] XRun XOps XCode XCal XLoop XQ SemCall
set_option linter.unusedSimpArgs false
set_option linter.unusedVariables false
theorem OnW.filt {W : List Nat} {p b : Nat} {q : Nat → Bool} (h : OnW W p b) : OnW (W.filter q) p b := fun x hx => h x (List.mem_filter.1 hx).1
theorem intC_flat (ls : List Int) : (ls.map fun n => [Value.int .i64 n]).flatten = intC ls := by
  induction ls with
  | nil => rfl
  | cons x l ih => rw [List.map_cons, List.flatten_cons, ih]; rfl
/-- A new row of numbers. -/
theorem pb_no {H : AH} {p b c : Nat} {xs : List Int} (h : InkAt H p b xs) (hc : H.length ≤ c) : ¬ pbP p b c := fun e => by
  have := h.lt
  rcases e with e | e <;> omega
theorem ins_new {H H' J : AH} {p b : Nat} {xs : List Int} (h : InkAt H p b xs) (ls : List Int) (hl : ls.length ≤ 1000) {c : Nat} (hc : H.length ≤ c) (hg : H'[c]? = some ⟨intC ls, 0, true⟩) (o : OlP (pbP p b) H' J) : Ins J (sl c 0 0 ls.length 1) ls := by
  have hn := pb_no h hc
  refine .inr ⟨c, 0, [], true, ls.map fun n => [.int .i64 n], rfl, by rw [intC_flat, List.append_nil]; exact o _ _ hn hg, List.length_map .., by omega, fun i x hx => ⟨[.int .i64 x], by simp [hx], rfl, rfl⟩⟩
theorem u8_0 : u8 0 = 0 := by decide +kernel
theorem u8_1 : u8 1 = 1 := by decide +kernel
theorem wyes_ (v : Bool) (p b : Nat) (xs : List Int) (H : AH) (hI : InkAt H p b xs) (hn : roomP (xs.length + 1)) :
    Cal Try.prog 40 [ap p 0 0, .bool v] H fun v' H' W => v' = .tuple #[] ∧ OnW W p b ∧ InkS H H' p b (xs ++ yesO v) := by
  refine of_x ?_
  have kd0 : decide (H.length < H.length) = false := df (by omega)
  cases v with
  | true =>
    refine XCal.of hm Try.func40 rfl (fun xs w => Try.call40 xs w) Try.ntmps40 Try.results40 rfl ?_
    simp only [go_sem, Nat.reduceEqDiff, Nat.reduceAdd, Nat.reduceSub, Nat.reduceMul, Nat.reduceLT, Nat.reduceLeDiff, Int.reducePow, Int.reduceBEq, Int.reduceBNe, Int.reduceDiv, Int.reduceMod, Int.reduceEq, Int.reduceLT, Int.reduceLE, Int.reduceAdd, Int.reduceSub, Int.reduceMul, Int.reduceNeg, Int.reduceToNat, Int.reduceTDiv, Int.reduceTMod, ↓reduceIte, kd0]
    refine (wsmall_ [1] _ p b xs _ (hI.app _) (fun J o => ins_new hI [1] (by decide) (Nat.le_refl _) (by rw [hget_app0]; rfl) o) hn).x ?_
    rintro v H1 W ⟨rfl, hW, hS⟩
    simp only [go_sem, Nat.reduceEqDiff, Nat.reduceAdd, Nat.reduceSub, Nat.reduceMul, Nat.reduceLT, Nat.reduceLeDiff, Int.reducePow, Int.reduceBEq, Int.reduceBNe, Int.reduceDiv, Int.reduceMod, Int.reduceEq, Int.reduceLT, Int.reduceLE, Int.reduceAdd, Int.reduceSub, Int.reduceMul, Int.reduceNeg, Int.reduceToNat, Int.reduceTDiv, Int.reduceTMod, ↓reduceIte]
    have hS := ((InkS.refl hI).app _).trans hS
    rw [List.map_singleton, u8_1] at hS
    exact ⟨hW.filt, hS⟩
  | false =>
    refine XCal.of hm Try.func40 rfl (fun xs w => Try.call40 xs w) Try.ntmps40 Try.results40 rfl ?_
    simp only [go_sem, Nat.reduceEqDiff, Nat.reduceAdd, Nat.reduceSub, Nat.reduceMul, Nat.reduceLT, Nat.reduceLeDiff, Int.reducePow, Int.reduceBEq, Int.reduceBNe, Int.reduceDiv, Int.reduceMod, Int.reduceEq, Int.reduceLT, Int.reduceLE, Int.reduceAdd, Int.reduceSub, Int.reduceMul, Int.reduceNeg, Int.reduceToNat, Int.reduceTDiv, Int.reduceTMod, ↓reduceIte, kd0]
    refine (wsmall_ [0] _ p b xs _ (hI.app _) (fun J o => ins_new hI [0] (by decide) (Nat.le_refl _) (by rw [hget_app0]; rfl) o) hn).x ?_
    rintro v H1 W ⟨rfl, hW, hS⟩
    simp only [go_sem, Nat.reduceEqDiff, Nat.reduceAdd, Nat.reduceSub, Nat.reduceMul, Nat.reduceLT, Nat.reduceLeDiff, Int.reducePow, Int.reduceBEq, Int.reduceBNe, Int.reduceDiv, Int.reduceMod, Int.reduceEq, Int.reduceLT, Int.reduceLE, Int.reduceAdd, Int.reduceSub, Int.reduceMul, Int.reduceNeg, Int.reduceToNat, Int.reduceTDiv, Int.reduceTMod, ↓reduceIte]
    have hS := ((InkS.refl hI).app _).trans hS
    rw [List.map_singleton, u8_0] at hS
    exact ⟨hW.filt, hS⟩
theorem wcolor_ (c : C4) (p b : Nat) (xs : List Int) (H : AH) (hI : InkAt H p b xs) (hn : roomP (xs.length + 4)) :
    Cal Try.prog 41 [ap p 0 0, .agg (c4C c).toArray] H fun v' H' W => v' = .tuple #[] ∧ OnW W p b ∧ InkS H H' p b (xs ++ colO c) := by
  refine of_x ?_
  have kd0 : decide (H.length < H.length) = false := df (by omega)
  obtain ⟨hpl, hbl⟩ := hI.lt
  have dp : decide (p < H.length) = true := dt hpl
  have db : decide (b < H.length) = true := dt hbl
  obtain ⟨hne, g, gp, gb⟩ := hI
  have hbc : xs.length * 1 = (byC xs).length := by rw [byC_len, Nat.mul_one]
  have r2 : xs.length + 4 - 140737488355328 = 0 := Nat.sub_eq_zero_of_le (Nat.le_trans hn (by decide))
  have r1 : (xs.length + 4) * 1 - 140737488355328 = 0 := by rw [Nat.mul_one]; exact r2
  have hsl : aslicep Try.prog (H ++ [(⟨c4C c, 0, true⟩ : Blk)]) 49 (ap H.length 0 0) none none = some (sl H.length 0 0 4 1, H.length) := by
    simp only [go_sem, Nat.reduceEqDiff, Nat.reduceAdd, Nat.reduceSub, Nat.reduceMul, Nat.reduceLT, Nat.reduceLeDiff, Int.reducePow, Int.reduceBEq, Int.reduceBNe, Int.reduceDiv, Int.reduceMod, Int.reduceEq, Int.reduceLT, Int.reduceLE, Int.reduceAdd, Int.reduceSub, Int.reduceMul, Int.reduceNeg, Int.reduceToNat, Int.reduceTDiv, Int.reduceTMod, ↓reduceIte, aslicep, hget_app0, abound, true_and, and_self, and_true]
  have hkq : ∀ {R : KV}, Kq Try.prog (H ++ [(⟨c4C c, 0, true⟩ : Blk)]) 49 (ap H.length 0 0) none none none (aslice Try.prog 49 (ap H.length 0 0) none none none) = R.go (sl H.length 0 0 4 1) (H ++ [⟨c4C c, 0, true⟩]) ⟨[], some [H.length]⟩ := fun {R} => by
    show Kl _ (aslicep _ _ _ _ _ _) = _
    rw [hsl]; rfl
  refine XCal.of hm Try.func41 rfl (fun xs w => Try.call41 xs w) Try.ntmps41 Try.results41 rfl ?_
  simp only [go_sem, Nat.reduceEqDiff, Nat.reduceAdd, Nat.reduceSub, Nat.reduceMul, Nat.reduceLT, Nat.reduceLeDiff, Int.reducePow, Int.reduceBEq, Int.reduceBNe, Int.reduceDiv, Int.reduceMod, Int.reduceEq, Int.reduceLT, Int.reduceLE, Int.reduceAdd, Int.reduceSub, Int.reduceMul, Int.reduceNeg, Int.reduceToNat, Int.reduceTDiv, Int.reduceTMod, ↓reduceIte, kd0]
  first | refine drawnF ?_ (by decide +kernel) | refine drawnU [(0, 6)] (by decide +kernel) ?_
  simp only [go_sem, Nat.reduceEqDiff, Nat.reduceAdd, Nat.reduceSub, Nat.reduceMul, Nat.reduceLT, Nat.reduceLeDiff, Int.reducePow, Int.reduceBEq, Int.reduceBNe, Int.reduceDiv, Int.reduceMod, Int.reduceEq, Int.reduceLT, Int.reduceLE, Int.reduceAdd, Int.reduceSub, Int.reduceMul, Int.reduceNeg, Int.reduceToNat, Int.reduceTDiv, Int.reduceTMod, ↓reduceIte, kd0, dp, db, hkq, gp, old_get gp, gb, old_get gb, old_set gb, ink_get hne gp, hbc, r1, r2]
  exact ⟨OnW.one.1, (InkS.refl ⟨hne, g, gp, gb⟩).put _ _ (by rw [List.length_append]; rfl) (byC_app xs (colO c))⟩
theorem wgoes_ (how : Int) (e : Ez) (p b : Nat) (xs : List Int) (H : AH) (hI : InkAt H p b xs) (hn : roomP (xs.length + 33)) :
    Cal Try.prog 39 [ap p 0 0, .int .i64 how, .agg (ezC e).toArray] H fun v' H' W => v' = .tuple #[] ∧ OnW W p b ∧ InkS H H' p b (xs ++ easeO how e) := by
  refine of_x ?_
  have kd : ∀ n, decide (H.length + n < H.length) = false := fun n => df (by omega)
  have kd0 : decide (H.length < H.length) = false := df (by omega)
  refine XCal.of hm Try.func39 rfl (fun xs w => Try.call39 xs w) Try.ntmps39 Try.results39 rfl ?_
  simp only [go_sem, Nat.reduceEqDiff, Nat.reduceAdd, Nat.reduceSub, Nat.reduceMul, Nat.reduceLT, Nat.reduceLeDiff, Int.reducePow, Int.reduceBEq, Int.reduceBNe, Int.reduceDiv, Int.reduceMod, Int.reduceEq, Int.reduceLT, Int.reduceLE, Int.reduceAdd, Int.reduceSub, Int.reduceMul, Int.reduceNeg, Int.reduceToNat, Int.reduceTDiv, Int.reduceTMod, ↓reduceIte, kd, kd0]
  have hB := (InkS.refl hI).app [⟨ezC e, 0, true⟩, ⟨[.int .i64 how], 0, true⟩]
  have hn1 : roomP (xs.length + [how].length) := by unfold roomP at hn ⊢; simp; omega
  refine (wsmall_ [how] _ p b xs _ hB.ink (fun J o => ins_new hI [how] (by simp) (c := H.length + 1) (by omega) (by rw [hget_app]; rfl) o) hn1).x ?_
  rintro v H1 W ⟨rfl, hW, hS⟩
  have gz : H1[H.length]? = some ⟨ezC e, 0, true⟩ := hS.old _ _ (pb_no hI (Nat.le_refl _)) (by rw [hget_app0]; rfl)
  have hS := hB.trans hS
  have hS : InkS H H1 p b (xs ++ [u8 how]) := hS
  have kd1 : ∀ n, decide (H1.length + n < H.length) = false := fun n => df (by have := hS.len; omega)
  have kd10 : decide (H1.length < H.length) = false := df (by have := hS.len; omega)
  by_cases h2 : how = 2
  · subst h2
    simp only [go_sem, Nat.reduceEqDiff, Nat.reduceAdd, Nat.reduceSub, Nat.reduceMul, Nat.reduceLT, Nat.reduceLeDiff, Int.reducePow, Int.reduceBEq, Int.reduceBNe, Int.reduceDiv, Int.reduceMod, Int.reduceEq, Int.reduceLT, Int.reduceLE, Int.reduceAdd, Int.reduceSub, Int.reduceMul, Int.reduceNeg, Int.reduceToNat, Int.reduceTDiv, Int.reduceTMod, ↓reduceIte, kd1, kd10, gz, beq_self_eq_true]
    have hB1 := hS.app [⟨[.int .i64 e.x1, .int .i64 e.y1, .int .i64 e.x2, .int .i64 e.y2], 0, true⟩]
    refine (wwhole_ [e.x1, e.y1, e.x2, e.y2] _ p b _ _ hB1.ink (fun J o => ins_new hI [e.x1, e.y1, e.x2, e.y2] (by simp) hS.len (by rw [hget_app0]; rfl) o) (by unfold roomP at hn ⊢; simp; omega)).x ?_
    rintro v H2 W2 ⟨rfl, hW2, hS2⟩
    simp only [go_sem, Nat.reduceEqDiff, Nat.reduceAdd, Nat.reduceSub, Nat.reduceMul, Nat.reduceLT, Nat.reduceLeDiff, Int.reducePow, Int.reduceBEq, Int.reduceBNe, Int.reduceDiv, Int.reduceMod, Int.reduceEq, Int.reduceLT, Int.reduceLE, Int.reduceAdd, Int.reduceSub, Int.reduceMul, Int.reduceNeg, Int.reduceToNat, Int.reduceTDiv, Int.reduceTMod, ↓reduceIte]
    refine ⟨hW.filt.app hW2.filt, ?_⟩
    rw [show xs ++ easeO 2 e = xs ++ [u8 2] ++ [e.x1, e.y1, e.x2, e.y2].flatMap lng by simp [easeO]]
    exact hB1.trans hS2
  · simp only [go_sem, Nat.reduceEqDiff, Nat.reduceAdd, Nat.reduceSub, Nat.reduceMul, Nat.reduceLT, Nat.reduceLeDiff, Int.reducePow, Int.reduceBEq, Int.reduceBNe, Int.reduceDiv, Int.reduceMod, Int.reduceEq, Int.reduceLT, Int.reduceLE, Int.reduceAdd, Int.reduceSub, Int.reduceMul, Int.reduceNeg, Int.reduceToNat, Int.reduceTDiv, Int.reduceTMod, ↓reduceIte, kd1, kd10, gz, bf h2]
    refine ⟨hW.filt, ?_⟩
    rw [show xs ++ easeO how e = xs ++ [u8 how] by simp [easeO, h2]]
    exact hS
theorem flat_take {α : Type} {f : α → List Int} {l : List α} (i : Nat) : ((l.take i).flatMap f).length ≤ (l.flatMap f).length := by
  conv => rhs; rw [← List.take_append_drop i l, List.flatMap_append, List.length_append]
  omega
end Go.Proofs.Ytlcdbangmbdlcaa
/- Documents: the walks of what judges colours, dashes, paths of keys, paints. -/
namespace Go.Proofs.Ytlcdbangmbdlcaa
open Go Go.RowKit E
attribute [local irreducible] XRun XOps XCode XCal XLoop XQ SemCall
set_option linter.unusedSimpArgs false
set_option linter.unusedVariables false
set_option maxHeartbeats 4000000 in
theorem hueR_ (l : List Ck) (v : Value) (H : AH) (h : Cks H v l) : SemCall Try.prog 64 [v] H (.bool (cksB l)) H [] := by
  refine pure_of ?_ rfl
  have hlen := h.len
  obtain ⟨va, ve, hv⟩ := h.form
  subst hv
  refine XCal.of hm Try.func64 rfl (fun xs w => Try.call64 xs w) Try.ntmps64 Try.results64 rfl ?_
  simp only [go_sem, Nat.reduceEqDiff, Nat.reduceAdd, Nat.reduceSub, Nat.reduceMul, Nat.reduceLT, Nat.reduceLeDiff, Int.reducePow, Int.reduceBEq, Int.reduceBNe, Int.reduceDiv, Int.reduceMod, Int.reduceEq, Int.reduceLT, Int.reduceLE, Int.reduceAdd, Int.reduceSub, Int.reduceMul, Int.reduceNeg, Int.reduceToNat, Int.reduceTDiv, Int.reduceTMod, ↓reduceIte]
  refine keep (fun k T K D => D = [] ∧ ∃ (i : Nat) (a : Int), i + k = l.length ∧ Old H K ∧ H.length ≤ K.length ∧ cksB l = (cksGo (decide (i = 0)) a (l.drop i) && decide ((l.length : Int) ≤ 32)) ∧ T 0 = .slice va l.length ve ∧ T 3 = .int .i64 a ∧ T 6 = .slice va l.length ve ∧ T 7 = .int .i64 (l.length : Int) ∧ T 8 = .int .i64 (i : Int)) l.length
    ⟨rfl, 0, 0, by omega, Old.refl _, by omega, rfl, by simp only [go_sem, Nat.reduceEqDiff, Nat.reduceAdd, Nat.reduceSub, Nat.reduceMul, Nat.reduceLT, Nat.reduceLeDiff, Int.reducePow, Int.reduceBEq, Int.reduceBNe, Int.reduceDiv, Int.reduceMod, Int.reduceEq, Int.reduceLT, Int.reduceLE, Int.reduceAdd, Int.reduceSub, Int.reduceMul, Int.reduceNeg, Int.reduceToNat, Int.reduceTDiv, Int.reduceTMod, ↓reduceIte], by simp only [go_sem, Nat.reduceEqDiff, Nat.reduceAdd, Nat.reduceSub, Nat.reduceMul, Nat.reduceLT, Nat.reduceLeDiff, Int.reducePow, Int.reduceBEq, Int.reduceBNe, Int.reduceDiv, Int.reduceMod, Int.reduceEq, Int.reduceLT, Int.reduceLE, Int.reduceAdd, Int.reduceSub, Int.reduceMul, Int.reduceNeg, Int.reduceToNat, Int.reduceTDiv, Int.reduceTMod, ↓reduceIte] <;> rfl, by simp only [go_sem, Nat.reduceEqDiff, Nat.reduceAdd, Nat.reduceSub, Nat.reduceMul, Nat.reduceLT, Nat.reduceLeDiff, Int.reducePow, Int.reduceBEq, Int.reduceBNe, Int.reduceDiv, Int.reduceMod, Int.reduceEq, Int.reduceLT, Int.reduceLE, Int.reduceAdd, Int.reduceSub, Int.reduceMul, Int.reduceNeg, Int.reduceToNat, Int.reduceTDiv, Int.reduceTMod, ↓reduceIte], by simp only [go_sem, Nat.reduceEqDiff, Nat.reduceAdd, Nat.reduceSub, Nat.reduceMul, Nat.reduceLT, Nat.reduceLeDiff, Int.reducePow, Int.reduceBEq, Int.reduceBNe, Int.reduceDiv, Int.reduceMod, Int.reduceEq, Int.reduceLT, Int.reduceLE, Int.reduceAdd, Int.reduceSub, Int.reduceMul, Int.reduceNeg, Int.reduceToNat, Int.reduceTDiv, Int.reduceTMod, ↓reduceIte], by simp only [go_sem, Nat.reduceEqDiff, Nat.reduceAdd, Nat.reduceSub, Nat.reduceMul, Nat.reduceLT, Nat.reduceLeDiff, Int.reducePow, Int.reduceBEq, Int.reduceBNe, Int.reduceDiv, Int.reduceMod, Int.reduceEq, Int.reduceLT, Int.reduceLE, Int.reduceAdd, Int.reduceSub, Int.reduceMul, Int.reduceNeg, Int.reduceToNat, Int.reduceTDiv, Int.reduceTMod, ↓reduceIte] <;> rfl⟩ ?_
  rintro k T K D ⟨rfl, i, a, hik, hold, hKl, hr, t0, t3, t6, t7, t8⟩
  have kd : ∀ n, decide (K.length + n < H.length) = false := fun n => df (by omega)
  have kd0 : decide (K.length < H.length) = false := df (by omega)
  by_cases hk : i < l.length
  · obtain ⟨x, hx⟩ : ∃ x, l[i]? = some x := ⟨_, List.getElem?_eq_getElem hk⟩
    obtain ⟨b, g, cells, rw_, c, hve, hb, hc, hcl, hle, hld, hgt⟩ := h.at hx
    have hc : c = ckC x := hc
    subst hc
    have kb := hold _ _ hb
    rw [drop_at hx] at hr
    simp only [cksGo] at hr
    rw [hve] at t0 t6
    have q0 : (0 : Int) ≤ (i : Int) := by omega
    have q1 : (i : Int) < (l.length : Int) := by omega
    have w1 : IntKind.i64.wrap ((i : Int) + 1) = ((i + 1 : Nat) : Int) := by rw [wi (by omega) (by omega)]; rfl
    have ks := fun H => kstep_ i a x.t x.how x.e H
    cases hs : kstB (decide (i = 0)) a x.t x.how x.e with
    | false =>
      rw [hs] at ks hr
      simp only [go_sem, Nat.reduceEqDiff, Nat.reduceAdd, Nat.reduceSub, Nat.reduceMul, Nat.reduceLT, Nat.reduceLeDiff, Int.reducePow, Int.reduceBEq, Int.reduceBNe, Int.reduceDiv, Int.reduceMod, Int.reduceEq, Int.reduceLT, Int.reduceLE, Int.reduceAdd, Int.reduceSub, Int.reduceMul, Int.reduceNeg, Int.reduceToNat, Int.reduceTDiv, Int.reduceTMod, ↓reduceIte, t0, t3, t6, t7, t8, dt q1, q0, q1, Int.toNat_natCast, Nat.zero_add, kb, hld, kd, kd0]
      repeat ((first | refine (ks _).x ?_ | refine drawnF ?_ (by decide +kernel)); simp only [go_sem, Nat.reduceEqDiff, Nat.reduceAdd, Nat.reduceSub, Nat.reduceMul, Nat.reduceLT, Nat.reduceLeDiff, Int.reducePow, Int.reduceBEq, Int.reduceBNe, Int.reduceDiv, Int.reduceMod, Int.reduceEq, Int.reduceLT, Int.reduceLE, Int.reduceAdd, Int.reduceSub, Int.reduceMul, Int.reduceNeg, Int.reduceToNat, Int.reduceTDiv, Int.reduceTMod, ↓reduceIte, kd, kd0, t0, t3, t6, t7, t8])
      rw [hr]; rfl
    | true =>
      rw [hs] at ks hr
      simp only [go_sem, Nat.reduceEqDiff, Nat.reduceAdd, Nat.reduceSub, Nat.reduceMul, Nat.reduceLT, Nat.reduceLeDiff, Int.reducePow, Int.reduceBEq, Int.reduceBNe, Int.reduceDiv, Int.reduceMod, Int.reduceEq, Int.reduceLT, Int.reduceLE, Int.reduceAdd, Int.reduceSub, Int.reduceMul, Int.reduceNeg, Int.reduceToNat, Int.reduceTDiv, Int.reduceTMod, ↓reduceIte, t0, t3, t6, t7, t8, dt q1, q0, q1, Int.toNat_natCast, Nat.zero_add, kb, hld, kd, kd0]
      repeat ((first | refine (ks _).x ?_ | refine drawnF ?_ (by decide +kernel)); simp only [go_sem, Nat.reduceEqDiff, Nat.reduceAdd, Nat.reduceSub, Nat.reduceMul, Nat.reduceLT, Nat.reduceLeDiff, Int.reducePow, Int.reduceBEq, Int.reduceBNe, Int.reduceDiv, Int.reduceMod, Int.reduceEq, Int.reduceLT, Int.reduceLE, Int.reduceAdd, Int.reduceSub, Int.reduceMul, Int.reduceNeg, Int.reduceToNat, Int.reduceTDiv, Int.reduceTMod, ↓reduceIte, kd, kd0, t0, t3, t6, t7, t8, w1])
      exact ⟨k - 1, by omega, i + 1, x.t, by omega, hold.app _, by omega, by rw [df (show ¬ i + 1 = 0 by omega)]; exact hr, hve.symm, rfl, hve.symm, rfl⟩
  · have hi : i = l.length := by omega
    subst hi
    rw [List.drop_eq_nil_of_le (by omega)] at hr
    simp only [go_sem, Nat.reduceEqDiff, Nat.reduceAdd, Nat.reduceSub, Nat.reduceMul, Nat.reduceLT, Nat.reduceLeDiff, Int.reducePow, Int.reduceBEq, Int.reduceBNe, Int.reduceDiv, Int.reduceMod, Int.reduceEq, Int.reduceLT, Int.reduceLE, Int.reduceAdd, Int.reduceSub, Int.reduceMul, Int.reduceNeg, Int.reduceToNat, Int.reduceTDiv, Int.reduceTMod, ↓reduceIte, t0, t3, t6, t7, t8, df (show ¬ ((l.length : Nat) : Int) < (l.length : Int) by omega)]
    rw [hr]; rfl
/-- Where the first is that something holds of. -/
def idxG {α : Type} (p : α → Bool) : List α → Nat → Int
  | [], _ => -1
  | x :: t, i => if p x = true then (i : Int) else idxG p t (i + 1)
theorem idxG_ge {α : Type} (p : α → Bool) : ∀ (l : List α) (i : Nat), decide (0 ≤ idxG p l i) = l.any p
  | [], i => rfl
  | x :: t, i => by
    cases h : p x with
    | true => rw [idxG, if_pos h, List.any_cons, h, Bool.true_or]; exact dt (by omega)
    | false => rw [idxG, if_neg (by rw [h]; decide), idxG_ge p t (i + 1), List.any_cons, h, Bool.false_or]
def dashG (n : Int) : Bool := decide (n < 65536) || decide (67108864 < n)
theorem dashR1_ (n : Int) (H : AH) : SemCall Try.prog 75 [.int .i64 n] H (.bool (dashG n)) H [] := by
  refine pure_of ?_ rfl
  unfold dashG
  cases h : decide (n < 65536)
  all_goals
    refine XCal.of hm Try.func75 rfl (fun xs w => Try.call75 xs w) Try.ntmps75 Try.results75 rfl ?_
    simp only [go_sem, Nat.reduceEqDiff, Nat.reduceAdd, Nat.reduceSub, Nat.reduceMul, Nat.reduceLT, Nat.reduceLeDiff, Int.reducePow, Int.reduceBEq, Int.reduceBNe, Int.reduceDiv, Int.reduceMod, Int.reduceEq, Int.reduceLT, Int.reduceLE, Int.reduceAdd, Int.reduceSub, Int.reduceMul, Int.reduceNeg, Int.reduceToNat, Int.reduceTDiv, Int.reduceTMod, ↓reduceIte, h]
theorem dash_all : ∀ (l : List Int), (l.all fun n => decide (65536 ≤ n) && decide (n ≤ 67108864)) = !l.any dashG
  | [] => rfl
  | x :: t => by
    rw [List.all_cons, List.any_cons, dash_all t, Bool.not_or]
    congr 1
    unfold dashG
    rw [Bool.not_or, not_lt_d, not_lt_d]
theorem dIndex_ (l : List Int) (v : Value) (H : AH) (h : Ins H v l) : SemCall Try.prog 79 [v, .func (.func 75) [].toArray [].toArray] H (.int .i64 (idxG dashG l 0)) H [] := by
  refine pure_of ?_ rfl
  have hlen := h.len
  obtain ⟨va, ve, hv⟩ := h.form
  subst hv
  refine XCal.of hm Try.func79 rfl (fun xs w => Try.call79 xs w) Try.ntmps79 Try.results79 rfl ?_
  simp only [go_sem, Nat.reduceEqDiff, Nat.reduceAdd, Nat.reduceSub, Nat.reduceMul, Nat.reduceLT, Nat.reduceLeDiff, Int.reducePow, Int.reduceBEq, Int.reduceBNe, Int.reduceDiv, Int.reduceMod, Int.reduceEq, Int.reduceLT, Int.reduceLE, Int.reduceAdd, Int.reduceSub, Int.reduceMul, Int.reduceNeg, Int.reduceToNat, Int.reduceTDiv, Int.reduceTMod, ↓reduceIte]
  refine keep (fun k T H' D => H = H' ∧ D = [] ∧ T 0 = .slice va l.length ve ∧ T 1 = .func (.func 75) [].toArray [].toArray ∧ T 7 = .int .i64 (l.length : Int) ∧ ∃ i : Nat, i + k = l.length ∧ T 8 = .int .i64 (i : Int) ∧ idxG dashG (l.drop i) i = idxG dashG l 0) l.length ⟨rfl, rfl, rfl, rfl, rfl, 0, by omega, rfl, rfl⟩ ?_
  rintro k T H' D ⟨rfl, rfl, h0, h1, h7, i, hi, h8, hr⟩
  by_cases hk : i < l.length
  · obtain ⟨x, hx⟩ : ∃ x, l[i]? = some x := ⟨_, List.getElem?_eq_getElem hk⟩
    obtain ⟨b, g, cells, rw_, c, hve, hb, hc, hcl, hle, hld, hgt⟩ := h.at hx
    have hc : c = [.int .i64 x] := hc
    subst hc
    have hg := hgt 0 (by omega)
    rw [Nat.mul_one, Nat.add_zero] at hg
    have hg : cells[i]? = some (.int .i64 x) := hg
    rw [hve] at h0
    rw [drop_at hx, idxG] at hr
    have w1 : IntKind.i64.wrap ((i : Int) + 1) = ((i + 1 : Nat) : Int) := by rw [wi (by omega) (by omega)]; rfl
    have c1 := fun H => dashR1_ x H
    cases hd : dashG x with
    | true =>
      rw [hd] at c1
      rw [if_pos hd] at hr
      simp only [go_sem, Nat.reduceEqDiff, Nat.reduceAdd, Nat.reduceSub, Nat.reduceMul, Nat.reduceLT, Nat.reduceLeDiff, Int.reducePow, Int.reduceBEq, Int.reduceBNe, Int.reduceDiv, Int.reduceMod, Int.reduceEq, Int.reduceLT, Int.reduceLE, Int.reduceAdd, Int.reduceSub, Int.reduceMul, Int.reduceNeg, Int.reduceToNat, Int.reduceTDiv, Int.reduceTMod, ↓reduceIte, h0, h1, h7, h8, dt (show (i : Int) < (l.length : Int) by omega), hb, show (0 : Int) ≤ (i : Int) by omega, show (i : Int) < (l.length : Int) by omega, Int.toNat_natCast, Nat.zero_add, Nat.mul_one, hg]
      refine (c1 _).x ?_
      simp only [go_sem, Nat.reduceEqDiff, Nat.reduceAdd, Nat.reduceSub, Nat.reduceMul, Nat.reduceLT, Nat.reduceLeDiff, Int.reducePow, Int.reduceBEq, Int.reduceBNe, Int.reduceDiv, Int.reduceMod, Int.reduceEq, Int.reduceLT, Int.reduceLE, Int.reduceAdd, Int.reduceSub, Int.reduceMul, Int.reduceNeg, Int.reduceToNat, Int.reduceTDiv, Int.reduceTMod, ↓reduceIte, h0, h1, h7, h8]
      rw [← hr]
    | false =>
      rw [hd] at c1
      rw [if_neg (by rw [hd]; decide)] at hr
      simp only [go_sem, Nat.reduceEqDiff, Nat.reduceAdd, Nat.reduceSub, Nat.reduceMul, Nat.reduceLT, Nat.reduceLeDiff, Int.reducePow, Int.reduceBEq, Int.reduceBNe, Int.reduceDiv, Int.reduceMod, Int.reduceEq, Int.reduceLT, Int.reduceLE, Int.reduceAdd, Int.reduceSub, Int.reduceMul, Int.reduceNeg, Int.reduceToNat, Int.reduceTDiv, Int.reduceTMod, ↓reduceIte, h0, h1, h7, h8, dt (show (i : Int) < (l.length : Int) by omega), hb, show (0 : Int) ≤ (i : Int) by omega, show (i : Int) < (l.length : Int) by omega, Int.toNat_natCast, Nat.zero_add, Nat.mul_one, hg]
      refine (c1 _).x ?_
      simp only [go_sem, Nat.reduceEqDiff, Nat.reduceAdd, Nat.reduceSub, Nat.reduceMul, Nat.reduceLT, Nat.reduceLeDiff, Int.reducePow, Int.reduceBEq, Int.reduceBNe, Int.reduceDiv, Int.reduceMod, Int.reduceEq, Int.reduceLT, Int.reduceLE, Int.reduceAdd, Int.reduceSub, Int.reduceMul, Int.reduceNeg, Int.reduceToNat, Int.reduceTDiv, Int.reduceTMod, ↓reduceIte, h0, h1, h7, h8, w1]
      exact ⟨k - 1, by omega, hve.symm, i + 1, by omega, rfl, hr⟩
  · rw [List.drop_eq_nil_of_le (by omega)] at hr
    simp only [go_sem, Nat.reduceEqDiff, Nat.reduceAdd, Nat.reduceSub, Nat.reduceMul, Nat.reduceLT, Nat.reduceLeDiff, Int.reducePow, Int.reduceBEq, Int.reduceBNe, Int.reduceDiv, Int.reduceMod, Int.reduceEq, Int.reduceLT, Int.reduceLE, Int.reduceAdd, Int.reduceSub, Int.reduceMul, Int.reduceNeg, Int.reduceToNat, Int.reduceTDiv, Int.reduceTMod, ↓reduceIte, h0, h1, h7, h8, df (show ¬ (i : Int) < (l.length : Int) by omega)]
    rw [← hr]; rfl
theorem dContains_ (l : List Int) (v : Value) (H : AH) (h : Ins H v l) : SemCall Try.prog 74 [v, .func (.func 75) [].toArray [].toArray] H (.bool (l.any dashG)) H [] := by
  refine pure_of ?_ rfl
  refine XCal.of hm Try.func74 rfl (fun xs w => Try.call74 xs w) Try.ntmps74 Try.results74 rfl ?_
  simp only [go_sem, Nat.reduceEqDiff, Nat.reduceAdd, Nat.reduceSub, Nat.reduceMul, Nat.reduceLT, Nat.reduceLeDiff, Int.reducePow, Int.reduceBEq, Int.reduceBNe, Int.reduceDiv, Int.reduceMod, Int.reduceEq, Int.reduceLT, Int.reduceLE, Int.reduceAdd, Int.reduceSub, Int.reduceMul, Int.reduceNeg, Int.reduceToNat, Int.reduceTDiv, Int.reduceTMod, ↓reduceIte]
  repeat ((first | refine (dIndex_ l v _ h).x ?_ | refine drawnF ?_ (by decide +kernel)); simp only [go_sem, Nat.reduceEqDiff, Nat.reduceAdd, Nat.reduceSub, Nat.reduceMul, Nat.reduceLT, Nat.reduceLeDiff, Int.reducePow, Int.reduceBEq, Int.reduceBNe, Int.reduceDiv, Int.reduceMod, Int.reduceEq, Int.reduceLT, Int.reduceLE, Int.reduceAdd, Int.reduceSub, Int.reduceMul, Int.reduceNeg, Int.reduceToNat, Int.reduceTDiv, Int.reduceTMod, ↓reduceIte, idxG_ge])
theorem dashR_ (l : List Int) (v : Value) (H : AH) (h : Ins H v l) : SemCall Try.prog 65 [v] H (.bool (dashB l)) H [] := by
  refine pure_of ?_ rfl
  obtain ⟨va, ve, hv⟩ := h.form
  subst hv
  unfold dashB
  rw [dash_all]
  cases hd : decide ((l.length : Int) ≤ 8)
  all_goals
    refine XCal.of hm Try.func65 rfl (fun xs w => Try.call65 xs w) Try.ntmps65 Try.results65 rfl ?_
    simp only [go_sem, Nat.reduceEqDiff, Nat.reduceAdd, Nat.reduceSub, Nat.reduceMul, Nat.reduceLT, Nat.reduceLeDiff, Int.reducePow, Int.reduceBEq, Int.reduceBNe, Int.reduceDiv, Int.reduceMod, Int.reduceEq, Int.reduceLT, Int.reduceLE, Int.reduceAdd, Int.reduceSub, Int.reduceMul, Int.reduceNeg, Int.reduceToNat, Int.reduceTDiv, Int.reduceTMod, ↓reduceIte, hd]
    repeat ((first | refine (dContains_ l _ _ h).x ?_ | refine drawnF ?_ (by decide +kernel)); simp only [go_sem, Nat.reduceEqDiff, Nat.reduceAdd, Nat.reduceSub, Nat.reduceMul, Nat.reduceLT, Nat.reduceLeDiff, Int.reducePow, Int.reduceBEq, Int.reduceBNe, Int.reduceDiv, Int.reduceMod, Int.reduceEq, Int.reduceLT, Int.reduceLE, Int.reduceAdd, Int.reduceSub, Int.reduceMul, Int.reduceNeg, Int.reduceToNat, Int.reduceTDiv, Int.reduceTMod, ↓reduceIte, hd])
theorem snear_ (x : Int) (H : AH) : SemCall Try.prog 73 [.int .i64 x] H (.bool (nearB x)) H [] := by
  refine pure_of ?_ rfl
  unfold nearB
  cases h1 : decide (-67108864 ≤ x) with
  | false =>
    refine XCal.of hm Try.func73 rfl (fun xs w => Try.call73 xs w) Try.ntmps73 Try.results73 rfl ?_
    simp only [go_sem, Nat.reduceEqDiff, Nat.reduceAdd, Nat.reduceSub, Nat.reduceMul, Nat.reduceLT, Nat.reduceLeDiff, Int.reducePow, Int.reduceBEq, Int.reduceBNe, Int.reduceDiv, Int.reduceMod, Int.reduceEq, Int.reduceLT, Int.reduceLE, Int.reduceAdd, Int.reduceSub, Int.reduceMul, Int.reduceNeg, Int.reduceToNat, Int.reduceTDiv, Int.reduceTMod, ↓reduceIte, h1]
  | true =>
    refine XCal.of hm Try.func73 rfl (fun xs w => Try.call73 xs w) Try.ntmps73 Try.results73 rfl ?_
    simp only [go_sem, Nat.reduceEqDiff, Nat.reduceAdd, Nat.reduceSub, Nat.reduceMul, Nat.reduceLT, Nat.reduceLeDiff, Int.reducePow, Int.reduceBEq, Int.reduceBNe, Int.reduceDiv, Int.reduceMod, Int.reduceEq, Int.reduceLT, Int.reduceLE, Int.reduceAdd, Int.reduceSub, Int.reduceMul, Int.reduceNeg, Int.reduceToNat, Int.reduceTDiv, Int.reduceTMod, ↓reduceIte, h1]
theorem pnear_ (x : Int) (H : AH) : SemCall Try.prog 66 [.int .i64 x] H (.bool (nearB x)) H [] := by
  refine pure_of ?_ rfl
  unfold nearB
  cases h1 : decide (-67108864 ≤ x) with
  | false =>
    refine XCal.of hm Try.func66 rfl (fun xs w => Try.call66 xs w) Try.ntmps66 Try.results66 rfl ?_
    simp only [go_sem, Nat.reduceEqDiff, Nat.reduceAdd, Nat.reduceSub, Nat.reduceMul, Nat.reduceLT, Nat.reduceLeDiff, Int.reducePow, Int.reduceBEq, Int.reduceBNe, Int.reduceDiv, Int.reduceMod, Int.reduceEq, Int.reduceLT, Int.reduceLE, Int.reduceAdd, Int.reduceSub, Int.reduceMul, Int.reduceNeg, Int.reduceToNat, Int.reduceTDiv, Int.reduceTMod, ↓reduceIte, h1]
  | true =>
    refine XCal.of hm Try.func66 rfl (fun xs w => Try.call66 xs w) Try.ntmps66 Try.results66 rfl ?_
    simp only [go_sem, Nat.reduceEqDiff, Nat.reduceAdd, Nat.reduceSub, Nat.reduceMul, Nat.reduceLT, Nat.reduceLeDiff, Int.reducePow, Int.reduceBEq, Int.reduceBNe, Int.reduceDiv, Int.reduceMod, Int.reduceEq, Int.reduceLT, Int.reduceLE, Int.reduceAdd, Int.reduceSub, Int.reduceMul, Int.reduceNeg, Int.reduceToNat, Int.reduceTDiv, Int.reduceTMod, ↓reduceIte, h1]
abbrev pntV (p : Pnt) : Value := .agg (pntC p).toArray
theorem spaint_ (p : Pnt) (H : AH) : SemCall Try.prog 63 [pntV p] H (.bool (paintB p)) H [] := by
  refine pure_of ?_ rfl
  unfold paintB
  cases h1 : nearB p.p.1 with
  | false =>
    cases g1 : decide (0 ≤ p.kind) <;> cases g2 : decide (p.kind ≤ 2)
    all_goals
      refine XCal.of hm Try.func63 rfl (fun xs w => Try.call63 xs w) Try.ntmps63 Try.results63 rfl ?_
      simp only [go_sem, Nat.reduceEqDiff, Nat.reduceAdd, Nat.reduceSub, Nat.reduceMul, Nat.reduceLT, Nat.reduceLeDiff, Int.reducePow, Int.reduceBEq, Int.reduceBNe, Int.reduceDiv, Int.reduceMod, Int.reduceEq, Int.reduceLT, Int.reduceLE, Int.reduceAdd, Int.reduceSub, Int.reduceMul, Int.reduceNeg, Int.reduceToNat, Int.reduceTDiv, Int.reduceTMod, ↓reduceIte, pntV, g1, g2]
      repeat ((first | refine (snear_ _ _).x ?_ | refine drawnF ?_ (by decide +kernel)); simp only [go_sem, Nat.reduceEqDiff, Nat.reduceAdd, Nat.reduceSub, Nat.reduceMul, Nat.reduceLT, Nat.reduceLeDiff, Int.reducePow, Int.reduceBEq, Int.reduceBNe, Int.reduceDiv, Int.reduceMod, Int.reduceEq, Int.reduceLT, Int.reduceLE, Int.reduceAdd, Int.reduceSub, Int.reduceMul, Int.reduceNeg, Int.reduceToNat, Int.reduceTDiv, Int.reduceTMod, ↓reduceIte, h1, g1, g2])
  | true =>
    cases h2 : nearB p.p.2 with
    | false =>
      cases g1 : decide (0 ≤ p.kind) <;> cases g2 : decide (p.kind ≤ 2)
      all_goals
        refine XCal.of hm Try.func63 rfl (fun xs w => Try.call63 xs w) Try.ntmps63 Try.results63 rfl ?_
        simp only [go_sem, Nat.reduceEqDiff, Nat.reduceAdd, Nat.reduceSub, Nat.reduceMul, Nat.reduceLT, Nat.reduceLeDiff, Int.reducePow, Int.reduceBEq, Int.reduceBNe, Int.reduceDiv, Int.reduceMod, Int.reduceEq, Int.reduceLT, Int.reduceLE, Int.reduceAdd, Int.reduceSub, Int.reduceMul, Int.reduceNeg, Int.reduceToNat, Int.reduceTDiv, Int.reduceTMod, ↓reduceIte, pntV, g1, g2]
        repeat ((first | refine (snear_ _ _).x ?_ | refine drawnF ?_ (by decide +kernel)); simp only [go_sem, Nat.reduceEqDiff, Nat.reduceAdd, Nat.reduceSub, Nat.reduceMul, Nat.reduceLT, Nat.reduceLeDiff, Int.reducePow, Int.reduceBEq, Int.reduceBNe, Int.reduceDiv, Int.reduceMod, Int.reduceEq, Int.reduceLT, Int.reduceLE, Int.reduceAdd, Int.reduceSub, Int.reduceMul, Int.reduceNeg, Int.reduceToNat, Int.reduceTDiv, Int.reduceTMod, ↓reduceIte, h1, h2, g1, g2])
    | true =>
      cases h3 : nearB p.q.1 with
      | false =>
        cases g1 : decide (0 ≤ p.kind) <;> cases g2 : decide (p.kind ≤ 2)
        all_goals
          refine XCal.of hm Try.func63 rfl (fun xs w => Try.call63 xs w) Try.ntmps63 Try.results63 rfl ?_
          simp only [go_sem, Nat.reduceEqDiff, Nat.reduceAdd, Nat.reduceSub, Nat.reduceMul, Nat.reduceLT, Nat.reduceLeDiff, Int.reducePow, Int.reduceBEq, Int.reduceBNe, Int.reduceDiv, Int.reduceMod, Int.reduceEq, Int.reduceLT, Int.reduceLE, Int.reduceAdd, Int.reduceSub, Int.reduceMul, Int.reduceNeg, Int.reduceToNat, Int.reduceTDiv, Int.reduceTMod, ↓reduceIte, pntV, g1, g2]
          repeat ((first | refine (snear_ _ _).x ?_ | refine drawnF ?_ (by decide +kernel)); simp only [go_sem, Nat.reduceEqDiff, Nat.reduceAdd, Nat.reduceSub, Nat.reduceMul, Nat.reduceLT, Nat.reduceLeDiff, Int.reducePow, Int.reduceBEq, Int.reduceBNe, Int.reduceDiv, Int.reduceMod, Int.reduceEq, Int.reduceLT, Int.reduceLE, Int.reduceAdd, Int.reduceSub, Int.reduceMul, Int.reduceNeg, Int.reduceToNat, Int.reduceTDiv, Int.reduceTMod, ↓reduceIte, h1, h2, h3, g1, g2])
      | true =>
        cases h4 : nearB p.q.2 with
        | false =>
          cases g1 : decide (0 ≤ p.kind) <;> cases g2 : decide (p.kind ≤ 2)
          all_goals
            refine XCal.of hm Try.func63 rfl (fun xs w => Try.call63 xs w) Try.ntmps63 Try.results63 rfl ?_
            simp only [go_sem, Nat.reduceEqDiff, Nat.reduceAdd, Nat.reduceSub, Nat.reduceMul, Nat.reduceLT, Nat.reduceLeDiff, Int.reducePow, Int.reduceBEq, Int.reduceBNe, Int.reduceDiv, Int.reduceMod, Int.reduceEq, Int.reduceLT, Int.reduceLE, Int.reduceAdd, Int.reduceSub, Int.reduceMul, Int.reduceNeg, Int.reduceToNat, Int.reduceTDiv, Int.reduceTMod, ↓reduceIte, pntV, g1, g2]
            repeat ((first | refine (snear_ _ _).x ?_ | refine drawnF ?_ (by decide +kernel)); simp only [go_sem, Nat.reduceEqDiff, Nat.reduceAdd, Nat.reduceSub, Nat.reduceMul, Nat.reduceLT, Nat.reduceLeDiff, Int.reducePow, Int.reduceBEq, Int.reduceBNe, Int.reduceDiv, Int.reduceMod, Int.reduceEq, Int.reduceLT, Int.reduceLE, Int.reduceAdd, Int.reduceSub, Int.reduceMul, Int.reduceNeg, Int.reduceToNat, Int.reduceTDiv, Int.reduceTMod, ↓reduceIte, h1, h2, h3, h4, g1, g2])
        | true =>
          cases g1 : decide (0 ≤ p.kind) <;> cases g2 : decide (p.kind ≤ 2)
          all_goals
            refine XCal.of hm Try.func63 rfl (fun xs w => Try.call63 xs w) Try.ntmps63 Try.results63 rfl ?_
            simp only [go_sem, Nat.reduceEqDiff, Nat.reduceAdd, Nat.reduceSub, Nat.reduceMul, Nat.reduceLT, Nat.reduceLeDiff, Int.reducePow, Int.reduceBEq, Int.reduceBNe, Int.reduceDiv, Int.reduceMod, Int.reduceEq, Int.reduceLT, Int.reduceLE, Int.reduceAdd, Int.reduceSub, Int.reduceMul, Int.reduceNeg, Int.reduceToNat, Int.reduceTDiv, Int.reduceTMod, ↓reduceIte, pntV, g1, g2]
            repeat ((first | refine (snear_ _ _).x ?_ | refine drawnF ?_ (by decide +kernel)); simp only [go_sem, Nat.reduceEqDiff, Nat.reduceAdd, Nat.reduceSub, Nat.reduceMul, Nat.reduceLT, Nat.reduceLeDiff, Int.reducePow, Int.reduceBEq, Int.reduceBNe, Int.reduceDiv, Int.reduceMod, Int.reduceEq, Int.reduceLT, Int.reduceLE, Int.reduceAdd, Int.reduceSub, Int.reduceMul, Int.reduceNeg, Int.reduceToNat, Int.reduceTDiv, Int.reduceTMod, ↓reduceIte, h1, h2, h3, h4, g1, g2])
theorem ppaint_ (p : Pnt) (H : AH) : SemCall Try.prog 51 [pntV p] H (.bool (paintB p)) H [] := by
  refine pure_of ?_ rfl
  unfold paintB
  cases h1 : nearB p.p.1 with
  | false =>
    cases g1 : decide (0 ≤ p.kind) <;> cases g2 : decide (p.kind ≤ 2)
    all_goals
      refine XCal.of hm Try.func51 rfl (fun xs w => Try.call51 xs w) Try.ntmps51 Try.results51 rfl ?_
      simp only [go_sem, Nat.reduceEqDiff, Nat.reduceAdd, Nat.reduceSub, Nat.reduceMul, Nat.reduceLT, Nat.reduceLeDiff, Int.reducePow, Int.reduceBEq, Int.reduceBNe, Int.reduceDiv, Int.reduceMod, Int.reduceEq, Int.reduceLT, Int.reduceLE, Int.reduceAdd, Int.reduceSub, Int.reduceMul, Int.reduceNeg, Int.reduceToNat, Int.reduceTDiv, Int.reduceTMod, ↓reduceIte, pntV, g1, g2]
      repeat ((first | refine (pnear_ _ _).x ?_ | refine drawnF ?_ (by decide +kernel)); simp only [go_sem, Nat.reduceEqDiff, Nat.reduceAdd, Nat.reduceSub, Nat.reduceMul, Nat.reduceLT, Nat.reduceLeDiff, Int.reducePow, Int.reduceBEq, Int.reduceBNe, Int.reduceDiv, Int.reduceMod, Int.reduceEq, Int.reduceLT, Int.reduceLE, Int.reduceAdd, Int.reduceSub, Int.reduceMul, Int.reduceNeg, Int.reduceToNat, Int.reduceTDiv, Int.reduceTMod, ↓reduceIte, h1, g1, g2])
  | true =>
    cases h2 : nearB p.p.2 with
    | false =>
      cases g1 : decide (0 ≤ p.kind) <;> cases g2 : decide (p.kind ≤ 2)
      all_goals
        refine XCal.of hm Try.func51 rfl (fun xs w => Try.call51 xs w) Try.ntmps51 Try.results51 rfl ?_
        simp only [go_sem, Nat.reduceEqDiff, Nat.reduceAdd, Nat.reduceSub, Nat.reduceMul, Nat.reduceLT, Nat.reduceLeDiff, Int.reducePow, Int.reduceBEq, Int.reduceBNe, Int.reduceDiv, Int.reduceMod, Int.reduceEq, Int.reduceLT, Int.reduceLE, Int.reduceAdd, Int.reduceSub, Int.reduceMul, Int.reduceNeg, Int.reduceToNat, Int.reduceTDiv, Int.reduceTMod, ↓reduceIte, pntV, g1, g2]
        repeat ((first | refine (pnear_ _ _).x ?_ | refine drawnF ?_ (by decide +kernel)); simp only [go_sem, Nat.reduceEqDiff, Nat.reduceAdd, Nat.reduceSub, Nat.reduceMul, Nat.reduceLT, Nat.reduceLeDiff, Int.reducePow, Int.reduceBEq, Int.reduceBNe, Int.reduceDiv, Int.reduceMod, Int.reduceEq, Int.reduceLT, Int.reduceLE, Int.reduceAdd, Int.reduceSub, Int.reduceMul, Int.reduceNeg, Int.reduceToNat, Int.reduceTDiv, Int.reduceTMod, ↓reduceIte, h1, h2, g1, g2])
    | true =>
      cases h3 : nearB p.q.1 with
      | false =>
        cases g1 : decide (0 ≤ p.kind) <;> cases g2 : decide (p.kind ≤ 2)
        all_goals
          refine XCal.of hm Try.func51 rfl (fun xs w => Try.call51 xs w) Try.ntmps51 Try.results51 rfl ?_
          simp only [go_sem, Nat.reduceEqDiff, Nat.reduceAdd, Nat.reduceSub, Nat.reduceMul, Nat.reduceLT, Nat.reduceLeDiff, Int.reducePow, Int.reduceBEq, Int.reduceBNe, Int.reduceDiv, Int.reduceMod, Int.reduceEq, Int.reduceLT, Int.reduceLE, Int.reduceAdd, Int.reduceSub, Int.reduceMul, Int.reduceNeg, Int.reduceToNat, Int.reduceTDiv, Int.reduceTMod, ↓reduceIte, pntV, g1, g2]
          repeat ((first | refine (pnear_ _ _).x ?_ | refine drawnF ?_ (by decide +kernel)); simp only [go_sem, Nat.reduceEqDiff, Nat.reduceAdd, Nat.reduceSub, Nat.reduceMul, Nat.reduceLT, Nat.reduceLeDiff, Int.reducePow, Int.reduceBEq, Int.reduceBNe, Int.reduceDiv, Int.reduceMod, Int.reduceEq, Int.reduceLT, Int.reduceLE, Int.reduceAdd, Int.reduceSub, Int.reduceMul, Int.reduceNeg, Int.reduceToNat, Int.reduceTDiv, Int.reduceTMod, ↓reduceIte, h1, h2, h3, g1, g2])
      | true =>
        cases h4 : nearB p.q.2 with
        | false =>
          cases g1 : decide (0 ≤ p.kind) <;> cases g2 : decide (p.kind ≤ 2)
          all_goals
            refine XCal.of hm Try.func51 rfl (fun xs w => Try.call51 xs w) Try.ntmps51 Try.results51 rfl ?_
            simp only [go_sem, Nat.reduceEqDiff, Nat.reduceAdd, Nat.reduceSub, Nat.reduceMul, Nat.reduceLT, Nat.reduceLeDiff, Int.reducePow, Int.reduceBEq, Int.reduceBNe, Int.reduceDiv, Int.reduceMod, Int.reduceEq, Int.reduceLT, Int.reduceLE, Int.reduceAdd, Int.reduceSub, Int.reduceMul, Int.reduceNeg, Int.reduceToNat, Int.reduceTDiv, Int.reduceTMod, ↓reduceIte, pntV, g1, g2]
            repeat ((first | refine (pnear_ _ _).x ?_ | refine drawnF ?_ (by decide +kernel)); simp only [go_sem, Nat.reduceEqDiff, Nat.reduceAdd, Nat.reduceSub, Nat.reduceMul, Nat.reduceLT, Nat.reduceLeDiff, Int.reducePow, Int.reduceBEq, Int.reduceBNe, Int.reduceDiv, Int.reduceMod, Int.reduceEq, Int.reduceLT, Int.reduceLE, Int.reduceAdd, Int.reduceSub, Int.reduceMul, Int.reduceNeg, Int.reduceToNat, Int.reduceTDiv, Int.reduceTMod, ↓reduceIte, h1, h2, h3, h4, g1, g2])
        | true =>
          cases g1 : decide (0 ≤ p.kind) <;> cases g2 : decide (p.kind ≤ 2)
          all_goals
            refine XCal.of hm Try.func51 rfl (fun xs w => Try.call51 xs w) Try.ntmps51 Try.results51 rfl ?_
            simp only [go_sem, Nat.reduceEqDiff, Nat.reduceAdd, Nat.reduceSub, Nat.reduceMul, Nat.reduceLT, Nat.reduceLeDiff, Int.reducePow, Int.reduceBEq, Int.reduceBNe, Int.reduceDiv, Int.reduceMod, Int.reduceEq, Int.reduceLT, Int.reduceLE, Int.reduceAdd, Int.reduceSub, Int.reduceMul, Int.reduceNeg, Int.reduceToNat, Int.reduceTDiv, Int.reduceTMod, ↓reduceIte, pntV, g1, g2]
            repeat ((first | refine (pnear_ _ _).x ?_ | refine drawnF ?_ (by decide +kernel)); simp only [go_sem, Nat.reduceEqDiff, Nat.reduceAdd, Nat.reduceSub, Nat.reduceMul, Nat.reduceLT, Nat.reduceLeDiff, Int.reducePow, Int.reduceBEq, Int.reduceBNe, Int.reduceDiv, Int.reduceMod, Int.reduceEq, Int.reduceLT, Int.reduceLE, Int.reduceAdd, Int.reduceSub, Int.reduceMul, Int.reduceNeg, Int.reduceToNat, Int.reduceTDiv, Int.reduceTMod, ↓reduceIte, h1, h2, h3, h4, g1, g2])
end Go.Proofs.Ytlcdbangmbdlcaa
/- Documents: the walks of what judges paths of keys, shapes. -/
namespace Go.Proofs.Ytlcdbangmbdlcaa
open Go Go.RowKit E
attribute [local irreducible] XRun XOps XCode XCal XLoop XQ SemCall
set_option linter.unusedSimpArgs false
set_option linter.unusedVariables false
theorem ald_two {cells : List Value} {o b g : Nat} {rw_ : Bool} {x y : Value} (h1 : cells[o]? = some x) (h2 : cells[o + 1]? = some y) : ald (some true) (some 2) (some ⟨cells, g, rw_⟩) b o g = some (.agg [x, y].toArray, b) := by
  have l2 := (List.getElem?_eq_some_iff.1 h2)
  have l1 := (List.getElem?_eq_some_iff.1 h1)
  have e : cells.drop o = x :: y :: cells.drop (o + 2) := by
    rw [List.drop_eq_getElem_cons l1.1, List.drop_eq_getElem_cons l2.1, l1.2, l2.2]
  have : o + 2 ≤ cells.length := by have := l2.1; omega
  simp only [ald, true_and, this, if_true]
  rw [e]; rfl
theorem fits_ (p q : PL) (pv qv : Value) (H : AH) (hp : Pts H pv p.2) (hq : Pts H qv q.2) : SemCall Try.prog 78 [.agg [.bool p.1, pv].toArray, .agg [.bool q.1, qv].toArray] H (.bool (fitsB p q)) H [] := by
  refine pure_of ?_ rfl
  obtain ⟨a1, e1, rfl⟩ := hp.form
  obtain ⟨a2, e2, rfl⟩ := hq.form
  unfold fitsB
  by_cases hl : (p.2.length : Int) = (q.2.length : Int)
  · rw [dt hl, Bool.true_and]
    refine XCal.of hm Try.func78 rfl (fun xs w => Try.call78 xs w) Try.ntmps78 Try.results78 rfl ?_
    simp only [go_sem, Nat.reduceEqDiff, Nat.reduceAdd, Nat.reduceSub, Nat.reduceMul, Nat.reduceLT, Nat.reduceLeDiff, Int.reducePow, Int.reduceBEq, Int.reduceBNe, Int.reduceDiv, Int.reduceMod, Int.reduceEq, Int.reduceLT, Int.reduceLE, Int.reduceAdd, Int.reduceSub, Int.reduceMul, Int.reduceNeg, Int.reduceToNat, Int.reduceTDiv, Int.reduceTMod, ↓reduceIte, bt hl]
  · rw [df hl, Bool.false_and]
    refine XCal.of hm Try.func78 rfl (fun xs w => Try.call78 xs w) Try.ntmps78 Try.results78 rfl ?_
    simp only [go_sem, Nat.reduceEqDiff, Nat.reduceAdd, Nat.reduceSub, Nat.reduceMul, Nat.reduceLT, Nat.reduceLeDiff, Int.reducePow, Int.reduceBEq, Int.reduceBNe, Int.reduceDiv, Int.reduceMod, Int.reduceEq, Int.reduceLT, Int.reduceLE, Int.reduceAdd, Int.reduceSub, Int.reduceMul, Int.reduceNeg, Int.reduceToNat, Int.reduceTDiv, Int.reduceTMod, ↓reduceIte, bf hl]
set_option maxHeartbeats 4000000 in
theorem pkeys_ (l : List Pk) (v : Value) (H : AH) (h : Pks H v l) : SemCall Try.prog 72 [v] H (.bool (pksB l)) H [] := by
  refine pure_of ?_ rfl
  have hlen := h.len
  obtain ⟨va, ve, hv⟩ := h.form
  subst hv
  refine XCal.of hm Try.func72 rfl (fun xs w => Try.call72 xs w) Try.ntmps72 Try.results72 rfl ?_
  simp only [go_sem, Nat.reduceEqDiff, Nat.reduceAdd, Nat.reduceSub, Nat.reduceMul, Nat.reduceLT, Nat.reduceLeDiff, Int.reducePow, Int.reduceBEq, Int.reduceBNe, Int.reduceDiv, Int.reduceMod, Int.reduceEq, Int.reduceLT, Int.reduceLE, Int.reduceAdd, Int.reduceSub, Int.reduceMul, Int.reduceNeg, Int.reduceToNat, Int.reduceTDiv, Int.reduceTMod, ↓reduceIte]
  obtain ⟨z, hz⟩ : ∃ z, (l[0]?).elim (false, []) (·.p) = z := ⟨_, rfl⟩
  have hB : pksB l = (pksGo z true 0 l && decide ((l.length : Int) ≤ 32)) := by unfold pksB; rw [hz]
  refine keep (fun k T K D => D = [] ∧ ∃ (i : Nat) (a : Int), i + k = l.length ∧ Old H K ∧ H.length ≤ K.length ∧ pksB l = (pksGo z (decide (i = 0)) a (l.drop i) && decide ((l.length : Int) ≤ 32)) ∧ T 0 = .slice va l.length ve ∧ T 3 = .int .i64 a ∧ T 6 = .slice va l.length ve ∧ T 7 = .int .i64 (l.length : Int) ∧ T 8 = .int .i64 (i : Int)) l.length
    ⟨rfl, 0, 0, by omega, Old.refl _, by omega, hB, by simp only [go_sem, Nat.reduceEqDiff, Nat.reduceAdd, Nat.reduceSub, Nat.reduceMul, Nat.reduceLT, Nat.reduceLeDiff, Int.reducePow, Int.reduceBEq, Int.reduceBNe, Int.reduceDiv, Int.reduceMod, Int.reduceEq, Int.reduceLT, Int.reduceLE, Int.reduceAdd, Int.reduceSub, Int.reduceMul, Int.reduceNeg, Int.reduceToNat, Int.reduceTDiv, Int.reduceTMod, ↓reduceIte], by simp only [go_sem, Nat.reduceEqDiff, Nat.reduceAdd, Nat.reduceSub, Nat.reduceMul, Nat.reduceLT, Nat.reduceLeDiff, Int.reducePow, Int.reduceBEq, Int.reduceBNe, Int.reduceDiv, Int.reduceMod, Int.reduceEq, Int.reduceLT, Int.reduceLE, Int.reduceAdd, Int.reduceSub, Int.reduceMul, Int.reduceNeg, Int.reduceToNat, Int.reduceTDiv, Int.reduceTMod, ↓reduceIte] <;> rfl, by simp only [go_sem, Nat.reduceEqDiff, Nat.reduceAdd, Nat.reduceSub, Nat.reduceMul, Nat.reduceLT, Nat.reduceLeDiff, Int.reducePow, Int.reduceBEq, Int.reduceBNe, Int.reduceDiv, Int.reduceMod, Int.reduceEq, Int.reduceLT, Int.reduceLE, Int.reduceAdd, Int.reduceSub, Int.reduceMul, Int.reduceNeg, Int.reduceToNat, Int.reduceTDiv, Int.reduceTMod, ↓reduceIte], by simp only [go_sem, Nat.reduceEqDiff, Nat.reduceAdd, Nat.reduceSub, Nat.reduceMul, Nat.reduceLT, Nat.reduceLeDiff, Int.reducePow, Int.reduceBEq, Int.reduceBNe, Int.reduceDiv, Int.reduceMod, Int.reduceEq, Int.reduceLT, Int.reduceLE, Int.reduceAdd, Int.reduceSub, Int.reduceMul, Int.reduceNeg, Int.reduceToNat, Int.reduceTDiv, Int.reduceTMod, ↓reduceIte], by simp only [go_sem, Nat.reduceEqDiff, Nat.reduceAdd, Nat.reduceSub, Nat.reduceMul, Nat.reduceLT, Nat.reduceLeDiff, Int.reducePow, Int.reduceBEq, Int.reduceBNe, Int.reduceDiv, Int.reduceMod, Int.reduceEq, Int.reduceLT, Int.reduceLE, Int.reduceAdd, Int.reduceSub, Int.reduceMul, Int.reduceNeg, Int.reduceToNat, Int.reduceTDiv, Int.reduceTMod, ↓reduceIte] <;> rfl⟩ ?_
  clear hB
  rintro k T K D ⟨rfl, i, a, hik, hold, hKl, hr, t0, t3, t6, t7, t8⟩
  have kd : ∀ n, decide (K.length + n < H.length) = false := fun n => df (by omega)
  have kd0 : decide (K.length < H.length) = false := df (by omega)
  by_cases hk : i < l.length
  · obtain ⟨x, hx⟩ : ∃ x, l[i]? = some x := ⟨_, List.getElem?_eq_getElem hk⟩
    obtain ⟨y, hy⟩ : ∃ y, l[0]? = some y := ⟨_, List.getElem?_eq_getElem (by omega)⟩
    obtain ⟨b, g, cells, rw_, c, hve, hb, ⟨pv, hc, hp⟩, hcl, hle, hld, hgt⟩ := h.at hx
    subst hc
    obtain ⟨b', g', cells', rw', c', hve', hb', ⟨qv, hc', hq⟩, hcl', hle', hld', hgt'⟩ := h.at hy
    subst hc'
    rw [hve] at hve'
    cases hve'
    rw [hb] at hb'
    cases hb'
    rw [hy] at hz
    have hz : y.p = z := hz
    have kb := hold _ _ hb
    have l1 := hgt' 1 (by omega)
    have l2 := hgt' 2 (by omega)
    rw [Nat.zero_mul, Nat.zero_add] at l1 l2
    have l12 := fun c : Nat => ald_two (b := c) (g := g) (rw_ := rw_) (o := 1) (x := .bool y.p.1) (y := qv) l1 l2
    have hpk := (hp.old hold).app [⟨[.int .i64 x.t, .bool x.p.1, pv, .int .i64 x.how, .int .i64 x.e.x1, .int .i64 x.e.y1, .int .i64 x.e.x2, .int .i64 x.e.y2], 0, true⟩]
    have hqk := (hq.old hold).app [⟨[.int .i64 x.t, .bool x.p.1, pv, .int .i64 x.how, .int .i64 x.e.x1, .int .i64 x.e.y1, .int .i64 x.e.x2, .int .i64 x.e.y2], 0, true⟩]
    rw [drop_at hx] at hr
    simp only [pksGo] at hr
    rw [hve] at t0 t6
    have q0 : (0 : Int) ≤ (i : Int) := by omega
    have q1 : (i : Int) < (l.length : Int) := by omega
    have q2 : (0 : Int) < (l.length : Int) := by omega
    have w1 : IntKind.i64.wrap ((i : Int) + 1) = ((i + 1 : Nat) : Int) := by rw [wi (by omega) (by omega)]; rfl
    have ks := fun H => kstep_ i a x.t x.how x.e H
    have k2 := empty_ x.p.1 x.p.2 pv _ hpk
    have k3 := right_ x.p.1 x.p.2 pv _ hpk
    have k4 := fits_ x.p y.p pv qv _ hpk hqk
    rw [show fitsB x.p y.p = fitsB x.p z by rw [hz]] at k4
    have he : ((x.p.2.length : Int) == 0) = decide ((x.p.2.length : Int) = 0) := rfl
    rw [he] at k2
    generalize decide ((x.p.2.length : Int) = 0) = E1 at *
    generalize kstB (decide (i = 0)) a x.t x.how x.e = E0 at *
    generalize rightB x.p.1 x.p.2 = E2 at *
    generalize fitsB x.p z = E3 at *
    cases E0
    case' true => cases E1
    case' true.false => cases E2
    case' true.false.true => cases E3
    all_goals
      simp only [go_sem, Nat.reduceEqDiff, Nat.reduceAdd, Nat.reduceSub, Nat.reduceMul, Nat.reduceLT, Nat.reduceLeDiff, Int.reducePow, Int.reduceBEq, Int.reduceBNe, Int.reduceDiv, Int.reduceMod, Int.reduceEq, Int.reduceLT, Int.reduceLE, Int.reduceAdd, Int.reduceSub, Int.reduceMul, Int.reduceNeg, Int.reduceToNat, Int.reduceTDiv, Int.reduceTMod, ↓reduceIte, t0, t3, t6, t7, t8, dt q1, q0, q1, Int.toNat_natCast, Nat.zero_add, kb, hld, kd, kd0]
      repeat ((first | refine (ks _).x ?_ | refine (k2).x ?_ | refine (k3).x ?_ | refine (k4).x ?_ | refine drawnF ?_ (by decide +kernel)); simp only [go_sem, Nat.reduceEqDiff, Nat.reduceAdd, Nat.reduceSub, Nat.reduceMul, Nat.reduceLT, Nat.reduceLeDiff, Int.reducePow, Int.reduceBEq, Int.reduceBNe, Int.reduceDiv, Int.reduceMod, Int.reduceEq, Int.reduceLT, Int.reduceLE, Int.reduceAdd, Int.reduceSub, Int.reduceMul, Int.reduceNeg, Int.reduceToNat, Int.reduceTDiv, Int.reduceTMod, ↓reduceIte, kd, kd0, t0, t3, t6, t7, t8, q0, q1, q2, w1, old_get kb, l12, Int.toNat_natCast, Int.reduceToNat, Nat.zero_add, Nat.zero_mul, Bool.not_true, Bool.not_false])
    all_goals
      first | (rw [hr]; rfl) | exact ⟨k - 1, by omega, i + 1, x.t, by omega, hold.app _, by omega, by rw [df (show ¬ i + 1 = 0 by omega)]; exact hr, hve.symm, rfl, hve.symm, rfl⟩
  · have hi : i = l.length := by omega
    subst hi
    rw [List.drop_eq_nil_of_le (by omega)] at hr
    simp only [go_sem, Nat.reduceEqDiff, Nat.reduceAdd, Nat.reduceSub, Nat.reduceMul, Nat.reduceLT, Nat.reduceLeDiff, Int.reducePow, Int.reduceBEq, Int.reduceBNe, Int.reduceDiv, Int.reduceMod, Int.reduceEq, Int.reduceLT, Int.reduceLE, Int.reduceAdd, Int.reduceSub, Int.reduceMul, Int.reduceNeg, Int.reduceToNat, Int.reduceTDiv, Int.reduceTMod, ↓reduceIte, t0, t3, t6, t7, t8, df (show ¬ ((l.length : Nat) : Int) < (l.length : Int) by omega)]
    rw [hr]; rfl
end Go.Proofs.Ytlcdbangmbdlcaa
