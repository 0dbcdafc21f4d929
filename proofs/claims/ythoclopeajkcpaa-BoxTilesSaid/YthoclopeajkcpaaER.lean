/- More rewriting: appends behind a row that is known, calls that say what they leave. -/
import Derived.Test.YthoclopeajkcpaaEQ
set_option linter.unusedVariables false
set_option linter.unusedSimpArgs false
namespace Go.Proofs.Ythoclopeajkcpaa.E
open Go Go.RowKit
def apz (H : AH) (s by_ len b g n : Nat) (cs : List Value) (bs : List Nat) : Option Blk → Option (Value × AH × List Nat × List Nat)
  | some k => if g = k.gen ∧ k.rw = true ∧ len * s = k.cells.length then
      if n = 0 then some (sl b 0 g len s, H, [], b :: bs) else
      if (len + n) * by_ ≤ 70368744177664 ∧ len + n ≤ 70368744177664 then some (sl b 0 (g + 1) (len + n) s, H.set b ⟨k.cells ++ cs, g + 1, true⟩, [b], b :: bs) else none
      else none
  | none => none
@[go_sem] theorem apy_sl {H : AH} {s by_ n b g len : Nat} {cs : List Value} {bs : List Nat} : apy H (.slice (some ⟨b, 0, some g⟩) len s) s by_ (some (cs, n, bs)) = apz H s by_ len b g n cs bs H[b]? := by
  simp only [apy, true_and]
  cases H[b]? <;> rfl
@[go_sem] theorem apz_some {H : AH} {s by_ n b g len : Nat} {cs cells : List Value} {bs : List Nat} (hl : len * s = cells.length) (h0 : (n = 0) = False) (h1 : (len + n) * by_ - 70368744177664 = 0) (h2 : len + n - 70368744177664 = 0) :
    apz H s by_ len b g n cs bs (some ⟨cells, g, true⟩) = some (sl b 0 (g + 1) (len + n) s, H.set b ⟨cells ++ cs, g + 1, true⟩, [b], b :: bs) := by
  have h0 : ¬ n = 0 := fun e => by rw [h0] at e; exact e
  have h3 : (len + n) * by_ ≤ 70368744177664 ∧ len + n ≤ 70368744177664 := by omega
  simp [apz, hl, h0, h3]
@[go_sem] theorem apz_zero {H : AH} {s by_ b g len : Nat} {cs cells : List Value} {bs : List Nat} (hl : len * s = cells.length) : apz H s by_ len b g 0 cs bs (some ⟨cells, g, true⟩) = some (sl b 0 g len s, H, [], b :: bs) := by
  simp [apz, hl]
theorem Cal.x {P : Program} {f : FuncId} {args : List Value} {H : AH} {Q0 : Value → AH → List Nat → Prop} (h : Cal P f args H Q0) {Q : KX} (q : ∀ v H' W, Q0 v H' W → Q.go v H' W) : XCal P f args H := Cal.mono h q
/-- A cut: what holds behind the first part. -/
theorem wcode_cut {P : Program} {sz n0 : Nat} {T : Env} {H : AH} {D : List Nat} {Q : KC} {a b : Code} (I : Env → AH → List Nat → Prop)
    (ha : @XCode P sz n0 a T H D ⟨WSeq (fun T H D _ => I T H D) Q.go⟩) (hb : ∀ T H D, I T H D → XCode P sz n0 b T H D) : XCode P sz n0 (.seq a b) T H D := by
  simp only [XCode, WCode] at ha ⊢
  refine WCode.mono ha fun o T H D k => ?_
  cases o with
  | norm => exact hb T H D k
  | ret => exact k
  | exit i => exact k
/-- A call whose result leads to one new block. -/
theorem flat_of {P : Program} {f : FuncId} {args : List Value} {H : AH} {v2 : Value} {cells : List Value}
    (h : @XCal P f args H ⟨fun v H1 W => W = [] ∧ ∃ b g, H.length ≤ b ∧ H1[b]? = some ⟨cells, g, true⟩ ∧ renR H.length [(b, g)] v = some v2 ∧ renL H.length [(b, g)] cells = some cells⟩) : SemCall P f args H v2 (H ++ [⟨cells, 0, true⟩]) [] := Cal.flat h
theorem Post.setW {N0 : Nat} {H H' : AH} {W W' : List Nat} {M M' : Mp} {w w' : World} (h : ∀ b, b ∈ W ↔ b ∈ W') (q : Post N0 H H' W M M' w w') : Post N0 H H' W' M M' w w' :=
  ⟨q.le, fun b hb hn => q.same b hb (fun hw => hn ((h b).1 hw)), q.ext, fun b g hb hn => q.keep b g hb (fun hw => hn ((h b).1 hw)), q.dom, q.absent, q.fresh, fun c hc hf => q.frame c hc (fun b hb => hf b ((h b).1 hb)),
   fun b hb => q.wown b ((h b).2 hb), q.hp, fun hb => q.cont (hb.imp (h _).2 id), q.size, q.os, q.tape, q.output⟩
def SameW (W W' : List Nat) : Prop := ∀ b, b ∈ W ↔ b ∈ W'
theorem SameW.rfl' {W : List Nat} : SameW W W := fun b => Iff.rfl
theorem SameW.three {b : Nat} : SameW [b, b, b] [b] := fun x => by simp
theorem SameW.two {b : Nat} : SameW [b, b] [b] := fun x => by simp
theorem SemCall.setW {P : Program} {f : FuncId} {args : List Value} {H H' : AH} {v : Value} {W W' : List Nat} (h : SemCall P f args H v H' W) (e : SameW W W') : SemCall P f args H v H' W' :=
  ⟨⟨h.1.1, h.1.2.1, fun b hb hn => h.1.2.2 b hb (fun hw => hn ((e b).1 hw))⟩, fun N0 M w args' p ha => (h.2 N0 M w args' p ha).mono fun e' w' ⟨v', M', a, b, c⟩ => ⟨v', M', a, b, c.setW e⟩⟩
/-- The same where old blocks are written, whatever the list's form. -/
theorem trims_of {P : Program} {f : FuncId} {args : List Value} {H H2 : AH} {v : Value} {W : List Nat} (h : @XCal P f args H ⟨fun v' H' W' => v' = v ∧ SameW W' W ∧ ∃ G, H' = H2 ++ G⟩) (hl : H2.length = H.length) (hv : renR H.length [] v = some v)
    (hw : ∀ b ∈ W, ∃ k, H2[b]? = some k ∧ renL H.length [] k.cells = some k.cells) : SemCall P f args H v H2 W := by
  obtain ⟨v', H', W', h1, h2, h3, h4⟩ := h
  exact Cal.trim ⟨v', H', W, h1.setW h3, h2, rfl, h4⟩ hl hv hw
/-- The same where old blocks are written. -/
theorem trim_of {P : Program} {f : FuncId} {args : List Value} {H H2 : AH} {v : Value} {W : List Nat} (h : @XCal P f args H ⟨fun v' H' W' => v' = v ∧ W' = W ∧ ∃ G, H' = H2 ++ G⟩) (hl : H2.length = H.length) (hv : renR H.length [] v = some v)
    (hw : ∀ b ∈ W, ∃ k, H2[b]? = some k ∧ renL H.length [] k.cells = some k.cells) : SemCall P f args H v H2 W := Cal.trim h hl hv hw
@[go_sem] theorem hget_sapp (H L : AH) (b : Nat) (x : Blk) (k : Nat) : (H.set b x ++ L)[H.length + k]? = L[k]? := by
  have := hget_app (H.set b x) L k
  rwa [List.length_set] at this
@[go_sem] theorem hget_sapp0 (H L : AH) (b : Nat) (x : Blk) : (H.set b x ++ L)[H.length]? = L[0]? := by
  have := hget_app0 (H.set b x) L
  rwa [List.length_set] at this
@[go_sem] theorem hset_sapp (H L : AH) (b : Nat) (y : Blk) (k : Nat) (x : Blk) : (H.set b y ++ L).set (H.length + k) x = H.set b y ++ L.set k x := by
  have := hset_app (H.set b y) L k x
  rwa [List.length_set] at this
@[go_sem] theorem hset_sapp0 (H L : AH) (b : Nat) (y x : Blk) : (H.set b y ++ L).set H.length x = H.set b y ++ L.set 0 x := by
  have := hset_app0 (H.set b y) L x
  rwa [List.length_set] at this
attribute [go_sem] List.length_set
theorem old_get {H : AH} {b : Nat} {k : Blk} (h : H[b]? = some k) (L : AH) : (H ++ L)[b]? = some k := by
  rw [List.getElem?_append_left (List.getElem?_eq_some_iff.1 h).1]; exact h
theorem old_set {H : AH} {b : Nat} {k : Blk} (h : H[b]? = some k) (L : AH) (x : Blk) : (H ++ L).set b x = H.set b x ++ L :=
  List.set_append_left _ _ (List.getElem?_eq_some_iff.1 h).1
theorem old_sget {H : AH} {b : Nat} {k : Blk} (h : H[b]? = some k) (x : Blk) (L : AH) : (H.set b x ++ L)[b]? = some x := by
  have hb := (List.getElem?_eq_some_iff.1 h).1
  rw [List.getElem?_append_left (by simpa using hb), List.getElem?_set_self hb]
theorem old_sset {H : AH} {b : Nat} {k : Blk} (h : H[b]? = some k) (x y : Blk) (L : AH) : (H.set b x ++ L).set b y = H.set b y ++ L := by
  have hb := (List.getElem?_eq_some_iff.1 h).1
  rw [List.set_append_left _ _ (by simpa using hb), List.set_set]
theorem old_lt {H : AH} {b : Nat} {k : Blk} (h : H[b]? = some k) : decide (b < H.length) = true := decide_eq_true (List.getElem?_eq_some_iff.1 h).1
theorem old_ne {H : AH} {b : Nat} {k : Blk} (h : H[b]? = some k) (n : Nat) : (b = H.length + n) = False := by
  have hb := (List.getElem?_eq_some_iff.1 h).1
  exact eq_false (by omega)
theorem old_ne' {H : AH} {b : Nat} {k : Blk} (h : H[b]? = some k) (n : Nat) : (H.length + n = b) = False := by
  have hb := (List.getElem?_eq_some_iff.1 h).1
  exact eq_false (by omega)
theorem old_ne0 {H : AH} {b : Nat} {k : Blk} (h : H[b]? = some k) : (b = H.length) = False := by
  have hb := (List.getElem?_eq_some_iff.1 h).1
  exact eq_false (by omega)
theorem old_ne0' {H : AH} {b : Nat} {k : Blk} (h : H[b]? = some k) : (H.length = b) = False := by
  have hb := (List.getElem?_eq_some_iff.1 h).1
  exact eq_false (by omega)
def intC (l : List Int) : List Value := l.map fun n => .int .i64 n
theorem intC_get {l : List Int} {i : Nat} (h : i < l.length) : (intC l)[i]? = some (.int .i64 l[i]) := by simp [intC, h]
theorem intC_ren (n : Nat) (K : List (Nat × Nat)) (l : List Int) : renL n K (intC l) = some (intC l) := by
  induction l with
  | nil => rfl
  | cons x l ih =>
    show renL n K (.int .i64 x :: intC l) = _
    simp only [renL, ih]; rfl
theorem ren_sl (n b g len e : Nat) (h : n ≤ b) : renR n [(b, g)] (sl b 0 g len e) = some (sl n 0 0 len e) := by
  show (renB n [(b, g)] b g).map _ = _
  unfold renB
  rw [if_neg (by omega)]
  simp
theorem ren_old (n b g len e : Nat) (h : b < n) : renR n [] (sl b 0 g len e) = some (sl b 0 g len e) := by
  show (renB n [] b g).map _ = _
  unfold renB
  rw [if_pos h]; rfl
@[go_sem] theorem xhd (T : Env) (d : Nat) (v : Value) : upd T d v d = v := upd_hit T d v
end Go.Proofs.Ythoclopeajkcpaa.E
