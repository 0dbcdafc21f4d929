/- Regions whose order makes no difference: a quick way to see it. -/
import Derived.Test.YthoclopeajkcpaaEL
set_option linter.unusedVariables false
set_option linter.unusedSimpArgs false
namespace Go.Proofs.Ythoclopeajkcpaa.E
open Go Go.RowKit

def mk1 (acc : List Nat) (l : List Nat) : Nat := l.foldr (fun k m => m ||| (1 <<< k) ||| acc.getD k 0) 0
/-- All that stands ahead of each operation, as a number's bits. -/
def mskL : List Nat → List Oper → List Nat
  | acc, [] => acc
  | acc, o :: rest => mskL (acc ++ [mk1 acc (ons o)]) rest
def Same (acc : List (List Nat)) (ms : List Nat) : Prop := acc.length = ms.length ∧ ∀ j i, i ∈ acc.getD j [] ↔ (ms.getD j 0).testBit i = true
theorem bit_one (k i : Nat) : (1 <<< k).testBit i = true ↔ i = k := by
  rw [Nat.one_shiftLeft, Nat.testBit_two_pow]
  simp [eq_comm]
theorem mk1_bit {acc : List (List Nat)} {ms : List Nat} (h : Same acc ms) (i : Nat) : ∀ l : List Nat, (i ∈ l ++ l.flatMap fun k => acc.getD k []) ↔ (mk1 ms l).testBit i = true
  | [] => by simp [mk1]
  | k :: l => by
    have ih := mk1_bit h i l
    have e : mk1 ms (k :: l) = mk1 ms l ||| (1 <<< k) ||| ms.getD k 0 := rfl
    rw [e, Nat.testBit_or, Nat.testBit_or, Bool.or_eq_true, Bool.or_eq_true, bit_one, ← h.2 k i, ← ih]
    simp only [List.mem_append, List.mem_cons, List.flatMap_cons]
    grind
theorem Same.push {acc : List (List Nat)} {ms : List Nat} (h : Same acc ms) (l : List Nat) : Same (acc ++ [l ++ l.flatMap fun k => acc.getD k []]) (ms ++ [mk1 ms l]) := by
  refine ⟨by simp [h.1], fun j i => ?_⟩
  by_cases hj : j < acc.length
  · rw [List.getD_eq_getElem?_getD, List.getElem?_append_left hj, ← List.getD_eq_getElem?_getD, List.getD_eq_getElem?_getD (l := ms ++ _), List.getElem?_append_left (by rw [← h.1]; exact hj), ← List.getD_eq_getElem?_getD]
    exact h.2 j i
  · by_cases he : j = acc.length
    · subst he
      rw [List.getD_eq_getElem?_getD, List.getElem?_append_right (Nat.le_refl _), h.1, List.getD_eq_getElem?_getD (l := ms ++ _), List.getElem?_append_right (Nat.le_refl _)]
      simp only [Nat.sub_self, List.getElem?_cons_zero, Option.getD_some]
      exact mk1_bit h i l
    · have hl := h.1
      rw [List.getD_eq_getElem?_getD, List.getElem?_eq_none (by simp; omega), List.getD_eq_getElem?_getD, List.getElem?_eq_none (by simp; omega)]
      simp
theorem ancL_msk : ∀ (l : List Oper) {acc : List (List Nat)} {ms : List Nat}, Same acc ms → Same (ancL acc l) (mskL ms l)
  | [], _, _, h => h
  | o :: rest, _, _, h => ancL_msk rest (h.push _)
theorem ordered_msk (ops : Array Oper) (i j : Nat) : ordered ops i j = ((mskL [] ops.toList).getD j 0).testBit i := by
  have h := (ancL_msk ops.toList (acc := []) (ms := []) ⟨rfl, fun j i => by simp⟩).2 j i
  unfold ordered ancs
  rw [Bool.eq_iff_iff, List.contains_iff_mem]
  exact h

def isW1 (o : Oper) : Bool := match o.op with
  | .store .. => true
  | .call ⟨.builtin .append, _, _⟩ => true
  | _ => false
def pairF (ops : Array Oper) (x y : Oper) : Bool := !isW1 x && !isW1 y && (match x.dst with
    | some d => !(y.looksAt ops).contains d
    | none => true) && (match y.dst with
    | some d => !(x.looksAt ops).contains d
    | none => true)
def dstF (x y : Oper) : Bool := match x.dst with
    | some d => y.dst != some d
    | none => true
def regF (ops : Array Oper) (ms : List Nat) : Bool :=
  (List.range ops.size).all fun j => match ops[j]? with
    | none => true
    | some y => (ons y).all (fun k => decide (k < j)) && (List.range j).all fun i => match ops[i]? with
      | none => true
      | some x => dstF x y && ((ms.getD j 0).testBit i || pairF ops x y)
theorem regF_ok {ops : Array Oper} {ms : List Nat} (hm : mskL [] ops.toList = ms) (h : regF ops ms = true) : regB ops = true ∧ statOk ops = true := by
  subst hm
  unfold regF at h
  have h := List.all_eq_true.1 h
  constructor
  · refine List.all_eq_true.2 fun j hj => ?_
    have hy := h j hj
    cases e : ops[j]? with
    | none => rfl
    | some y =>
      simp only [e, Bool.and_eq_true] at hy
      simp only [Bool.and_eq_true]
      refine ⟨hy.1, List.all_eq_true.2 fun i hi => ?_⟩
      have hx := List.all_eq_true.1 hy.2 i hi
      cases e' : ops[i]? with
      | none => rfl
      | some x =>
        simp only [e', Bool.and_eq_true] at hx
        simp only [apartB, ordered_msk]
        unfold dstF pairF at hx
        cases hb : ((mskL [] ops.toList).getD j 0).testBit i with
        | true => cases hxd : x.dst <;> cases hyd : y.dst <;> simp_all
        | false => cases hxd : x.dst <;> cases hyd : y.dst <;> simp_all
  · refine List.all_eq_true.2 fun j hj => List.all_eq_true.2 fun i hi => ?_
    have hy := h j hj
    rw [ordered_msk]
    cases e : ops[j]? with
    | none => cases ops[i]? <;> simp
    | some y =>
      simp only [e, Bool.and_eq_true] at hy
      have hx := List.all_eq_true.1 hy.2 i hi
      cases e' : ops[i]? with
      | none => simp
      | some x =>
        simp only [e', Bool.and_eq_true] at hx
        have hx2 := hx.2
        cases hb : ((mskL [] ops.toList).getD j 0).testBit i with
        | true => simp
        | false =>
          rw [hb] at hx2
          simp only [Bool.false_or, pairF, Bool.and_eq_true] at hx2
          simp only [Bool.false_or, Bool.and_eq_true]
          exact ⟨hx2.1.1.1, hx2.1.1.2⟩
/-- Operations of which no call writes what was there. -/
def WQ (P : Program) (sz n0 : Nat) (ops : Array Oper) : List Oper → Env → AH → List Nat → (Env → AH → List Nat → Prop) → Prop
  | [], T, H, D, K => K T H D
  | o :: rest, T, H, D, K => dok sz o.dst = true ∧
    match awant ops T o with
    | some g => (g = true → WRun P sz o T H fun v H' F => (isW o.op = true ∨ F.w = []) ∧ WQ P sz n0 ops rest (put T o.dst v) H' (D ++ F.w.filter (fun b => decide (b < n0))) K) ∧
        (g = false → WQ P sz n0 ops rest (put T o.dst undef) H D K)
    | none => False
theorem WQ.ops {P : Program} {sz n0 : Nat} {ops : Array Oper} {K : Env → AH → List Nat → Prop} : ∀ {l : List Oper} {T : Env} {H : AH} {D : List Nat} (Fs0 : List Foot), WQ P sz n0 ops l T H D K →
    WOps P sz n0 ops l T H D Fs0 fun T H D Fs => (∃ Fs1, Fs = Fs0 ++ Fs1 ∧ quietL l Fs1) ∧ K T H D
  | [], _, _, _, Fs0, h => ⟨⟨[], by simp, by simp [quietL]⟩, h⟩
  | o :: rest, T, H, D, Fs0, h => by
    simp only [WQ] at h
    simp only [WOps]
    refine ⟨h.1, ?_⟩
    have h2 := h.2
    cases ha : awant ops T o with
    | none => rw [ha] at h2; exact h2
    | some g =>
      rw [ha] at h2
      refine ⟨fun g => WRun.mono (h2.1 g) fun v H' F k => ?_, fun g => ?_⟩
      · refine WOps.mono (fun T H D Fs q => ⟨?_, q.2⟩) (WQ.ops (Fs0 ++ [F]) k.2)
        obtain ⟨Fs1, e, q⟩ := q.1
        exact ⟨F :: Fs1, by rw [e]; simp, k.1, q⟩
      · refine WOps.mono (fun T H D Fs q => ⟨?_, q.2⟩) (WQ.ops (Fs0 ++ [⟨[], some []⟩]) (h2.2 g))
        obtain ⟨Fs1, e, q⟩ := q.1
        exact ⟨⟨[], some []⟩ :: Fs1, by rw [e]; simp, .inr rfl, q⟩
abbrev KD := Co (Env → AH → List Nat → Prop)
def XQ (P : Program) (sz n0 : Nat) (ops : Array Oper) (l : List Oper) (T : Env) (H : AH) (D : List Nat) [K : KD] : Prop := WQ P sz n0 ops l T H D K.go
def QF (op : Op) (F : Foot) (p : Prop) : Prop := (isW op = true ∨ F.w = []) ∧ p
section
variable {P : Program} {sz n0 : Nat} {T : Env} {H : AH} {D : List Nat}
variable {ops : Array Oper} {rest : List Oper} {dst : Option Tmp} {op : Op} {ty : TypeId} {pos : String} {af : Array Edge} {gd : Option (Nat × Bool)}
@[go_sem ↓] theorem xq_nil {K : KD} : XQ P sz n0 ops [] T H D = K.go T H D := (rfl)
@[go_sem ↓] theorem xq_plain {K : KD} {d : Nat} (hd : d + 1 - sz = 0) : XQ P sz n0 ops (⟨some d, op, ty, pos, af, none⟩ :: rest) T H D =
    @XRun P sz ⟨some d, op, ty, pos, af, none⟩ T H ⟨fun v H' F => QF op F (XQ P sz n0 ops rest (upd T d v) H' (D ++ F.w.filter (fun b => decide (b < n0))))⟩ := by
  have hd : d < sz := by omega
  simp [XQ, XRun, WQ, dok, hd, awant, put, QF]
@[go_sem ↓] theorem xq_plain0 {K : KD} : XQ P sz n0 ops (⟨none, op, ty, pos, af, none⟩ :: rest) T H D =
    @XRun P sz ⟨none, op, ty, pos, af, none⟩ T H ⟨fun v H' F => QF op F (XQ P sz n0 ops rest (T) H' (D ++ F.w.filter (fun b => decide (b < n0))))⟩ := by
  simp [XQ, XRun, WQ, dok, awant, put, QF]
@[go_sem ↓] theorem xq_yes {K : KD} {d : Nat} {g : Nat × Bool} (hd : d + 1 - sz = 0) (hg : awant ops T ⟨some d, op, ty, pos, af, some g⟩ = some true) : XQ P sz n0 ops (⟨some d, op, ty, pos, af, some g⟩ :: rest) T H D =
    @XRun P sz ⟨some d, op, ty, pos, af, some g⟩ T H ⟨fun v H' F => QF op F (XQ P sz n0 ops rest (upd T d v) H' (D ++ F.w.filter (fun b => decide (b < n0))))⟩ := by
  have hd : d < sz := by omega
  simp [XQ, XRun, WQ, dok, hd, hg, put, QF]
@[go_sem ↓] theorem xq_yes0 {K : KD} {g : Nat × Bool} (hg : awant ops T ⟨none, op, ty, pos, af, some g⟩ = some true) : XQ P sz n0 ops (⟨none, op, ty, pos, af, some g⟩ :: rest) T H D =
    @XRun P sz ⟨none, op, ty, pos, af, some g⟩ T H ⟨fun v H' F => QF op F (XQ P sz n0 ops rest (T) H' (D ++ F.w.filter (fun b => decide (b < n0))))⟩ := by
  simp [XQ, XRun, WQ, dok, hg, put, QF]
@[go_sem ↓] theorem xq_no {K : KD} {d : Nat} {g : Nat × Bool} (hd : d + 1 - sz = 0) (hg : awant ops T ⟨some d, op, ty, pos, af, some g⟩ = some false) : XQ P sz n0 ops (⟨some d, op, ty, pos, af, some g⟩ :: rest) T H D =
    XQ P sz n0 ops rest (upd T d undef) H D := by
  have hd : d < sz := by omega
  simp [XQ, WQ, dok, hd, hg, put]
@[go_sem ↓] theorem xq_no0 {K : KD} {g : Nat × Bool} (hg : awant ops T ⟨none, op, ty, pos, af, some g⟩ = some false) : XQ P sz n0 ops (⟨none, op, ty, pos, af, some g⟩ :: rest) T H D =
    XQ P sz n0 ops rest (T) H D := by
  simp [XQ, WQ, dok, hg, put]
theorem xq_guard {K : KD} {g : Nat × Bool} (b : Bool) (hg : awant ops T ⟨dst, op, ty, pos, af, some g⟩ = some b)
    (ht : b = true → XQ P sz n0 ops (⟨dst, op, ty, pos, af, some g⟩ :: rest) T H D) (hf : b = false → XQ P sz n0 ops (⟨dst, op, ty, pos, af, some g⟩ :: rest) T H D) : XQ P sz n0 ops (⟨dst, op, ty, pos, af, some g⟩ :: rest) T H D := by
  cases b
  · exact hf rfl
  · exact ht rfl
@[go_sem ↓] theorem qf_w {r : Option (List Nat)} {p : Prop} : QF op ⟨[], r⟩ p = p := by simp [QF]
@[go_sem ↓] theorem qf_s {t : TypeId} {x y : Operand} {F : Foot} {p : Prop} : QF (.store t x y) F p = p := by simp [QF, isW]
@[go_sem ↓] theorem qf_a {xs : Array Operand} {ts : Array TypeId} {F : Foot} {p : Prop} : QF (.call ⟨.builtin .append, xs, ts⟩) F p = p := by simp [QF, isW]
theorem drawnF {Q : KC} {id : Nat} {l : List Oper} (h : @XQ P sz n0 l.toArray l T H D ⟨fun T' H' D' => Q.go .norm T' H' D'⟩) (hr : regF l.toArray (mskL [] l) = true) : XCode P sz n0 (.region id l.toArray true) T H D := by
  have hr := regF_ok rfl hr
  simp only [XCode, WCode]
  refine ⟨hr.1, WOps.mono (fun T H D Fs k => ⟨?_, k.2⟩) (WQ.ops [] h)⟩
  obtain ⟨Fs1, e, q⟩ := k.1
  rw [e]; exact compat_stat hr.2 q
end
/- Guards. -/
def dstAt : List Oper → Nat → Option Tmp
  | [], _ => none
  | o :: _, 0 => o.dst
  | _ :: l, j + 1 => dstAt l j
@[go_sem] theorem dstAt_0 {o : Oper} {l : List Oper} : dstAt (o :: l) 0 = o.dst := (rfl)
@[go_sem] theorem dstAt_s {o : Oper} {l : List Oper} {j : Nat} : dstAt (o :: l) (j + 1) = dstAt l j := (rfl)
theorem dstAt_eq : ∀ (l : List Oper) (j : Nat), (l[j]?).bind (·.dst) = dstAt l j
  | [], _ => by simp [dstAt]
  | o :: l, 0 => by simp [dstAt]
  | o :: l, j + 1 => by simpa [dstAt] using dstAt_eq l j
def agb (want : Bool) : Value → Option Bool
  | .bool b => some (b == want)
  | .tuple _ => some false
  | _ => none
@[go_sem] theorem agb_t {b : Bool} : agb true (.bool b) = some b := by cases b <;> rfl
@[go_sem] theorem agb_f {b : Bool} : agb false (.bool b) = some (!b) := by cases b <;> rfl
@[go_sem] theorem agb_u {w : Bool} {x : Array Value} : agb w (.tuple x) = some false := (rfl)
@[go_sem] theorem agb_u' {w : Bool} : agb w undef = some false := (rfl)
def agd (want : Bool) (T : Env) : Option Tmp → Option Bool
  | some t => agb want (T t)
  | none => none
@[go_sem] theorem agd_some {want : Bool} {T : Env} {t : Tmp} : agd want T (some t) = agb want (T t) := (rfl)
@[go_sem] theorem awant_g {l : List Oper} {T : Env} {dst : Option Tmp} {op : Op} {ty : TypeId} {pos : String} {af : Array Edge} {j : Nat} {want : Bool} : awant l.toArray T ⟨dst, op, ty, pos, af, some (j, want)⟩ = agd want T (dstAt l j) := by
  simp only [awant, List.getElem?_toArray, dstAt_eq]
  cases dstAt l j with
  | none => rfl
  | some t => simp only [agd, agb]; cases T t <;> rfl
end Go.Proofs.Ythoclopeajkcpaa.E
