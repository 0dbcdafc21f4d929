/- Regions whose order is drawn, with calls that write: which pairs have to be apart is reckoned once; that they are is shown with the places at hand. -/
import Derived.Test.YthoclopeajkcpaaER
set_option linter.unusedVariables false
set_option linter.unusedSimpArgs false
namespace Go.Proofs.Ythoclopeajkcpaa.E
open Go Go.RowKit

def isW2 : Op → Bool
  | .store .. => true
  | .call ⟨.builtin .append, _, _⟩ => true
  | .call ⟨.value _, _, _⟩ => true
  | _ => false
/-- No other operation writes. -/
def quietU : List Oper → List Foot → Prop
  | o :: os, F :: Fs => (isW2 o.op = true ∨ F.w = []) ∧ quietU os Fs
  | _, _ => True
theorem quietU_get : ∀ {ops : List Oper} {Fs : List Foot} (h : quietU ops Fs) {i : Nat} {o : Oper}, ops[i]? = some o → isW2 o.op = true ∨ (Fs.getD i noFoot).w = []
  | [], _, _, i, o, e => by cases i <;> cases e
  | _ :: _, [], _, i, o, e => .inr (by simp [noFoot])
  | p :: ps, F :: Fs, h, 0, o, e => by
    simp only [List.getElem?_cons_zero, Option.some.injEq] at e
    subst e; exact h.1
  | p :: ps, F :: Fs, h, i + 1, o, e => by
    simp only [List.getElem?_cons_succ] at e
    simpa [List.getD_cons_succ] using quietU_get h.2 e
/-- The pairs that have no order, one of which may write. -/
def unord (ops : Array Oper) (ms : List Nat) : List (Nat × Nat) :=
  (List.range ops.size).flatMap fun j => (List.range j).filterMap fun i => match ops[i]?, ops[j]? with
    | some x, some y => if (ms.getD j 0).testBit i then none else if isW2 x.op || isW2 y.op then some (i, j) else none
    | _, _ => none
def disj : List Nat → List Nat → Prop
  | [], _ => True
  | x :: xs, ys => (∀ y ∈ ys, ¬ x = y) ∧ disj xs ys
def disjR : List Nat → Option (List Nat) → Prop
  | [], _ => True
  | _ :: _, none => False
  | x :: xs, some ys => disj (x :: xs) ys
def okP (f g : Foot) : Prop := disjR f.w g.r ∧ disj f.w g.w ∧ disjR g.w f.r ∧ disj g.w f.w
theorem disj_ok : ∀ {xs ys : List Nat}, disj xs ys → ∀ b ∈ xs, b ∉ ys
  | x :: xs, ys, h, b, hb => by
    rcases List.mem_cons.1 hb with rfl | hb
    · exact fun hy => h.1 b hy rfl
    · exact disj_ok h.2 b hb
theorem disjR_ok {xs : List Nat} {r : Option (List Nat)} (h : disjR xs r) : ∀ b ∈ xs, ¬ inR r b := by
  intro b hb
  cases xs with
  | nil => cases hb
  | cons x xs => cases r with
    | none => exact h.elim
    | some ys => exact disj_ok h b hb
theorem okP_ok {f g : Foot} (h : okP f g) : okPair f g :=
  ⟨fun b hb => ⟨disjR_ok h.1 b hb, disj_ok h.2.1 b hb⟩, fun b hb => ⟨disjR_ok h.2.2.1 b hb, disj_ok h.2.2.2 b hb⟩⟩
def POk : List (Nat × Nat) → List Foot → Prop
  | [], _ => True
  | p :: U, Fs => okP (Fs.getD p.1 noFoot) (Fs.getD p.2 noFoot) ∧ POk U Fs
theorem POk.mem : ∀ {U : List (Nat × Nat)} {Fs : List Foot}, POk U Fs → ∀ p ∈ U, okP (Fs.getD p.1 noFoot) (Fs.getD p.2 noFoot)
  | q :: U, Fs, h, p, hp => by
    rcases List.mem_cons.1 hp with rfl | hp
    · exact h.1
    · exact POk.mem h.2 p hp
def regU (ops : Array Oper) (ms : List Nat) : Bool :=
  (List.range ops.size).all fun j => match ops[j]? with
    | none => true
    | some y => (ons y).all (fun k => decide (k < j)) && (List.range j).all fun i => match ops[i]? with
      | none => true
      | some x => dstF x y && ((ms.getD j 0).testBit i || ((match x.dst with
    | some d => !(y.looksAt ops).contains d
    | none => true) && (match y.dst with
    | some d => !(x.looksAt ops).contains d
    | none => true)))
theorem regU_ok {ops : Array Oper} {ms : List Nat} (hm : mskL [] ops.toList = ms) (h : regU ops ms = true) : regB ops = true := by
  subst hm
  unfold regU at h
  have h := List.all_eq_true.1 h
  refine List.all_eq_true.2 fun j hj => ?_
  have hy := h j hj
  cases e : ops[j]? with
  | none => rfl
  | some y =>
    simp only [e, Bool.and_eq_true] at hy
    simp only [Bool.and_eq_true]
    refine ⟨hy.1, List.all_eq_true.2 fun i hi => ?_⟩
    have hx := List.all_eq_true.1 hy.2 i hi
    cases e' : ops[i]? with
    | none => rfl
    | some x =>
      simp only [e', Bool.and_eq_true] at hx
      simp only [apartB, ordered_msk]
      unfold dstF at hx
      cases hb : ((mskL [] ops.toList).getD j 0).testBit i with
      | true => cases hxd : x.dst <;> cases hyd : y.dst <;> simp_all
      | false => cases hxd : x.dst <;> cases hyd : y.dst <;> simp_all
theorem compat_u {l : List Oper} {Fs : List Foot} (hq : quietU l Fs) (hp : POk (unord l.toArray (mskL [] l)) Fs) : Compat l.toArray Fs := by
  intro i j hij hj ho
  have hj' : j < l.length := by simpa using hj
  have hi' : i < l.length := by omega
  have ei : l.toArray[i]? = some l[i] := by simp
  have ej : l.toArray[j]? = some l[j] := by simp
  by_cases hw : isW2 l[i].op = true ∨ isW2 l[j].op = true
  · refine okP_ok (hp.mem (i, j) ?_)
    unfold unord
    refine List.mem_flatMap.2 ⟨j, List.mem_range.2 hj, List.mem_filterMap.2 ⟨i, List.mem_range.2 hij, ?_⟩⟩
    rw [ordered_msk] at ho
    simp only [ei, ej]
    have ho' : ((mskL [] l).getD j 0).testBit i = false := ho
    rw [ho']
    simp only [Bool.false_eq_true, if_false, Bool.or_eq_true]
    rw [if_pos hw]
  · have a := (quietU_get hq (List.getElem?_eq_getElem hi')).resolve_left (fun h => hw (.inl h))
    have b := (quietU_get hq (List.getElem?_eq_getElem hj')).resolve_left (fun h => hw (.inr h))
    exact ⟨fun x hx => (by rw [a] at hx; cases hx), fun x hx => (by rw [b] at hx; cases hx)⟩
/-- What is left behind such a region. -/
def KU (l : List Oper) (U : List (Nat × Nat)) (Fs : List Foot) (p : Prop) : Prop := quietU l Fs ∧ POk U Fs ∧ p
section
variable {P : Program} {sz n0 : Nat} {T : Env} {H : AH} {D : List Nat}
theorem drawnU {Q : KC} {id : Nat} {l : List Oper} (U : List (Nat × Nat)) (hr : (regU l.toArray (mskL [] l) && decide (unord l.toArray (mskL [] l) = U)) = true)
    (h : @XOps P sz n0 l.toArray l T H D [] ⟨fun T' H' D' Fs => KU l U Fs (Q.go .norm T' H' D')⟩) : XCode P sz n0 (.region id l.toArray true) T H D := by
  simp only [Bool.and_eq_true, decide_eq_true_eq] at hr
  simp only [XCode, WCode]
  refine ⟨regU_ok rfl hr.1, WOps.mono (fun T H D Fs k => ⟨compat_u k.1 ?_, k.2.2⟩) h⟩
  rw [hr.2]; exact k.2.1
end
@[go_sem] theorem ku_def {l : List Oper} {U : List (Nat × Nat)} {Fs : List Foot} {p : Prop} : KU l U Fs p = (quietU l Fs ∧ POk U Fs ∧ p) := (rfl)
section
variable {dst : Option Tmp} {op : Op} {ty : TypeId} {pos : String} {af : Array Edge} {gd : Option (Nat × Bool)} {os : List Oper} {Fs : List Foot} {r : Option (List Nat)} {w : List Nat}
@[go_sem] theorem quietU_nil : quietU [] Fs = True := by cases Fs <;> rfl
@[go_sem] theorem quietU_w : quietU (⟨dst, op, ty, pos, af, gd⟩ :: os) (⟨[], r⟩ :: Fs) = quietU os Fs := by simp [quietU]
@[go_sem] theorem quietU_s {t : TypeId} {x y : Operand} : quietU (⟨dst, .store t x y, ty, pos, af, gd⟩ :: os) (⟨w, r⟩ :: Fs) = quietU os Fs := by simp [quietU, isW2]
@[go_sem] theorem quietU_a {xs : Array Operand} {ts : Array TypeId} : quietU (⟨dst, .call ⟨.builtin .append, xs, ts⟩, ty, pos, af, gd⟩ :: os) (⟨w, r⟩ :: Fs) = quietU os Fs := by simp [quietU, isW2]
@[go_sem] theorem quietU_c {f : Operand} {xs : Array Operand} {ts : Array TypeId} : quietU (⟨dst, .call ⟨.value f, xs, ts⟩, ty, pos, af, gd⟩ :: os) (⟨w, r⟩ :: Fs) = quietU os Fs := by simp [quietU, isW2]
@[go_sem] theorem pok_nil : POk [] Fs = True := (rfl)
@[go_sem] theorem pok_cons {i j : Nat} {U : List (Nat × Nat)} : POk ((i, j) :: U) Fs = (okP (Fs.getD i noFoot) (Fs.getD j noFoot) ∧ POk U Fs) := (rfl)
@[go_sem] theorem okP_mk {w1 w2 : List Nat} {r1 r2 : Option (List Nat)} : okP ⟨w1, r1⟩ ⟨w2, r2⟩ = (disjR w1 r2 ∧ disj w1 w2 ∧ disjR w2 r1 ∧ disj w2 w1) := (rfl)
@[go_sem] theorem disjR_nil : disjR [] r = True := (rfl)
@[go_sem] theorem disjR_some {x : Nat} {xs ys : List Nat} : disjR (x :: xs) (some ys) = disj (x :: xs) ys := (rfl)
@[go_sem] theorem disj_nil {ys : List Nat} : disj [] ys = True := (rfl)
@[go_sem] theorem disj_cons {x : Nat} {xs ys : List Nat} : disj (x :: xs) ys = ((∀ y ∈ ys, ¬ x = y) ∧ disj xs ys) := (rfl)
@[go_sem] theorem all_nil {x : Nat} : (∀ y ∈ ([] : List Nat), ¬ x = y) = True := by simp
@[go_sem] theorem all_cons {x y : Nat} {ys : List Nat} : (∀ z ∈ y :: ys, ¬ x = z) = ((x = y → False) ∧ ∀ z ∈ ys, ¬ x = z) := by simp [imp_false]
attribute [go_sem] List.getD_cons_zero List.getD_cons_succ
end
end Go.Proofs.Ythoclopeajkcpaa.E
