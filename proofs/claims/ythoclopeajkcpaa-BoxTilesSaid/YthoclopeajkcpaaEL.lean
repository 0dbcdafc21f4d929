/- Loops in the machine, and regions whose order is drawn but makes no difference. -/
import Derived.Test.YthoclopeajkcpaaEK
set_option linter.unusedVariables false
set_option linter.unusedSimpArgs false
namespace Go.Proofs.Ythoclopeajkcpaa.E
open Go Go.RowKit

theorem WRun.mono {P : Program} {sz : Nat} {o : Oper} {T : Env} {H : AH} {K K' : Value → AH → Foot → Prop} (h : WRun P sz o T H K) (q : ∀ v H' F, K v H' F → K' v H' F) : WRun P sz o T H K' := by
  unfold WRun at h ⊢
  split at h
  · split at h
    · exact Cal.mono h fun v H' W k => q _ _ _ k
    · exact h
  · split at h
    · exact q _ _ _ h
    · exact h
theorem WOps.mono {P : Program} {sz n0 : Nat} {ops : Array Oper} {K K' : Env → AH → List Nat → List Foot → Prop} (q : ∀ T H D Fs, K T H D Fs → K' T H D Fs) :
    ∀ {l : List Oper} {T : Env} {H : AH} {D : List Nat} {Fs : List Foot}, WOps P sz n0 ops l T H D Fs K → WOps P sz n0 ops l T H D Fs K'
  | [], _, _, _, _, h => q _ _ _ _ h
  | o :: rest, T, H, D, Fs, h => by
    simp only [WOps] at h ⊢
    refine ⟨h.1, ?_⟩
    have h2 := h.2
    split at h2
    · exact ⟨fun g => (h2.1 g).mono fun v H' F k => WOps.mono q k, fun g => WOps.mono q (h2.2 g)⟩
    · exact h2

theorem WLoop.mono {B : WT} (hB : ∀ (T : Env) (H : AH) (D : List Nat) (Q Q' : WPost), B T H D Q → (∀ o T H D, Q o T H D → Q' o T H D) → B T H D Q') {Q Q' : WPost} (q : ∀ o T H D, Q o T H D → Q' o T H D) :
    ∀ {n : Nat} {T : Env} {H : AH} {D : List Nat}, WLoop B n T H D Q → WLoop B n T H D Q'
  | 0, _, _, _, h => h
  | n + 1, T, H, D, h => by
    simp only [WLoop] at h ⊢
    refine hB _ _ _ _ _ h fun o T H D k => ?_
    cases o with
    | norm => exact WLoop.mono hB q k
    | ret => exact q _ _ _ _ k
    | exit i => exact q _ _ _ _ k

theorem WCode.mono {P : Program} {sz n0 : Nat} : ∀ {c : Code} {T : Env} {H : AH} {D : List Nat} {Q Q' : WPost}, WCode P sz n0 c T H D Q → (∀ o T H D, Q o T H D → Q' o T H D) → WCode P sz n0 c T H D Q' := by
  intro c
  induction c with
  | skip => intro T H D Q Q' h q; exact q _ _ _ _ h
  | region id ops dr =>
    intro T H D Q Q' h q
    cases dr with
    | false => simp only [WCode] at h ⊢; exact WOps.mono (fun T H D Fs k => q _ _ _ _ k) h
    | true => simp only [WCode] at h ⊢; exact ⟨h.1, WOps.mono (fun T H D Fs k => ⟨k.1, q _ _ _ _ k.2⟩) h.2⟩
  | seq a b iha ihb =>
    intro T H D Q Q' h q
    simp only [WCode] at h ⊢
    refine iha h fun o T H D k => ?_
    cases o with
    | norm => exact ihb k q
    | ret => exact q _ _ _ _ k
    | exit i => exact q _ _ _ _ k
  | cond c a b iha ihb =>
    intro T H D Q Q' h q
    simp only [WCode] at h ⊢
    split at h
    · exact ⟨fun t => iha (h.1 t) q, fun t => ihb (h.2 t) q⟩
    · exact h
  | block id c ih =>
    intro T H D Q Q' h q
    simp only [WCode] at h ⊢
    refine ih h fun o T H D k => ?_
    cases o with
    | norm => exact q _ _ _ _ k
    | ret => exact q _ _ _ _ k
    | exit i =>
      simp only [WBlk] at k ⊢
      split at k
      · rename_i e; rw [if_pos e]; exact q _ _ _ _ k
      · rename_i e; rw [if_neg e]; exact q _ _ _ _ k
  | loop c ih =>
    intro T H D Q Q' h q
    simp only [WCode] at h ⊢
    obtain ⟨n, h⟩ := h
    exact ⟨n, WLoop.mono (B := fun T H D Q => WCode P sz n0 c T H D Q) (fun T H D Q Q' k q => ih k q) q h⟩
  | exit id => intro T H D Q Q' h q; exact q _ _ _ _ h
  | ret => intro T H D Q Q' h q; exact q _ _ _ _ h
  | _ => intro T H D Q Q' h q; exact h.elim

section
variable {P : Program} {sz n0 : Nat} {T : Env} {H : AH} {D : List Nat}
/-- So many rounds of a loop. -/
def XLoop (P : Program) (sz n0 : Nat) (c : Code) (n : Nat) (T : Env) (H : AH) (D : List Nat) [Q : KC] : Prop := WLoop (fun T H D Q => WCode P sz n0 c T H D Q) n T H D Q.go
def WLp (P : Program) (sz n0 : Nat) (c : Code) (n : Nat) (q : WPost) : WPost := fun o T H D => match o with
  | .norm => @XLoop P sz n0 c n T H D ⟨q⟩
  | o => q o T H D
theorem rounds {Q : KC} {c : Code} (n : Nat) (h : XLoop P sz n0 c n T H D) : XCode P sz n0 (.loop c) T H D := ⟨n, h⟩
@[go_sem ↓] theorem xloop_succ {Q : KC} {c : Code} {n : Nat} : XLoop P sz n0 c (n + 1) T H D = @XCode P sz n0 c T H D ⟨WLp P sz n0 c n Q.go⟩ := by
  simp only [XLoop, XCode, WLoop]
  refine propext ⟨fun h => WCode.mono h fun o T H D k => ?_, fun h => WCode.mono h fun o T H D k => ?_⟩ <;> cases o <;> exact k
@[go_sem ↓] theorem wlp_norm {q : WPost} {c : Code} {n : Nat} : WLp P sz n0 c n q .norm T H D = @XLoop P sz n0 c n T H D ⟨q⟩ := (rfl)
@[go_sem ↓] theorem wlp_ret {q : WPost} {c : Code} {n : Nat} : WLp P sz n0 c n q .ret T H D = q .ret T H D := (rfl)
@[go_sem ↓] theorem wlp_exit {q : WPost} {c : Code} {n i : Nat} : WLp P sz n0 c n q (.exit i) T H D = q (.exit i) T H D := (rfl)

/-- What holds at a loop's head, so many rounds ahead of its end. -/
def WInv (I : Nat → Env → AH → List Nat → Prop) (k : Nat) (q : WPost) : WPost := fun o T H D => match o with
  | .norm => ∃ j, j < k ∧ I j T H D
  | o => q o T H D
@[go_sem ↓] theorem winv_norm {I : Nat → Env → AH → List Nat → Prop} {k : Nat} {q : WPost} : WInv I k q .norm T H D = ∃ j, j < k ∧ I j T H D := (rfl)
@[go_sem ↓] theorem winv_ret {I : Nat → Env → AH → List Nat → Prop} {k : Nat} {q : WPost} : WInv I k q .ret T H D = q .ret T H D := (rfl)
@[go_sem ↓] theorem winv_exit {I : Nat → Env → AH → List Nat → Prop} {k i : Nat} {q : WPost} : WInv I k q (.exit i) T H D = q (.exit i) T H D := (rfl)
theorem WLoop.more {P : Program} {sz n0 : Nat} {c : Code} {Q : WPost} : ∀ {n : Nat} {T : Env} {H : AH} {D : List Nat}, WLoop (fun T H D Q => WCode P sz n0 c T H D Q) n T H D Q → WLoop (fun T H D Q => WCode P sz n0 c T H D Q) (n + 1) T H D Q
  | 0, _, _, _, h => h.elim
  | n + 1, T, H, D, h => by
    simp only [WLoop] at h
    rw [WLoop]
    refine WCode.mono h fun o T H D k => ?_
    cases o with
    | norm => exact WLoop.more k
    | ret => exact k
    | exit i => exact k
theorem WLoop.le {P : Program} {sz n0 : Nat} {c : Code} {Q : WPost} {n m : Nat} (hnm : n ≤ m) {T : Env} {H : AH} {D : List Nat} (h : WLoop (fun T H D Q => WCode P sz n0 c T H D Q) n T H D Q) : WLoop (fun T H D Q => WCode P sz n0 c T H D Q) m T H D Q := by
  induction m with
  | zero => have : n = 0 := by omega
            subst this; exact h
  | succ m ih =>
    by_cases e : n = m + 1
    · subst e; exact h
    · exact WLoop.more (ih (by omega))
/-- A loop that keeps to what it keeps to. -/
theorem keep {Q : KC} {c : Code} (I : Nat → Env → AH → List Nat → Prop) (n : Nat) (h0 : I n T H D)
    (hs : ∀ k T H D, I k T H D → @XCode P sz n0 c T H D ⟨WInv I k Q.go⟩) : XCode P sz n0 (.loop c) T H D := by
  have key : ∀ n k, k ≤ n → ∀ T H D, I k T H D → WLoop (fun T H D Q => WCode P sz n0 c T H D Q) (n + 1) T H D Q.go := by
    intro n
    induction n with
    | zero =>
      intro k hk T H D hI
      refine WCode.mono (hs k T H D hI) fun o T H D q => ?_
      cases o with
      | norm => obtain ⟨j, hj, _⟩ := q; omega
      | ret => exact q
      | exit i => exact q
    | succ n ih =>
      intro k hk T H D hI
      refine WCode.mono (hs k T H D hI) fun o T H D q => ?_
      cases o with
      | norm => obtain ⟨j, hj, hI⟩ := q; exact ih j (by omega) _ _ _ hI
      | ret => exact q
      | exit i => exact q
  exact ⟨n + 1, key n n (Nat.le_refl _) _ _ _ h0⟩

theorem quiet_get : ∀ {ops : List Oper} {Fs : List Foot} (h : quietL ops Fs) {i : Nat} {o : Oper}, ops[i]? = some o → isW o.op = true ∨ (Fs.getD i noFoot).w = []
  | [], _, _, i, o, e => by cases i <;> cases e
  | _ :: _, [], _, i, o, e => .inr (by simp [noFoot])
  | p :: ps, F :: Fs, h, 0, o, e => by
    simp only [List.getElem?_cons_zero, Option.some.injEq] at e
    subst e; exact h.1
  | p :: ps, F :: Fs, h, i + 1, o, e => by
    simp only [List.getElem?_cons_succ] at e
    simpa [List.getD_cons_succ] using quiet_get h.2 e
theorem compat_stat {l : List Oper} {Fs : List Foot} (hs : statOk l.toArray = true) (hq : quietL l Fs) : Compat l.toArray Fs := by
  intro i j hij hj ho
  have hj' : j < l.length := by simpa using hj
  have h := List.all_eq_true.1 (List.all_eq_true.1 hs j (List.mem_range.2 (by simpa using hj'))) i (List.mem_range.2 hij)
  have hi' : i < l.length := by omega
  rw [ho] at h
  have ei : l[i]? = some l[i] := List.getElem?_eq_getElem hi'
  have ej : l[j]? = some l[j] := List.getElem?_eq_getElem hj'
  have ei' : l.toArray[i]? = some l[i] := by simp
  have ej' : l.toArray[j]? = some l[j] := by simp
  rw [ei', ej'] at h
  have nw : ∀ o : Oper, (!(match o.op with | .store .. => true | .call ⟨.builtin .append, _, _⟩ => true | _ => false)) = true → isW o.op = false := by
    intro o e
    unfold isW
    split <;> simp_all
  simp only [Bool.false_or, Bool.and_eq_true] at h
  have a := quiet_get hq ei
  have b := quiet_get hq ej
  rw [nw _ h.1] at a
  rw [nw _ h.2] at b
  have a : (Fs.getD i noFoot).w = [] := a.resolve_left (by decide)
  have b : (Fs.getD j noFoot).w = [] := b.resolve_left (by decide)
  exact ⟨fun x hx => (by rw [a] at hx; cases hx), fun x hx => (by rw [b] at hx; cases hx)⟩
/-- What is left behind a region whose order makes no difference. -/
theorem drawn {Q : KC} {id : Nat} {l : List Oper} (hr : regB l.toArray = true) (hs : statOk l.toArray = true) (h : @XOps P sz n0 l.toArray l T H D [] ⟨fun T' H' D' Fs => quietL l Fs ∧ Q.go .norm T' H' D'⟩) : XCode P sz n0 (.region id l.toArray true) T H D := by
  simp only [XCode, WCode]
  exact ⟨hr, WOps.mono (fun T H D Fs k => ⟨compat_stat hs k.1, k.2⟩) h⟩
@[go_sem] theorem quietL_nil {Fs : List Foot} : quietL [] Fs = True := by cases Fs <;> rfl
@[go_sem] theorem quietL_w {dst : Option Tmp} {op : Op} {ty : TypeId} {pos : String} {af : Array Edge} {gd : Option (Nat × Bool)} {os : List Oper} {Fs : List Foot} {r : Option (List Nat)} : quietL (⟨dst, op, ty, pos, af, gd⟩ :: os) (⟨[], r⟩ :: Fs) = quietL os Fs := by
  simp [quietL]
@[go_sem] theorem quietL_s {dst : Option Tmp} {t : TypeId} {x y : Operand} {ty : TypeId} {pos : String} {af : Array Edge} {gd : Option (Nat × Bool)} {os : List Oper} {Fs : List Foot} {r : Option (List Nat)} {w : List Nat} : quietL (⟨dst, .store t x y, ty, pos, af, gd⟩ :: os) (⟨w, r⟩ :: Fs) = quietL os Fs := by
  simp [quietL, isW]
@[go_sem] theorem quietL_a {dst : Option Tmp} {xs : Array Operand} {ts : Array TypeId} {ty : TypeId} {pos : String} {af : Array Edge} {gd : Option (Nat × Bool)} {os : List Oper} {Fs : List Foot} {r : Option (List Nat)} {w : List Nat} : quietL (⟨dst, .call ⟨.builtin .append, xs, ts⟩, ty, pos, af, gd⟩ :: os) (⟨w, r⟩ :: Fs) = quietL os Fs := by
  simp [quietL, isW]
end
@[go_sem] theorem wrap_i64_in {n : Int} (h1 : (-9223372036854775808 ≤ n) = True) (h2 : (n ≤ 9223372036854775807) = True) : IntKind.i64.wrap n = n := by
  have h1 := of_eq_true h1
  have h2 := of_eq_true h2
  rw [IntKind.wrap_i64]; omega
@[go_sem] theorem wrap_u8_in {n : Int} (h1 : (0 ≤ n) = True) (h2 : (n ≤ 255) = True) : IntKind.u8.wrap n = n := by
  have h1 := of_eq_true h1
  have h2 := of_eq_true h2
  rw [IntKind.wrap_u8]; omega
attribute [go_sem] List.length_append List.length_cons List.length_nil true_and and_true and_self
end Go.Proofs.Ythoclopeajkcpaa.E
