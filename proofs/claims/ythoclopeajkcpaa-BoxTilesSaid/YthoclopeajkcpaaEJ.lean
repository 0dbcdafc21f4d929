/- Evaluation in the machine, by rewriting from the outside. -/
import Derived.Test.YthoclopeajkcpaaEI
set_option linter.unusedVariables false
set_option linter.unusedSimpArgs false
namespace Go.Proofs.Ythoclopeajkcpaa.E
open Go Go.RowKit

/-- What is still to be done, laid where the rewriting does not look. -/
class Co (α : Type) where
  go : α
@[go_sem ↓] theorem co_go {α : Type} (f : α) : (Co.mk f).go = f := (rfl)

abbrev KV := Co (Value → AH → Foot → Prop)
abbrev KO := Co (Env → AH → List Nat → List Foot → Prop)
abbrev KC := Co WPost
abbrev KX := Co (Value → AH → List Nat → Prop)

def XRun (P : Program) (sz : Nat) (o : Oper) (T : Env) (H : AH) [R : KV] : Prop := WRun P sz o T H R.go
def XOps (P : Program) (sz n0 : Nat) (ops : Array Oper) (l : List Oper) (T : Env) (H : AH) (D : List Nat) (Fs : List Foot) [K : KO] : Prop := WOps P sz n0 ops l T H D Fs K.go
def XCode (P : Program) (sz n0 : Nat) (c : Code) (T : Env) (H : AH) (D : List Nat) [Q : KC] : Prop := WCode P sz n0 c T H D Q.go
def XCal (P : Program) (f : FuncId) (args : List Value) (H : AH) [Q : KX] : Prop := Cal P f args H Q.go

section
variable {P : Program} {sz n0 : Nat} {T : Env} {H : AH} {D : List Nat}

@[go_sem ↓] theorem wcode_x {c : Code} {q : WPost} : WCode P sz n0 c T H D q = @XCode P sz n0 c T H D ⟨q⟩ := (rfl)
@[go_sem ↓] theorem wcode_skip {Q : KC} : XCode P sz n0 .skip T H D = Q.go .norm T H D := (rfl)
@[go_sem ↓] theorem wcode_region {Q : KC} {id : Nat} {l : List Oper} : XCode P sz n0 (.region id l.toArray false) T H D = @XOps P sz n0 l.toArray l T H D [] ⟨fun T' H' D' _ => Q.go .norm T' H' D'⟩ := by simp [XCode, XOps, WCode]
@[go_sem ↓] theorem wcode_seq {Q : KC} {a b : Code} : XCode P sz n0 (.seq a b) T H D = @XCode P sz n0 a T H D ⟨WSeq (fun T H D Q => WCode P sz n0 b T H D Q) Q.go⟩ := (rfl)
@[go_sem ↓] theorem wcode_block {Q : KC} {id : Nat} {c : Code} : XCode P sz n0 (.block id c) T H D = @XCode P sz n0 c T H D ⟨WBlk id Q.go⟩ := (rfl)
@[go_sem ↓] theorem wcode_exit {Q : KC} {id : Nat} : XCode P sz n0 (.exit id) T H D = Q.go (.exit id) T H D := (rfl)
@[go_sem ↓] theorem wcode_ret {Q : KC} : XCode P sz n0 .ret T H D = Q.go .ret T H D := (rfl)
@[go_sem ↓] theorem wcode_cond_t {Q : KC} {c : Operand} {a b : Code} (h : ev T c = some (.bool true)) : XCode P sz n0 (.cond c a b) T H D = XCode P sz n0 a T H D := by simp [XCode, WCode, h]
@[go_sem ↓] theorem wcode_cond_f {Q : KC} {c : Operand} {a b : Code} (h : ev T c = some (.bool false)) : XCode P sz n0 (.cond c a b) T H D = XCode P sz n0 b T H D := by simp [XCode, WCode, h]

theorem wcode_cond {Q : KC} {c : Operand} {a b : Code} (t : Bool) (h : ev T c = some (.bool t)) (ht : t = true → XCode P sz n0 a T H D) (hf : t = false → XCode P sz n0 b T H D) : XCode P sz n0 (.cond c a b) T H D := by
  simp only [XCode, WCode, h]; exact ⟨ht, hf⟩

/-- What is left behind a region whose order is drawn. -/
def KEnd (ops : List Oper) [Q : KC] (T : Env) (H : AH) (D : List Nat) (Fs : List Foot) : Prop := Compat ops.toArray Fs ∧ Q.go .norm T H D

theorem wcode_drawn {Q : KC} {id : Nat} {l : List Oper} (hr : regB l.toArray = true) (h : @XOps P sz n0 l.toArray l T H D [] ⟨fun T' H' D' Fs => KEnd l T' H' D' Fs⟩) : XCode P sz n0 (.region id l.toArray true) T H D := by
  simp only [XCode, WCode]
  exact ⟨hr, h⟩

@[go_sem ↓] theorem wseq_norm' {B : WT} {q : WPost} : WSeq B q .norm T H D = B T H D q := (rfl)
@[go_sem ↓] theorem wseq_ret' {B : WT} {q : WPost} : WSeq B q .ret T H D = q .ret T H D := (rfl)
@[go_sem ↓] theorem wseq_exit' {B : WT} {q : WPost} {i : Nat} : WSeq B q (.exit i) T H D = q (.exit i) T H D := (rfl)
@[go_sem ↓] theorem wblk_norm' {id : Nat} {q : WPost} : WBlk id q .norm T H D = q .norm T H D := (rfl)
@[go_sem ↓] theorem wblk_ret' {id : Nat} {q : WPost} : WBlk id q .ret T H D = q .ret T H D := (rfl)
@[go_sem ↓] theorem wblk_exit_t {id : Nat} {q : WPost} : WBlk id q (.exit id) T H D = q .norm T H D := by simp [WBlk]
@[go_sem ↓] theorem wblk_exit_f {id i : Nat} {q : WPost} (h : (i == id) = false) : WBlk id q (.exit i) T H D = q (.exit i) T H D := by
  have : ¬ i = id := by simpa using h
  simp [WBlk, this]
end

/-! ### operations -/
section
variable {P : Program} {sz n0 : Nat} {ops : Array Oper} {rest : List Oper} {T : Env} {H : AH} {D : List Nat} {Fs : List Foot}
variable {dst : Option Tmp} {op : Op} {ty : TypeId} {pos : String} {af : Array Edge} {gd : Option (Nat × Bool)}

@[go_sem ↓] theorem wops_nil {K : KO} : XOps P sz n0 ops [] T H D Fs = K.go T H D Fs := (rfl)
@[go_sem ↓] theorem wops_plain {K : KO} {d : Nat} (hd : d + 1 - sz = 0) : XOps P sz n0 ops (⟨some d, op, ty, pos, af, none⟩ :: rest) T H D Fs =
    @XRun P sz ⟨some d, op, ty, pos, af, none⟩ T H ⟨fun v H' F => XOps P sz n0 ops rest (upd T d v) H' (D ++ F.w.filter (fun b => decide (b < n0))) (Fs ++ [F])⟩ := by
  have hd : d < sz := by omega
  simp [XOps, XRun, WOps, dok, hd, awant, put]
@[go_sem ↓] theorem wops_plain0 {K : KO} : XOps P sz n0 ops (⟨none, op, ty, pos, af, none⟩ :: rest) T H D Fs =
    @XRun P sz ⟨none, op, ty, pos, af, none⟩ T H ⟨fun v H' F => XOps P sz n0 ops rest (T) H' (D ++ F.w.filter (fun b => decide (b < n0))) (Fs ++ [F])⟩ := by
  simp [XOps, XRun, WOps, dok, awant, put]
@[go_sem ↓] theorem wops_yes {K : KO} {d : Nat} {g : Nat × Bool} (hd : d + 1 - sz = 0) (hg : awant ops T ⟨some d, op, ty, pos, af, some g⟩ = some true) : XOps P sz n0 ops (⟨some d, op, ty, pos, af, some g⟩ :: rest) T H D Fs =
    @XRun P sz ⟨some d, op, ty, pos, af, some g⟩ T H ⟨fun v H' F => XOps P sz n0 ops rest (upd T d v) H' (D ++ F.w.filter (fun b => decide (b < n0))) (Fs ++ [F])⟩ := by
  have hd : d < sz := by omega
  simp [XOps, XRun, WOps, dok, hd, hg, put]
@[go_sem ↓] theorem wops_yes0 {K : KO} {g : Nat × Bool} (hg : awant ops T ⟨none, op, ty, pos, af, some g⟩ = some true) : XOps P sz n0 ops (⟨none, op, ty, pos, af, some g⟩ :: rest) T H D Fs =
    @XRun P sz ⟨none, op, ty, pos, af, some g⟩ T H ⟨fun v H' F => XOps P sz n0 ops rest (T) H' (D ++ F.w.filter (fun b => decide (b < n0))) (Fs ++ [F])⟩ := by
  simp [XOps, XRun, WOps, dok, hg, put]
@[go_sem ↓] theorem wops_no {K : KO} {d : Nat} {g : Nat × Bool} (hd : d + 1 - sz = 0) (hg : awant ops T ⟨some d, op, ty, pos, af, some g⟩ = some false) : XOps P sz n0 ops (⟨some d, op, ty, pos, af, some g⟩ :: rest) T H D Fs =
    XOps P sz n0 ops rest (upd T d undef) H D (Fs ++ [⟨[], some []⟩]) := by
  have hd : d < sz := by omega
  simp [XOps, WOps, dok, hd, hg, put]

@[go_sem ↓] theorem wops_no0 {K : KO} {g : Nat × Bool} (hg : awant ops T ⟨none, op, ty, pos, af, some g⟩ = some false) : XOps P sz n0 ops (⟨none, op, ty, pos, af, some g⟩ :: rest) T H D Fs =
    XOps P sz n0 ops rest (T) H D (Fs ++ [⟨[], some []⟩]) := by
  simp [XOps, WOps, dok, hg, put]

theorem wops_guard {K : KO} {g : Nat × Bool} (b : Bool) (hd : dok sz dst = true) (hg : awant ops T ⟨dst, op, ty, pos, af, some g⟩ = some b)
    (ht : b = true → XOps P sz n0 ops (⟨dst, op, ty, pos, af, some g⟩ :: rest) T H D Fs) (hf : b = false → XOps P sz n0 ops (⟨dst, op, ty, pos, af, some g⟩ :: rest) T H D Fs) : XOps P sz n0 ops (⟨dst, op, ty, pos, af, some g⟩ :: rest) T H D Fs := by
  cases b
  · exact hf rfl
  · exact ht rfl

/-- What comes of a value that is worked out. -/
def Kv [R : KV] (H : AH) : Option Value → Prop
  | some v => R.go v H ⟨[], some []⟩
  | none => False
@[go_sem] theorem kv_some {R : KV} {v : Value} : Kv H (some v) = R.go v H ⟨[], some []⟩ := (rfl)
/-- What comes of a value that is read. -/
def Kl [R : KV] (H : AH) : Option (Value × Nat) → Prop
  | some (v, b) => R.go v H ⟨[], some [b]⟩
  | none => False
@[go_sem] theorem kl_some {R : KV} {v : Value} {b : Nat} : Kl H (some (v, b)) = R.go v H ⟨[], some [b]⟩ := (rfl)
/-- What comes of a store. -/
def Ks [R : KV] : Option (AH × Nat) → Prop
  | some (H', b) => R.go undef H' ⟨[b], some [b]⟩
  | none => False
@[go_sem] theorem ks_some {R : KV} {H' : AH} {b : Nat} : Ks (some (H', b)) = R.go undef H' ⟨[b], some [b]⟩ := (rfl)
/-- What comes of a new block. -/
def Kn [R : KV] (H : AH) : Option (List Value) → Prop
  | some cs => R.go (ap H.length 0 0) (H ++ [⟨cs, 0, true⟩]) ⟨[], some []⟩
  | none => False
@[go_sem] theorem kn_some {R : KV} {cs : List Value} : Kn H (some cs) = R.go (ap H.length 0 0) (H ++ [⟨cs, 0, true⟩]) ⟨[], some []⟩ := (rfl)
/-- What comes of a new row. -/
def Kr [R : KV] (H : AH) (n : Nat) : Option (List Value × Nat) → Prop
  | some (cs, s) => R.go (sl H.length 0 0 n s) (H ++ [⟨cs, 0, true⟩]) ⟨[], some []⟩
  | none => False
@[go_sem] theorem kr_some {R : KV} {n s : Nat} {cs : List Value} : Kr H n (some (cs, s)) = R.go (sl H.length 0 0 n s) (H ++ [⟨cs, 0, true⟩]) ⟨[], some []⟩ := (rfl)
def Km [R : KV] (H : AH) : Option (List Value × Nat × Nat) → Prop
  | some (cs, s, n) => R.go (sl H.length 0 0 n s) (H ++ [⟨cs, 0, true⟩]) ⟨[], some []⟩
  | none => False
@[go_sem] theorem km_some {R : KV} {n s : Nat} {cs : List Value} : Km H (some (cs, s, n)) = R.go (sl H.length 0 0 n s) (H ++ [⟨cs, 0, true⟩]) ⟨[], some []⟩ := (rfl)
def Ka [R : KV] : Option (Value × AH × List Nat × List Nat) → Prop
  | some (v, H', W, rs) => R.go v H' ⟨W, some rs⟩
  | none => False
@[go_sem] theorem ka_some {R : KV} {v : Value} {H' : AH} {W rs : List Nat} : Ka (some (v, H', W, rs)) = R.go v H' ⟨W, some rs⟩ := (rfl)

/- Operands, as far as they are known. -/
def b1 (f : Value → Option Value) : Option Value → Option Value
  | some v => f v
  | none => none
def b2 {α : Type} (f : Value → Value → Option α) : Option Value → Option Value → Option α
  | some v, some u => f v u
  | _, _ => none
@[go_sem] theorem b1_some {f : Value → Option Value} {v : Value} : b1 f (some v) = f v := (rfl)
@[go_sem] theorem b2_some {α : Type} {f : Value → Value → Option α} {v u : Value} : b2 f (some v) (some u) = f v u := (rfl)

@[go_sem ↓] theorem wrun_move {R : KV} {x : Operand} : XRun P sz ⟨dst, .move x, ty, pos, af, gd⟩ T H = Kv H (ev T x) := by
  simp only [XRun, WRun, astep]; cases ev T x <;> rfl
@[go_sem ↓] theorem wrun_assign {R : KV} {x : Operand} : XRun P sz ⟨dst, .assign x, ty, pos, af, gd⟩ T H = Kv H (ev T x) := by
  simp only [XRun, WRun, astep]; cases ev T x <;> rfl
def apick : Value → Value → Value → Option Value
  | .bool t, x, y => some (if t then x else y)
  | _, _, _ => none
def b3 (f : Value → Value → Value → Option Value) : Option Value → Option Value → Option Value → Option Value
  | some v, some u, some x => f v u x
  | _, _, _ => none
@[go_sem] theorem b3_some {f : Value → Value → Value → Option Value} {v u x : Value} : b3 f (some v) (some u) (some x) = f v u x := (rfl)
@[go_sem] theorem apick_t {x y : Value} : apick (.bool true) x y = some x := (rfl)
@[go_sem] theorem apick_f {x y : Value} : apick (.bool false) x y = some y := (rfl)
@[go_sem ↓] theorem wrun_pick {R : KV} {c x y : Operand} : XRun P sz ⟨dst, .pick c x y, ty, pos, af, gd⟩ T H = Kv H (b3 apick (ev T c) (ev T x) (ev T y)) := by
  simp only [XRun, WRun, astep]
  cases ev T c with
  | none => rfl
  | some v => cases v <;> cases ev T x <;> cases ev T y <;> rfl
@[go_sem ↓] theorem wrun_alloc {R : KV} {e : TypeId} : XRun P sz ⟨dst, .alloc e, ty, pos, af, gd⟩ T H = Kn H (tzero P e) := by
  simp only [XRun, WRun, astep]; cases tzero P e <;> rfl
def bL (f : Value → Option (List Value)) : Option Value → Option (List Value)
  | some v => f v
  | none => none
@[go_sem] theorem bL_some {f : Value → Option (List Value)} {v : Value} : bL f (some v) = f v := (rfl)
@[go_sem ↓] theorem wrun_box {R : KV} {e : TypeId} {x : Operand} : XRun P sz ⟨dst, .box e x, ty, pos, af, gd⟩ T H = Kn H (bL cellsL (ev T x)) := by
  simp only [XRun, WRun, astep]
  cases ev T x with
  | none => rfl
  | some v => simp only [bL]; cases cellsL v <;> rfl
def bP {α : Type} (f : List (Nat × Value) → Option α) : Option (List (Nat × Value)) → Option α
  | some v => f v
  | none => none
@[go_sem] theorem bP_some {α : Type} {f : List (Nat × Value) → Option α} {v : List (Nat × Value)} : bP f (some v) = f v := (rfl)
@[go_sem ↓] theorem wrun_build {R : KV} {t : TypeId} {ps : List (Nat × Operand)} : XRun P sz ⟨dst, .build t ps.toArray, ty, pos, af, gd⟩ T H = Kv H (bP (abuild P t) (evp T ps)) := by
  simp only [XRun, WRun, astep]
  cases evp T ps with
  | none => rfl
  | some v => simp only [bP]; cases abuild P t v <;> rfl
@[go_sem ↓] theorem wrun_buildSlice {R : KV} {t : TypeId} {n : Nat} {ps : List (Nat × Operand)} : XRun P sz ⟨dst, .buildSlice t n ps.toArray, ty, pos, af, gd⟩ T H = Kr H n (bP (abuildSlice P t n) (evp T ps)) := by
  simp only [XRun, WRun, astep]
  cases evp T ps with
  | none => rfl
  | some v => simp only [bP]; cases abuildSlice P t n v <;> rfl
def bl (f : Value → Option (Value × Nat)) : Option Value → Option (Value × Nat)
  | some v => f v
  | none => none
@[go_sem] theorem bl_some {f : Value → Option (Value × Nat)} {v : Value} : bl f (some v) = f v := (rfl)
@[go_sem ↓] theorem wrun_load {R : KV} {t : TypeId} {x : Operand} : XRun P sz ⟨dst, .load t x, ty, pos, af, gd⟩ T H = Kl H (bl (aload P H t) (ev T x)) := by
  simp only [XRun, WRun, astep]
  cases ev T x with
  | none => rfl
  | some v => simp only [bl]; cases aload P H t v <;> rfl
@[go_sem ↓] theorem wrun_store {R : KV} {t : TypeId} {x y : Operand} : XRun P sz ⟨dst, .store t x y, ty, pos, af, gd⟩ T H = Ks (b2 (astore P H t) (ev T x) (ev T y)) := by
  simp only [XRun, WRun, astep]
  cases ev T x with
  | none => rfl
  | some v => cases ev T y with
    | none => rfl
    | some u => simp only [b2]; cases astore P H t v u <;> rfl
def anil : Value → Option Value
  | .pointer (some a) => some (.pointer (some a))
  | .func (.func f) xs zs => some (.func (.func f) xs zs)
  | _ => none
@[go_sem] theorem anil_ptr {a : Addr} : anil (.pointer (some a)) = some (.pointer (some a)) := (rfl)
@[go_sem] theorem anil_fn {f : FuncId} {xs zs : Array Value} : anil (.func (.func f) xs zs) = some (.func (.func f) xs zs) := (rfl)
@[go_sem ↓] theorem wrun_nilCheck {R : KV} {x : Operand} : XRun P sz ⟨dst, .nilCheck x, ty, pos, af, gd⟩ T H = Kv H (b1 anil (ev T x)) := by
  simp only [XRun, WRun, astep]
  cases ev T x with
  | none => rfl
  | some v =>
    simp only [b1, anil]
    split
    · rename_i heq; split at heq <;> first | (simp_all; done) | (simp_all [Kv]; obtain ⟨rfl, rfl, rfl⟩ := heq; rfl)
    · rename_i heq; split at heq <;> first | (simp_all; done) | (simp_all [Kv])
@[go_sem ↓] theorem wrun_bin {R : KV} {o : BinOp} {t u : TypeId} {x y : Operand} : XRun P sz ⟨dst, .binOp o t x y u, ty, pos, af, gd⟩ T H = Kv H (b2 (abin P o t) (ev T x) (ev T y)) := by
  simp only [XRun, WRun, astep]
  cases ev T x with
  | none => rfl
  | some v => cases ev T y with
    | none => rfl
    | some u => simp only [b2]; cases abin P o t v u <;> rfl
@[go_sem ↓] theorem wrun_un {R : KV} {o : UnOp} {t : TypeId} {x : Operand} : XRun P sz ⟨dst, .unOp o t x, ty, pos, af, gd⟩ T H = Kv H (b1 (aun o) (ev T x)) := by
  simp only [XRun, WRun, astep]
  cases ev T x with
  | none => rfl
  | some v => simp only [b1]; cases aun o v <;> rfl
@[go_sem ↓] theorem wrun_conv {R : KV} {s d : TypeId} {x : Operand} : XRun P sz ⟨dst, .convert s d x, ty, pos, af, gd⟩ T H = Kv H (b1 (aconv P s d) (ev T x)) := by
  simp only [XRun, WRun, astep]
  cases ev T x with
  | none => rfl
  | some v => simp only [b1]; cases aconv P s d v <;> rfl
def afun (fn : Fn) : Option (List Value) → Option (List Value) → Option Value
  | some xs, some zs => some (.func fn xs.toArray zs.toArray)
  | _, _ => none
@[go_sem] theorem afun_some {fn : Fn} {xs zs : List Value} : afun fn (some xs) (some zs) = some (.func fn xs.toArray zs.toArray) := (rfl)
@[go_sem ↓] theorem wrun_makeFunc {R : KV} {fn : Fn} {xs zs : List Operand} : XRun P sz ⟨dst, .makeFunc fn xs.toArray zs.toArray, ty, pos, af, gd⟩ T H = Kv H (afun fn (evs T xs) (evs T zs)) := by
  simp only [XRun, WRun, astep]
  cases evs T xs <;> cases evs T zs <;> rfl
@[go_sem ↓] theorem wrun_make {R : KV} {t : TypeId} {l c : Operand} : XRun P sz ⟨dst, .makeSlice t l c, ty, pos, af, gd⟩ T H = Km H (b2 (amake P t) (ev T l) (ev T c)) := by
  simp only [XRun, WRun, astep]
  cases ev T l with
  | none => rfl
  | some v => cases ev T c with
    | none => rfl
    | some u => simp only [b2]; cases amake P t v u <;> rfl
/-- What comes of a cut. -/
def Kq (P : Program) (H : AH) [R : KV] (t : TypeId) (v : Value) (l h m : Option Value) : Option Value → Prop
  | some u => R.go u H ⟨[], some []⟩
  | none => if m.isNone = true then Kl H (aslicep P H t v l h) else False
def Kc (P : Program) (H : AH) [R : KV] (t : TypeId) : Option Value → Option (Option Value) → Option (Option Value) → Option (Option Value) → Prop
  | some v, some l, some h, some m => Kq P H t v l h m (aslice P t v l h m)
  | _, _, _, _ => False
@[go_sem] theorem kq_some {R : KV} {t : TypeId} {v u : Value} {l h m : Option Value} : Kq P H t v l h m (some u) = R.go u H ⟨[], some []⟩ := (rfl)
@[go_sem] theorem kc_some {R : KV} {t : TypeId} {v : Value} {l h m : Option Value} : Kc P H t (some v) (some l) (some h) (some m) = Kq P H t v l h m (aslice P t v l h m) := (rfl)
@[go_sem ↓] theorem wrun_slice {R : KV} {t : TypeId} {x : Operand} {lo hi mx : Option Operand} : XRun P sz ⟨dst, .slice t x lo hi mx, ty, pos, af, gd⟩ T H = Kc P H t (ev T x) (evo T lo) (evo T hi) (evo T mx) := by
  simp only [XRun, WRun, astep]
  cases ev T x with
  | none => rfl
  | some v => cases evo T lo with
    | none => rfl
    | some l => cases evo T hi with
      | none => rfl
      | some h => cases evo T mx with
        | none => rfl
        | some m =>
          simp only [Kc]
          cases aslice P t v l h m with
          | some u => rfl
          | none =>
            simp only [Kq]
            by_cases hm : m.isNone = true
            · rw [if_pos hm, if_pos hm]
              cases aslicep P H t v l h <;> rfl
            · rw [if_neg hm, if_neg hm]
@[go_sem ↓] theorem wrun_fieldAddr {R : KV} {t : TypeId} {x : Operand} {f : Nat} : XRun P sz ⟨dst, .fieldAddr t x f, ty, pos, af, gd⟩ T H = Kv H (b1 (afield P t f) (ev T x)) := by
  simp only [XRun, WRun, astep]
  cases ev T x with
  | none => rfl
  | some v => simp only [b1]; cases afield P t f v <;> rfl
@[go_sem ↓] theorem wrun_field {R : KV} {t : TypeId} {x : Operand} {f : Nat} : XRun P sz ⟨dst, .field t x f, ty, pos, af, gd⟩ T H = Kv H (b1 (afieldv P t f) (ev T x)) := by
  simp only [XRun, WRun, astep]
  cases ev T x with
  | none => rfl
  | some v => simp only [b1]; cases afieldv P t f v <;> rfl
@[go_sem ↓] theorem wrun_indexAddr {R : KV} {t : TypeId} {x i : Operand} : XRun P sz ⟨dst, .indexAddr t x i, ty, pos, af, gd⟩ T H = Kv H (b2 (aindex P t) (ev T x) (ev T i)) := by
  simp only [XRun, WRun, astep]
  cases ev T x with
  | none => rfl
  | some v => cases ev T i with
    | none => rfl
    | some u => simp only [b2]; cases aindex P t v u <;> rfl
@[go_sem ↓] theorem wrun_index {R : KV} {t : TypeId} {x i : Operand} : XRun P sz ⟨dst, .index t x i, ty, pos, af, gd⟩ T H = Kv H (b2 (aindexv P t) (ev T x) (ev T i)) := by
  simp only [XRun, WRun, astep]
  cases ev T x with
  | none => rfl
  | some v => cases ev T i with
    | none => rfl
    | some u => simp only [b2]; cases aindexv P t v u <;> rfl
def aextract (i : Nat) : Value → Option Value
  | .tuple vs => vs.toList[i]?
  | _ => none
@[go_sem] theorem aextract_tuple {i : Nat} {l : List Value} : aextract i (.tuple l.toArray) = l[i]? := (rfl)
@[go_sem ↓] theorem wrun_extract {R : KV} {x : Operand} {i : Nat} : XRun P sz ⟨dst, .extract x i, ty, pos, af, gd⟩ T H = Kv H (b1 (aextract i) (ev T x)) := by
  simp only [XRun, WRun, astep]
  cases ev T x with
  | none => rfl
  | some v => cases v with
    | tuple vs => simp only [b1, aextract]; cases vs.toList[i]? <;> rfl
    | _ => rfl
def bs1 (f : Value → Option Value) : Option (List Value) → Option Value
  | some [x] => f x
  | _ => none
@[go_sem] theorem bs1_some {f : Value → Option Value} {x : Value} : bs1 f (some [x]) = f x := (rfl)
@[go_sem ↓] theorem wrun_len {R : KV} {as : List Operand} {t : TypeId} : XRun P sz ⟨dst, .call ⟨.builtin .len, as.toArray, #[t]⟩, ty, pos, af, gd⟩ T H = Kv H (bs1 (alen P t) (evs T as)) := by
  simp only [XRun, WRun, astep]
  cases evs T as with
  | none => rfl
  | some l => match l with
    | [] => rfl
    | [x] => simp only [bs1]; cases alen P t x <;> rfl
    | _ :: _ :: _ => rfl
def bs2 {α : Type} (f : Value → Value → Option α) : Option (List Value) → Option α
  | some [x, y] => f x y
  | _ => none
@[go_sem] theorem bs2_some {α : Type} {f : Value → Value → Option α} {x y : Value} : bs2 f (some [x, y]) = f x y := (rfl)
@[go_sem ↓] theorem wrun_append {R : KV} {as : List Operand} {t t' : TypeId} : XRun P sz ⟨dst, .call ⟨.builtin .append, as.toArray, #[t, t']⟩, ty, pos, af, gd⟩ T H = Ka (bs2 (aappend P H t t') (evs T as)) := by
  simp only [XRun, WRun, astep]
  cases evs T as with
  | none => rfl
  | some l => match l with
    | [] => rfl
    | [x] => rfl
    | [x, y] => simp only [bs2]; cases aappend P H t t' x y <;> rfl
    | _ :: _ :: _ :: _ => rfl
def amins (big : Bool) : Option (List Value) → Option Value
  | some (x :: r) => amin big x r
  | _ => none
@[go_sem] theorem amins_some {big : Bool} {x : Value} {r : List Value} : amins big (some (x :: r)) = amin big x r := (rfl)
@[go_sem ↓] theorem wrun_min {R : KV} {as : List Operand} {ts : Array TypeId} : XRun P sz ⟨dst, .call ⟨.builtin .min, as.toArray, ts⟩, ty, pos, af, gd⟩ T H = Kv H (amins false (evs T as)) := by
  simp only [XRun, WRun, astep]
  cases evs T as with
  | none => rfl
  | some l => match l with
    | [] => rfl
    | x :: r => simp only [amins]; cases amin false x r <;> rfl
@[go_sem ↓] theorem wrun_max {R : KV} {as : List Operand} {ts : Array TypeId} : XRun P sz ⟨dst, .call ⟨.builtin .max, as.toArray, ts⟩, ty, pos, af, gd⟩ T H = Kv H (amins true (evs T as)) := by
  simp only [XRun, WRun, astep]
  cases evs T as with
  | none => rfl
  | some l => match l with
    | [] => rfl
    | x :: r => simp only [amins]; cases amin true x r <;> rfl

/-- What comes of a call of a function's value. -/
def Kf (P : Program) (H : AH) [R : KV] : Option Value → Option (List Value) → Prop
  | some (.func (.func fid) xs zs), some vs => @XCal P fid (xs.toList ++ vs ++ zs.toList) H ⟨fun v H' W => R.go v H' ⟨W, none⟩⟩
  | _, _ => False
@[go_sem ↓] theorem wrun_call {R : KV} {f : Operand} {as : List Operand} {ts : Array TypeId} : XRun P sz ⟨dst, .call ⟨.value f, as.toArray, ts⟩, ty, pos, af, gd⟩ T H = Kf P H (ev T f) (evs T as) := by
  simp only [XRun, WRun]
  cases ev T f with
  | none => rfl
  | some v => cases v with
    | func fn xs zs => cases fn <;> cases evs T as <;> rfl
    | _ => rfl
@[go_sem] theorem kf_some {R : KV} {fid : FuncId} {xs zs vs : List Value} : Kf P H (some (.func (.func fid) xs.toArray zs.toArray)) (some vs) = @XCal P fid (xs ++ vs ++ zs) H ⟨fun v H' W => R.go v H' ⟨W, none⟩⟩ := (rfl)
end

/-! ### values -/
@[go_sem] theorem ev_tmp (T : Env) (t : Tmp) : ev T (.tmp t) = some (T t) := (rfl)
@[go_sem] theorem ev_int (T : Env) (k : IntKind) (n : Int) : ev T (.const (.int k n)) = some (.int k n) := (rfl)
@[go_sem] theorem ev_bool (T : Env) (b : Bool) : ev T (.const (.bool b)) = some (.bool b) := (rfl)
@[go_sem] theorem ev_string (T : Env) (s : ByteArray) : ev T (.const (.string s)) = some (.string s) := (rfl)
@[go_sem] theorem ev_nils (T : Env) : ev T (.const (.slice none 0 0)) = some (.slice none 0 0) := (rfl)
@[go_sem] theorem ev_nilp (T : Env) : ev T (.const (.pointer none)) = some (.pointer none) := (rfl)
@[go_sem] theorem ev_nilf (T : Env) : ev T (.const .nilFunc) = some .nilFunc := (rfl)
@[go_sem] theorem ev_func (T : Env) (f : FuncId) : ev T (.func f) = some (.func (.func f) #[] #[]) := (rfl)
@[go_sem] theorem evs_nil (T : Env) : evs T [] = some [] := (rfl)
def ocons : Option Value → Option (List Value) → Option (List Value)
  | some v, some vs => some (v :: vs)
  | _, _ => none
@[go_sem] theorem ocons_some {v : Value} {vs : List Value} : ocons (some v) (some vs) = some (v :: vs) := (rfl)
@[go_sem] theorem evs_cons (T : Env) (x : Operand) (xs : List Operand) : evs T (x :: xs) = ocons (ev T x) (evs T xs) := by
  simp only [evs]; cases ev T x <;> cases evs T xs <;> rfl
@[go_sem] theorem evp_nil (T : Env) : evp T [] = some [] := (rfl)
def pcons (i : Nat) : Option Value → Option (List (Nat × Value)) → Option (List (Nat × Value))
  | some v, some vs => some ((i, v) :: vs)
  | _, _ => none
@[go_sem] theorem pcons_some {i : Nat} {v : Value} {vs : List (Nat × Value)} : pcons i (some v) (some vs) = some ((i, v) :: vs) := (rfl)
@[go_sem] theorem evp_cons (T : Env) (i : Nat) (x : Operand) (xs : List (Nat × Operand)) : evp T ((i, x) :: xs) = pcons i (ev T x) (evp T xs) := by
  simp only [evp]; cases ev T x <;> cases evp T xs <;> rfl
@[go_sem] theorem evo_none (T : Env) : evo T none = some none := (rfl)
@[go_sem] theorem evo_some (T : Env) (x : Operand) : evo T (some x) = (ev T x).map some := (rfl)
@[go_sem] theorem put_some' (T : Env) (d : Nat) (v : Value) : put T (some d) v = upd T d v := (rfl)
@[go_sem] theorem put_none' (T : Env) (v : Value) : put T none v = T := (rfl)
@[go_sem ↓] theorem upd_hit (T : Env) (d : Nat) (v : Value) : upd T d v d = v := by simp [upd]
@[go_sem ↓] theorem upd_miss (T : Env) (d t : Nat) (v : Value) (h : (t = d) = False) : upd T d v t = T t := by
  have : ¬ t = d := fun e => by rw [h] at e; exact e
  simp [upd, this]
@[go_sem] theorem arg0 (x : Value) (xs : List Value) : argEnv (x :: xs) 0 = x := (rfl)
@[go_sem] theorem argS (x : Value) (xs : List Value) (n : Nat) : argEnv (x :: xs) (n + 1) = argEnv xs n := (rfl)
@[go_sem] theorem dok_some (sz d : Nat) : dok sz (some d) = decide (d < sz) := (rfl)
@[go_sem] theorem dok_none (sz : Nat) : dok sz none = true := (rfl)

@[go_sem] theorem cellsL_int (k : IntKind) (n : Int) : cellsL (.int k n) = some [.int k n] := (rfl)
@[go_sem] theorem cellsL_bool (b : Bool) : cellsL (.bool b) = some [.bool b] := (rfl)
@[go_sem] theorem cellsL_string (s : ByteArray) : cellsL (.string s) = some [.string s] := (rfl)
@[go_sem] theorem cellsL_ptr (a : Option Addr) : cellsL (.pointer a) = some [.pointer a] := (rfl)
@[go_sem] theorem cellsL_slice (a : Option Addr) (l c : Nat) : cellsL (.slice a l c) = some [.slice a l c] := (rfl)
@[go_sem] theorem cellsL_func (f : Fn) (a c : Array Value) : cellsL (.func f a c) = some [.func f a c] := (rfl)
@[go_sem] theorem cellsL_agg (l : List Value) : cellsL (.agg l.toArray) = some l := (rfl)

/-! ### operators -/
section
variable {P : Program} {t : TypeId} {k yk : IntKind} {a b : Int}
@[go_sem] theorem abin_add : abin P .add t (.int k a) (.int k b) = some (.int k (k.wrap (a + b))) := by simp [abin, aint]
@[go_sem] theorem abin_sub : abin P .sub t (.int k a) (.int k b) = some (.int k (k.wrap (a - b))) := by simp [abin, aint]
@[go_sem] theorem abin_mul : abin P .mul t (.int k a) (.int k b) = some (.int k (k.wrap (a * b))) := by simp [abin, aint]
@[go_sem] theorem abin_quo (h : (b = 0) = False) : abin P .quo t (.int k a) (.int k b) = some (.int k (k.wrap (a.tdiv b))) := by
  have : b ≠ 0 := fun e => by rw [h] at e; exact e
  simp [abin, aint, this]
@[go_sem] theorem abin_rem (h : (b = 0) = False) : abin P .rem t (.int k a) (.int k b) = some (.int k (a.tmod b)) := by
  have : b ≠ 0 := fun e => by rw [h] at e; exact e
  simp [abin, aint, this]
@[go_sem] theorem abin_and : abin P .and t (.int k a) (.int k b) = some (.int k (bits .and k a b)) := by simp [abin, aint]
@[go_sem] theorem abin_or : abin P .or t (.int k a) (.int k b) = some (.int k (bits .or k a b)) := by simp [abin, aint]
@[go_sem] theorem abin_xor : abin P .xor t (.int k a) (.int k b) = some (.int k (bits .xor k a b)) := by simp [abin, aint]
@[go_sem] theorem abin_andNot : abin P .andNot t (.int k a) (.int k b) = some (.int k (bits .andNot k a b)) := by simp [abin, aint]
@[go_sem] theorem abin_eql : abin P .eql t (.int k a) (.int k b) = some (.bool (a == b)) := by simp [abin, aint]
@[go_sem] theorem abin_neq : abin P .neq t (.int k a) (.int k b) = some (.bool (a != b)) := by simp [abin, aint]
@[go_sem] theorem abin_lss : abin P .lss t (.int k a) (.int k b) = some (.bool (decide (a < b))) := by simp [abin, aint]
@[go_sem] theorem abin_leq : abin P .leq t (.int k a) (.int k b) = some (.bool (decide (a ≤ b))) := by simp [abin, aint]
@[go_sem] theorem abin_gtr : abin P .gtr t (.int k a) (.int k b) = some (.bool (decide (b < a))) := by simp [abin, aint]
@[go_sem] theorem abin_geq : abin P .geq t (.int k a) (.int k b) = some (.bool (decide (b ≤ a))) := by simp [abin, aint]
@[go_sem] theorem abin_shl {n : Nat} : abin P .shl t (.int k a) (.int yk (OfNat.ofNat n)) = some (.int k (k.wrap (a * 2 ^ min n k.bits))) := by
  have h : (0 : Int) ≤ OfNat.ofNat n := Int.natCast_nonneg n
  have e : (OfNat.ofNat n : Int).toNat = n := Int.toNat_natCast n
  simp only [abin, isShift, or_true, if_true, aint, h, e]
@[go_sem] theorem abin_shr {n : Nat} : abin P .shr t (.int k a) (.int yk (OfNat.ofNat n)) = some (.int k (a.fdiv (2 ^ min n k.bits))) := by
  have h : (0 : Int) ≤ OfNat.ofNat n := Int.natCast_nonneg n
  have e : (OfNat.ofNat n : Int).toNat = n := Int.toNat_natCast n
  simp only [abin, isShift, or_true, if_true, aint, h, e]
@[go_sem] theorem abin_eqlb {x y : Bool} (h : tbool P t = true) : abin P .eql t (.bool x) (.bool y) = some (.bool (x == y)) := by simp [abin, h]
@[go_sem] theorem abin_neqb {x y : Bool} (h : tbool P t = true) : abin P .neq t (.bool x) (.bool y) = some (.bool (!(x == y))) := by simp [abin, h]
@[go_sem] theorem aun_neg : aun .neg (.int k a) = some (.int k (k.wrap (0 - a))) := (rfl)
@[go_sem] theorem aun_not {b : Bool} : aun .not (.bool b) = some (.bool !b) := (rfl)
@[go_sem] theorem aun_xor64 : aun .xor (.int .i64 a) = some (.int .i64 (bits .xor .i64 (-1) a)) := (rfl)
end

/-! ### ends -/
/-- A function's end. -/
def WFin (P : Program) (rs : List ResultVar) [K : KX] : WPost := fun o T H D => match o with
  | .exit _ => False
  | _ => match aresL P T H rs with
    | some vs => K.go (one1 vs) H D
    | none => False
def Ke [K : KX] (H : AH) (D : List Nat) : Option (List Value) → Prop
  | some vs => K.go (one1 vs) H D
  | none => False
section
variable {P : Program} {T : Env} {H : AH} {D : List Nat}
@[go_sem] theorem ke_one {K : KX} {v : Value} : Ke H D (some [v]) = K.go v H D := (rfl)
@[go_sem] theorem ke_nil {K : KX} : Ke H D (some []) = K.go (.tuple #[]) H D := (rfl)
@[go_sem] theorem ke_two {K : KX} {v u : Value} {vs : List Value} : Ke H D (some (v :: u :: vs)) = K.go (.tuple (v :: u :: vs).toArray) H D := (rfl)
@[go_sem ↓] theorem wfin_ret {K : KX} {rs : List ResultVar} : WFin P rs .ret T H D = Ke H D (aresL P T H rs) := by
  simp only [WFin]; cases aresL P T H rs <;> rfl
@[go_sem ↓] theorem wfin_norm {K : KX} {rs : List ResultVar} : WFin P rs .norm T H D = Ke H D (aresL P T H rs) := by
  simp only [WFin]; cases aresL P T H rs <;> rfl
@[go_sem] theorem aresL_nil : aresL P T H [] = some [] := (rfl)
@[go_sem] theorem aresL_cons {r : ResultVar} {rs : List ResultVar} : aresL P T H (r :: rs) = ocons (ares1 P T H r) (aresL P T H rs) := by
  simp only [aresL]; cases ares1 P T H r <;> cases aresL P T H rs <;> rfl
@[go_sem] theorem ares1_tmp {t : Tmp} : ares1 P T H (.tmp t) = some (T t) := (rfl)
def fst1 : Option (Value × Nat) → Option Value
  | some (v, _) => some v
  | none => none
@[go_sem] theorem fst1_some {v : Value} {b : Nat} : fst1 (some (v, b)) = some v := (rfl)
@[go_sem] theorem ares1_cell {a : Tmp} {t : TypeId} : ares1 P T H (.cell a t) = fst1 (aload P H t (T a)) := by
  simp only [ares1]; cases aload P H t (T a) <;> rfl
end

theorem XCal.of {P : Program} (hm : P.follows .mixedOrders = true) {f : FuncId} {fn : Func} {c : Code} {args : List Value} {H : AH} {K : KX} {sz : Nat} {rs : List ResultVar}
    (hf : P.funcs[f]? = some fn) (hb : fn.body = some c) (hc : ∀ (xs : Array Value) (w : World), (callFunc f xs).run P w = .ok (.enter f xs) w) (hn : fn.ntmps = sz) (hr : fn.results = rs.toArray) (hsz : decide (args.length ≤ sz) = true)
    (h : @XCode P sz H.length c (argEnv args) H [] ⟨WFin P rs⟩) : XCal P f args H := by
  subst hn
  refine Cal.of hm hf hb hc (by simpa using hsz) ?_
  have h' : WCode P fn.ntmps H.length c (argEnv args) H [] (WFin P rs) := h
  rw [hr]
  have e : (WFin P rs : WPost) = fun o T' H' D' => (match o with | .exit _ => False | _ => True) ∧ match aresL P T' H' rs.toArray.toList with
      | some vs => K.go (one1 vs) H' D'
      | none => False := by
    funext o T' H' D'
    cases o <;> simp [WFin]
  rw [e] at h'
  exact h'

theorem SemCall.x {P : Program} {f : FuncId} {args : List Value} {H H' : AH} {v : Value} {W : List Nat} (h : SemCall P f args H v H' W) {Q : KX} (q : Q.go v H' W) : XCal P f args H := ⟨v, H', W, h, q⟩

/-- A function that only reckons. -/
theorem pure_of {P : Program} {f : FuncId} {args : List Value} {H : AH} {v : Value} (h : @XCal P f args H ⟨fun v' _ W' => v' = v ∧ W' = []⟩) (hv : renR H.length [] v = some v) : SemCall P f args H v H [] := Cal.pure h hv

/-! ### blocks -/
attribute [go_sem] List.filter_nil List.append_nil List.nil_append List.filter_cons List.cons_append List.getElem?_cons_zero List.getElem?_cons_succ List.set_cons_zero List.set_cons_succ List.length_cons List.length_nil
attribute [go_sem] hget_app hget_app0 hset_app hset_app0 happ_app lt_add lt_self

end Go.Proofs.Ythoclopeajkcpaa.E
