/- The machine's steps that call nothing, all together, and that each is what the world does. -/
import Derived.Test.YthoclopeajkcpaaE8
set_option linter.unusedVariables false
set_option linter.unusedSimpArgs false
namespace Go.Proofs.Ythoclopeajkcpaa.E
open Go Go.RowKit

/-! ### operators -/
def aint (op : BinOp) (k : IntKind) (a b : Int) : Option Value :=
  match op with
  | .add => some (.int k (k.wrap (a + b)))
  | .sub => some (.int k (k.wrap (a - b)))
  | .mul => some (.int k (k.wrap (a * b)))
  | .quo => if b ≠ 0 then some (.int k (k.wrap (a.tdiv b))) else none
  | .rem => if b ≠ 0 then some (.int k (a.tmod b)) else none
  | .and => some (.int k (bits .and k a b))
  | .or => some (.int k (bits .or k a b))
  | .xor => some (.int k (bits .xor k a b))
  | .andNot => some (.int k (bits .andNot k a b))
  | .eql => some (.bool (a == b))
  | .neq => some (.bool (a != b))
  | .lss => some (.bool (decide (a < b)))
  | .leq => some (.bool (decide (a ≤ b)))
  | .gtr => some (.bool (decide (a > b)))
  | .geq => some (.bool (decide (a ≥ b)))
  | .shl => if 0 ≤ b then some (.int k (k.wrap (a * 2 ^ min b.toNat k.bits))) else none
  | .shr => if 0 ≤ b then some (.int k (a.fdiv (2 ^ min b.toNat k.bits))) else none

def isShift : BinOp → Bool
  | .shl | .shr => true
  | _ => false

def tbool (P : Program) (t : TypeId) : Bool :=
  match P.underlying t with
  | some .bool => true
  | _ => false
theorem tbool_und {P : Program} {t : TypeId} (h : tbool P t = true) : P.underlying t = some .bool := by
  unfold tbool at h
  split at h
  · assumption
  · cases h

def abin (P : Program) (op : BinOp) (t : TypeId) (x y : Value) : Option Value :=
  match x, y with
  | .int k a, .int k' b => if k = k' ∨ isShift op = true then aint op k a b else none
  | .bool a, .bool b => match op with
    | .eql => if tbool P t = true then some (.bool (a == b)) else none
    | .neq => if tbool P t = true then some (.bool (!(a == b))) else none
    | _ => none
  | .string a, .string b => match op with
    | .eql => some (.bool (a.toList == b.toList))
    | .neq => some (.bool (!(a.toList == b.toList)))
    | .add => if ((a.size + b.size : Nat) : Int) ≤ 9223372036854775807 then some (.string (a ++ b)) else none
    | _ => none
  | .agg xs, .agg ys => if P.eqGuardType P.depth t = false ∧ tagg P t = some true then
      (match flatTy P 16 t with
      | some ks => match eqc ks xs.toList ys.toList with
        | some b => (match op with
          | .eql => some (.bool b)
          | .neq => some (.bool (!b))
          | _ => none)
        | none => none
      | none => none) else none
  | _, _ => none

theorem aint_ok {P : Program} {op : BinOp} {k k' : IntKind} {a b : Int} {t : TypeId} {v : Value} (h : aint op k a b = some v) (hk : k = k' ∨ isShift op = true) (w : World) : (binOp op t (.int k a) (.int k' b)).run P w = .ok v w := by
  unfold aint at h
  cases op
  case shl =>
    simp only at h
    split at h
    case isFalse => cases h
    cases h
    simp [binOp, Op.shift, Int.not_lt.2 ‹_›]
  case shr =>
    simp only at h
    split at h
    case isFalse => cases h
    cases h
    simp [binOp, Op.shift, Int.not_lt.2 ‹_›]
  all_goals
    have hk : k = k' := by rcases hk with h | h; exact h; cases h
    subst hk
    simp only at h
  case quo =>
    split at h
    case isFalse => cases h
    cases h
    simp [binOp, Op.intDiv, ‹b ≠ 0›]
  case rem =>
    split at h
    case isFalse => cases h
    cases h
    simp [binOp, Op.intDiv, ‹b ≠ 0›]
  all_goals (cases h; simp [binOp, Op.intArith, Op.intCmp, Op.intBits, bits])

theorem abin_ok {P : Program} {M : Mp} {op : BinOp} {t : TypeId} {x y x' y' v : Value} (hx : VR M x x') (hy : VR M y y') (h : abin P op t x y = some v) (px py : Operand) (w : World) :
    ((do eqGuard op t px py x' y'; binOp op t x' y' : Sem Value)).run P w = .ok v w ∧ VR M v v := by
  unfold abin at h
  split at h
  · rename_i k a k' b
    have := hx.int_inv; subst this
    have := hy.int_inv; subst this
    split at h
    case isFalse => cases h
    rename_i hk
    have := aint_ok (P := P) (t := t) h hk w
    refine ⟨?_, ?_⟩
    · have hg : eqGuard op t px py (.int k a) (.int k' b) = pure () := by cases op <;> rfl
      simp [hg, this]
    · unfold aint at h
      cases op <;> simp only at h <;> (try (split at h)) <;> first | (cases h; done) | (cases h; first | exact .int _ _ | exact .bool _)
  · rename_i a b
    have := hx.bool_inv; subst this
    have := hy.bool_inv; subst this
    split at h
    case h_3 => cases h
    · split at h
      case isFalse => cases h
      rename_i hu
      cases h
      have hg : eqGuard .eql t px py (.bool a) (.bool b) = pure () := rfl
      have := run_eql_bool (P := P) w t a b (tbool_und hu)
      exact ⟨by simp [hg, this], .bool _⟩
    · split at h
      case isFalse => cases h
      rename_i hu
      cases h
      have hg : eqGuard .neq t px py (.bool a) (.bool b) = pure () := rfl
      have := run_neq_bool (P := P) w t a b (tbool_und hu)
      exact ⟨by simp [hg, this], .bool _⟩
  · rename_i a b
    have := hx.str_inv; subst this
    have := hy.str_inv; subst this
    split at h
    case h_4 => cases h
    · cases h
      have hg : eqGuard .eql t px py (.string a) (.string b) = pure () := rfl
      exact ⟨by simp [hg, binOp, Op.stringOp], .bool _⟩
    · cases h
      have hg : eqGuard .neq t px py (.string a) (.string b) = pure () := rfl
      exact ⟨by simp [hg, binOp, Op.stringOp], .bool _⟩
    · split at h
      case isFalse => cases h
      rename_i hl
      cases h
      have hg : eqGuard .add t px py (.string a) (.string b) = pure () := rfl
      have hm : ¬ (((a.size + b.size : Nat) : Int) > IntKind.i64.max) := by
        have : IntKind.i64.max = 9223372036854775807 := by decide
        omega
      exact ⟨by simp only [hg, Sem.run_bind, Sem.run_pure, Result.andThen_ok, binOp, Op.stringOp]; rw [if_neg hm]; rfl, .str _⟩
  · rename_i xs ys
    split at h
    case isFalse => cases h
    rename_i hc
    obtain ⟨hgd, hag⟩ := hc
    split at h
    case h_2 => cases h
    rename_i ks hks
    split at h
    case h_2 => cases h
    rename_i bb hb
    obtain ⟨xs', rfl, hx1⟩ := agg_cells hx
    obtain ⟨ys', rfl, hy1⟩ := agg_cells hy
    -- the world's cells are the machine's own
    have same : ∀ {ks : List Lf} {b : Bool} {l m l' m' : List Value}, eqc ks l m = some b → VRs M l l' → VRs M m m' → l' = l ∧ m' = m := by
      intro ks
      induction ks with
      | nil =>
        intro b l m l' m' h hl hm
        obtain ⟨e1, e2⟩ := eqc_len h
        have a1 : l = [] := List.eq_nil_of_length_eq_zero e1
        have a2 : m = [] := List.eq_nil_of_length_eq_zero e2
        subst a1; subst a2
        exact ⟨List.eq_nil_of_length_eq_zero (by have := hl.1; simpa using this.symm), List.eq_nil_of_length_eq_zero (by have := hm.1; simpa using this.symm)⟩
      | cons k ks ih =>
        intro b l m l' m' h hl hm
        cases l with
        | nil => cases m <;> cases h
        | cons x l =>
          cases m with
          | nil => cases h
          | cons y m =>
            simp only [eqc] at h
            split at h
            case h_2 => cases h
            rename_i b1 b2 h1 h2
            cases l' with
            | nil => have := hl.1; simp at this
            | cons x' l' =>
              cases m' with
              | nil => have := hm.1; simp at this
              | cons y' m' =>
                obtain ⟨r1, r2⟩ := ih h2 (l' := l') (m' := m') ⟨by have := hl.1; simpa using this, fun i v v' a b => hl.2 (i + 1) v v' (by simpa using a) (by simpa using b)⟩ ⟨by have := hm.1; simpa using this, fun i v v' a b => hm.2 (i + 1) v v' (by simpa using a) (by simpa using b)⟩
                have q1 := hl.2 0 x x' rfl rfl
                have q2 := hm.2 0 y y' rfl rfl
                subst r1; subst r2
                unfold eq1 at h1
                split at h1
                · exact ⟨by rw [q1.int_inv], by rw [q2.int_inv]⟩
                · exact ⟨by rw [q1.bool_inv], by rw [q2.bool_inv]⟩
                · exact ⟨by rw [q1.str_inv], by rw [q2.str_inv]⟩
                · cases h1
    obtain ⟨e1, e2⟩ := same hb hx1.1 hy1.1
    have hrun := flat_eq (P := P) 16 t ks hks 10000 (by omega) xs.toList ys.toList bb hb (.agg xs') (.agg ys') (.inl ⟨hag, by congr 1; apply Array.ext'; simpa using e1⟩) (.inl ⟨hag, by congr 1; apply Array.ext'; simpa using e2⟩) w
    have hg := run_eqGuard_agg (P := P) w op t px py xs' ys' hgd
    split at h
    case h_3 => cases h
    · cases h
      exact ⟨by simp [hg, run_eql_struct, hrun], .bool _⟩
    · cases h
      exact ⟨by simp [hg, run_neq_struct, hrun], .bool _⟩
  · cases h

def aun (op : UnOp) (x : Value) : Option Value :=
  match op, x with
  | .neg, .int k n => some (.int k (k.wrap (0 - n)))
  | .xor, .int k n => some (.int k (bits .xor k (if k.signed then -1 else k.max) n))
  | .not, .bool b => some (.bool !b)
  | _, _ => none

theorem aun_ok {P : Program} {M : Mp} {op : UnOp} {x x' v : Value} (hx : VR M x x') (h : aun op x = some v) (w : World) : (Op.unary op x').run P w = .ok v w ∧ VR M v v := by
  unfold aun at h
  split at h
  · have := hx.int_inv; subst this; cases h; exact ⟨by simp [Op.unary, Op.intArith], .int _ _⟩
  · have := hx.int_inv; subst this; cases h; exact ⟨by simp [Op.unary, Op.intBits, bits], .int _ _⟩
  · have := hx.bool_inv; subst this; cases h; exact ⟨by simp [Op.unary], .bool _⟩
  · cases h

def aconv (P : Program) (src dst : TypeId) (x : Value) : Option Value :=
  match x with
  | .int _ n => match tkind P dst with
    | some k => if (P.underlying src).isSome = true then some (.int k (k.wrap n)) else none
    | none => none
  | .string s => if tstr P dst = true ∧ tstr P src = true then some x else none
  | _ => none

theorem tkind_und {P : Program} {t : TypeId} {k : IntKind} (h : tkind P t = some k) : P.underlying t = some (.int k) := by
  unfold tkind at h
  split at h
  · cases h; assumption
  · cases h

theorem aconv_ok {P : Program} {M : Mp} {src dst : TypeId} {x x' v : Value} (hx : VR M x x') (h : aconv P src dst x = some v) (w : World) : (convert src dst x').run P w = .ok v w ∧ VR M v v := by
  unfold aconv at h
  split at h
  · have := hx.int_inv; subst this
    split at h
    case h_2 => cases h
    rename_i k hk
    split at h
    case isFalse => cases h
    rename_i hs
    cases h
    obtain ⟨d, hd⟩ := Option.isSome_iff_exists.1 hs
    exact ⟨by simp [convert, run_underlying hd, run_underlying (tkind_und hk), Conv.intToInt], .int _ _⟩
  · have := hx.str_inv; subst this
    split at h
    case isFalse => cases h
    rename_i hc
    cases h
    exact ⟨by simp [convert, run_underlying (tstr_und hc.1), run_underlying (tstr_und hc.2)], .str _⟩
  · cases h

def amin (big : Bool) : Value → List Value → Option Value
  | .int k x, [] => some (.int k x)
  | .int k x, .int _ y :: r => amin big (.int k (if big then (if y > x then y else x) else (if y < x then y else x))) r
  | _, _ => none

theorem amin_ok {P : Program} {M : Mp} : ∀ {r r' : List Value} {x x' v : Value}, VR M x x' → VRs M r r' → amin false x r = some v → ∀ w, (r'.foldlM Builtin.min2 x').run P w = .ok v w ∧ VR M v v
  | [], r', x, x', v, hx, hr, h, w => by
    have : r' = [] := List.eq_nil_of_length_eq_zero (by have := hr.1; simpa using this.symm)
    subst this
    unfold amin at h
    split at h
    · have := hx.int_inv; subst this; cases h; exact ⟨rfl, .int _ _⟩
    · rename_i hh; cases hh
    · cases h
  | y :: r, [], x, x', v, hx, hr, h, w => by have := hr.1; simp at this
  | y :: r, y' :: r', x, x', v, hx, hr, h, w => by
    unfold amin at h
    split at h
    · rename_i hh; cases hh
    · rename_i k a k' b r0 hh
      cases hh
      have := hx.int_inv; subst this
      have hy := hr.2 0 (.int k' b) y' rfl rfl
      have := hy.int_inv; subst this
      simp only [Bool.false_eq_true, if_false] at h
      have ih := amin_ok (P := P) (.int k (if b < a then b else a)) (r' := r') ⟨by have := hr.1; simpa using this, fun i v v' a b => hr.2 (i + 1) v v' (by simpa using a) (by simpa using b)⟩ h w
      refine ⟨?_, ih.2⟩
      rw [List.foldlM_cons, Sem.run_bind]
      simp only [Builtin.min2, Sem.run_pure, Result.andThen_ok]
      exact ih.1
    · cases h

theorem amax_ok {P : Program} {M : Mp} : ∀ {r r' : List Value} {x x' v : Value}, VR M x x' → VRs M r r' → amin true x r = some v → ∀ w, (r'.foldlM Builtin.max2 x').run P w = .ok v w ∧ VR M v v
  | [], r', x, x', v, hx, hr, h, w => by
    have : r' = [] := List.eq_nil_of_length_eq_zero (by have := hr.1; simpa using this.symm)
    subst this
    unfold amin at h
    split at h
    · have := hx.int_inv; subst this; cases h; exact ⟨rfl, .int _ _⟩
    · rename_i hh; cases hh
    · cases h
  | y :: r, [], x, x', v, hx, hr, h, w => by have := hr.1; simp at this
  | y :: r, y' :: r', x, x', v, hx, hr, h, w => by
    unfold amin at h
    split at h
    · rename_i hh; cases hh
    · rename_i k a k' b r0 hh
      cases hh
      have := hx.int_inv; subst this
      have hy := hr.2 0 (.int k' b) y' rfl rfl
      have := hy.int_inv; subst this
      simp only [if_true] at h
      have ih := amax_ok (P := P) (.int k (if b > a then b else a)) (r' := r') ⟨by have := hr.1; simpa using this, fun i v v' a b => hr.2 (i + 1) v v' (by simpa using a) (by simpa using b)⟩ h w
      refine ⟨?_, ih.2⟩
      rw [List.foldlM_cons, Sem.run_bind]
      simp only [Builtin.max2, Sem.run_pure, Result.andThen_ok]
      exact ih.1
    · cases h

/-! ### all steps -/
structure Foot where
  w : List Nat
  r : Option (List Nat)

def astep (P : Program) (T : Env) (H : AH) (op : Op) : Option (Value × AH × Foot) :=
  match op with
  | .move x => (ev T x).map (·, H, ⟨[], some []⟩)
  | .assign x => (ev T x).map (·, H, ⟨[], some []⟩)
  | .pick c a b => match ev T c, ev T a, ev T b with
    | some (.bool t), some x, some y => some (if t then x else y, H, ⟨[], some []⟩)
    | _, _, _ => none
  | .alloc e => (tzero P e).map fun z => (ap H.length 0 0, H ++ [⟨z, 0, true⟩], ⟨[], some []⟩)
  | .box _ x => match ev T x with
    | some v => (cellsL v).map fun cs => (ap H.length 0 0, H ++ [⟨cs, 0, true⟩], ⟨[], some []⟩)
    | none => none
  | .build t ps => match evp T ps.toList with
    | some vs => (abuild P t vs).map (·, H, ⟨[], some []⟩)
    | none => none
  | .buildSlice t n ps => match evp T ps.toList with
    | some vs => (abuildSlice P t n vs).map fun (cs, s) => (sl H.length 0 0 n s, H ++ [⟨cs, 0, true⟩], ⟨[], some []⟩)
    | none => none
  | .load t x => match ev T x with
    | some v => (aload P H t v).map fun (u, b) => (u, H, ⟨[], some [b]⟩)
    | none => none
  | .store t x y => match ev T x, ev T y with
    | some v, some u => (astore P H t v u).map fun (H', b) => (undef, H', ⟨[b], some [b]⟩)
    | _, _ => none
  | .nilCheck x => match ev T x with
    | some (.pointer (some a)) => some (.pointer (some a), H, ⟨[], some []⟩)
    | some (.func (.func f) xs zs) => some (.func (.func f) xs zs, H, ⟨[], some []⟩)
    | _ => none
  | .binOp op t x y _ => match ev T x, ev T y with
    | some v, some u => (abin P op t v u).map (·, H, ⟨[], some []⟩)
    | _, _ => none
  | .unOp op _ x => match ev T x with
    | some v => (aun op v).map (·, H, ⟨[], some []⟩)
    | none => none
  | .convert s d x => match ev T x with
    | some v => (aconv P s d v).map (·, H, ⟨[], some []⟩)
    | none => none
  | .makeFunc fn first captured => match evs T first.toList, evs T captured.toList with
    | some xs, some zs => some (.func fn xs.toArray zs.toArray, H, ⟨[], some []⟩)
    | _, _ => none
  | .makeSlice t l c => match ev T l, ev T c with
    | some v, some u => (amake P t v u).map fun (cs, s, n) => (sl H.length 0 0 n s, H ++ [⟨cs, 0, true⟩], ⟨[], some []⟩)
    | _, _ => none
  | .slice t x lo hi mx => match ev T x, evo T lo, evo T hi, evo T mx with
    | some v, some l, some h, some m => match aslice P t v l h m with
      | some u => some (u, H, ⟨[], some []⟩)
      | none => if m.isNone = true then (aslicep P H t v l h).map fun (u, b) => (u, H, ⟨[], some [b]⟩) else none
    | _, _, _, _ => none
  | .fieldAddr t x f => match ev T x with
    | some v => (afield P t f v).map (·, H, ⟨[], some []⟩)
    | none => none
  | .field t x f => match ev T x with
    | some v => (afieldv P t f v).map (·, H, ⟨[], some []⟩)
    | none => none
  | .indexAddr t x i => match ev T x, ev T i with
    | some v, some u => (aindex P t v u).map (·, H, ⟨[], some []⟩)
    | _, _ => none
  | .index t x i => match ev T x, ev T i with
    | some v, some u => (aindexv P t v u).map (·, H, ⟨[], some []⟩)
    | _, _ => none
  | .extract x i => match ev T x with
    | some (.tuple vs) => (vs.toList[i]?).map (·, H, ⟨[], some []⟩)
    | _ => none
  | .call c => match c.callee with
    | .builtin .len => match c.argTypes.toList, evs T c.args.toList with
      | [t], some [x] => (alen P t x).map (·, H, ⟨[], some []⟩)
      | _, _ => none
    | .builtin .append => match c.argTypes.toList, evs T c.args.toList with
      | [t, t'], some [x, y] => (aappend P H t t' x y).map fun (v, H', W, rs) => (v, H', ⟨W, some rs⟩)
      | _, _ => none
    | .builtin .min => match evs T c.args.toList with
      | some (x :: r) => (amin false x r).map (·, H, ⟨[], some []⟩)
      | _ => none
    | .builtin .max => match evs T c.args.toList with
      | some (x :: r) => (amin true x r).map (·, H, ⟨[], some []⟩)
      | _ => none
    | _ => none
  | _ => none

theorem evs_rel {M : Mp} {sz : Nat} {T : Env} {a : Act} (h : ActR M sz T a) : ∀ {xs : List Operand} {vs : List Value}, evs T xs = some vs → VRs M vs (xs.map a.eval)
  | [], vs, e => by cases e; exact VRs.nil
  | x :: xs, vs, e => by
    simp only [evs] at e
    split at e
    case h_2 => cases e
    rename_i v us h1 h2
    cases e
    exact VRs.cons (ev_rel h h1) (evs_rel h h2)

theorem evo_rel {M : Mp} {sz : Nat} {T : Env} {a : Act} (h : ActR M sz T a) {x : Option Operand} {v : Option Value} (e : evo T x = some v) : ORel M v (x.map a.eval) := by
  cases x with
  | none => cases e; exact .inl ⟨rfl, rfl⟩
  | some x =>
    simp only [evo] at e
    cases hx : ev T x with
    | none => rw [hx] at e; cases e
    | some u => rw [hx] at e; cases e; exact .inr ⟨_, _, rfl, rfl, ev_rel h hx⟩

/-- What an operation comes to in the world. -/
def Does (P : Program) (N0 : Nat) (H H' : AH) (W : List Nat) (M : Mp) (w : World) (v : Value) (r : Result Next) : Prop :=
  ∃ v' w' M', (r = .ok (.value v') w' ∨ (r = .ok .skip w' ∧ v' = undef)) ∧ VR M' v v' ∧ Post N0 H H' W M M' w w'

theorem Does.of_gives {P : Program} {N0 : Nat} {H H' : AH} {W : List Nat} {M : Mp} {w : World} {v : Value} {s : Sem Value} (h : Gives N0 H H' W M w v (s.run P w)) :
    Does P N0 H H' W M w v ((do pure (.value (← s)) : Sem Next).run P w) := by
  obtain ⟨v', w', M', h1, h2, h3⟩ := h
  refine ⟨v', w', M', .inl ?_, h2, h3⟩
  simp only [Sem.run_bind, h1, Result.andThen_ok, Sem.run_pure]

theorem Does.of_run {P : Program} {N0 : Nat} {H : AH} {R : Option (List Nat)} {M : Mp} {w : World} (p : Pre N0 H R M w) {v v' : Value} {s : Sem Value} (h : s.run P w = .ok v' w) (hv : VR M v v') :
    Does P N0 H H [] M w v ((do pure (.value (← s)) : Sem Next).run P w) := Does.of_gives (Gives.same p h hv)

theorem list_one {α : Type} {l : List α} {a : Array α} {x : α} (h : a.toList = [x]) : a = #[x] := by apply Array.ext'; simpa using h
theorem list_two {α : Type} {a : Array α} {x y : α} (h : a.toList = [x, y]) : a = #[x, y] := by apply Array.ext'; simpa using h

end Go.Proofs.Ythoclopeajkcpaa.E
