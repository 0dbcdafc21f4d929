/- The machine's code: what it does with operations one behind the other. -/
import Derived.Test.YthoclopeajkcpaaEA
import Derived.Tactics
set_option linter.unusedVariables false
set_option linter.unusedSimpArgs false
namespace Go.Proofs.Ythoclopeajkcpaa.E
open Go Go.RowKit

/-- What a step may do to the blocks that were there. -/
def Ext (W : List Nat) (H H' : AH) : Prop := H.length ≤ H'.length ∧ ∀ b, b < H.length → b ∉ W → H'[b]? = H[b]?
theorem Ext.refl (W : List Nat) (H : AH) : Ext W H H := ⟨Nat.le_refl _, fun _ _ _ => rfl⟩
theorem Ext.new {W : List Nat} (H : AH) (k : Blk) : Ext W H (H ++ [k]) := ⟨by simp, fun b hb _ => List.getElem?_append_left hb⟩
theorem Ext.set {W : List Nat} (H : AH) (b : Nat) (k : Blk) : Ext (b :: W) H (H.set b k) := ⟨by simp, fun b' hb hn => List.getElem?_set_ne (fun e => hn (by simp [e]))⟩

/-! ### calls -/
/-- A call of function f, as the machine has it, is what the world's call does, wherever its blocks lie. -/
def SemCall (P : Program) (f : FuncId) (args : List Value) (H : AH) (v : Value) (H' : AH) (W : List Nat) : Prop :=
  ((∀ (as : Array Value) (w : World), (callFunc f as).run P w = .ok (.enter f as) w) ∧ Ext W H H') ∧
  ∀ (N0 : Nat) (M : Mp) (w : World) (args' : Array Value), Pre N0 H none M w → VRs M args args'.toList →
    Calls P f args' w fun e w' => ∃ v' M', e = .returned v' ∧ VR M' v v' ∧ Post N0 H H' W M M' w w'

def Cal (P : Program) (f : FuncId) (args : List Value) (H : AH) (Q : Value → AH → List Nat → Prop) : Prop :=
  ∃ v H' W, SemCall P f args H v H' W ∧ Q v H' W

theorem SemCall.call {P : Program} {f : FuncId} {args : List Value} {H H' : AH} {v : Value} {W : List Nat} (h : SemCall P f args H v H' W) {Q : Value → AH → List Nat → Prop} (q : Q v H' W) : Cal P f args H Q := ⟨v, H', W, h, q⟩
theorem Cal.mono {P : Program} {f : FuncId} {args : List Value} {H : AH} {Q Q' : Value → AH → List Nat → Prop} (h : Cal P f args H Q) (q : ∀ v H' W, Q v H' W → Q' v H' W) : Cal P f args H Q' := by
  obtain ⟨v, H', W, h1, h2⟩ := h
  exact ⟨v, H', W, h1, q _ _ _ h2⟩

/-! ### one operation -/
def put (T : Env) (dst : Option Tmp) (v : Value) : Env :=
  match dst with
  | some d => upd T d v
  | none => T

def dok (sz : Nat) (dst : Option Tmp) : Bool :=
  match dst with
  | some d => decide (d < sz)
  | none => true

theorem put_act {M : Mp} {sz : Nat} {T : Env} {a : Act} (h : ActR M sz T a) {dst : Option Tmp} (hd : dok sz dst = true) {v v' : Value} (hv : VR M v v') : ActR M sz (put T dst v) (a.put dst v') := by
  cases dst with
  | none => exact h
  | some d =>
    simp only [dok, decide_eq_true_eq] at hd
    refine ⟨by simpa [Act.put] using h.1, h.2.1, fun t => ?_⟩
    simp only [put, Act.put, Array.getD_eq_getD_getElem?]
    by_cases ht : t = d
    · subst ht
      rw [upd_same, Array.getElem?_setIfInBounds_self_of_lt (by rw [h.1]; exact hd)]
      exact hv
    · rw [upd_ne _ _ _ _ ht, Array.getElem?_setIfInBounds_ne (Ne.symm ht)]
      have := h.2.2 t
      rwa [Array.getD_eq_getD_getElem?] at this

theorem ActR.mono {M M' : Mp} (h : MLe M M') {sz : Nat} {T : Env} {a : Act} (r : ActR M sz T a) : ActR M' sz T a := ⟨r.1, r.2.1, fun t => (r.2.2 t).mono h⟩

/-- The slots that an operation's operands name. -/
def opTmps (op : Op) : List Tmp := op.operands.toList.filterMap fun
  | .tmp t => some t
  | _ => none

/-- An operation, as the machine has it, is what the world does. -/
def OpSem (P : Program) (sz : Nat) (o : Oper) (T : Env) (H : AH) (v : Value) (H' : AH) (F : Foot) : Prop :=
  ∀ (N0 : Nat) (M : Mp) (a : Act) (w : World), a.tmps.size = sz → a.defers = [] → (∀ t ∈ opTmps o.op, VR M (T t) (a.tmps.getD t undef)) → Pre N0 H F.r M w →
    ∀ (next : Act → World → Prop) (Q : Exit → Act → World → Prop), (∀ v' M' w', VR M' v v' → Post N0 H H' F.w M M' w w' → next (a.put o.dst v') w') → o.wp P a w next Q

theorem evs_congr {T T' : Env} : ∀ {xs : List Operand}, (∀ x ∈ xs, ev T x = ev T' x) → evs T xs = evs T' xs
  | [], _ => rfl
  | x :: xs, h => by simp only [evs]; rw [h x (by simp), evs_congr (fun y hy => h y (by simp [hy]))]
theorem evp_congr {T T' : Env} : ∀ {xs : List (Nat × Operand)}, (∀ x ∈ xs, ev T x.2 = ev T' x.2) → evp T xs = evp T' xs
  | [], _ => rfl
  | (i, x) :: xs, h => by simp only [evp]; rw [h (i, x) (by simp), evp_congr (fun y hy => h y (by simp [hy]))]
theorem evo_congr {T T' : Env} : ∀ {x : Option Operand}, (∀ y ∈ x.toList, ev T y = ev T' y) → evo T x = evo T' x
  | none, _ => rfl
  | some x, h => by simp only [evo]; rw [h x (by simp)]

theorem astep_congr {P : Program} {T T' : Env} {H : AH} {op : Op} (h : ∀ x ∈ op.operands, ev T x = ev T' x) : astep P T H op = astep P T' H op := by
  cases op <;> simp only [astep]
  case move x => rw [h x (by simp [Op.operands])]
  case assign x => rw [h x (by simp [Op.operands])]
  case pick c a b => rw [h c (by simp [Op.operands]), h a (by simp [Op.operands]), h b (by simp [Op.operands])]
  case box e x => rw [h x (by simp [Op.operands])]
  case build t ps => rw [evp_congr (T' := T') (fun x hx => h x.2 (by simp only [Op.operands, List.mem_toArray, List.mem_map]; exact ⟨x, hx, rfl⟩))]
  case buildSlice t n ps => rw [evp_congr (T' := T') (fun x hx => h x.2 (by simp only [Op.operands, List.mem_toArray, List.mem_map]; exact ⟨x, hx, rfl⟩))]
  case load t x => rw [h x (by simp [Op.operands])]
  case store t x y => rw [h x (by simp [Op.operands]), h y (by simp [Op.operands])]
  case nilCheck x => rw [h x (by simp [Op.operands])]
  case binOp op t x y u => rw [h x (by simp [Op.operands]), h y (by simp [Op.operands])]
  case unOp op t x => rw [h x (by simp [Op.operands])]
  case convert s d x => rw [h x (by simp [Op.operands])]
  case makeFunc fn first captured =>
    rw [evs_congr (T' := T') (xs := first.toList) (fun x hx => h x (by simp only [Op.operands, Array.mem_append]; exact .inl (by simpa using hx))),
      evs_congr (T' := T') (xs := captured.toList) (fun x hx => h x (by simp only [Op.operands, Array.mem_append]; exact .inr (by simpa using hx)))]
  case makeSlice t l c => rw [h l (by simp [Op.operands]), h c (by simp [Op.operands])]
  case slice t x lo hi mx =>
    rw [h x (by simp [Op.operands]), evo_congr (T' := T') (x := lo) (fun y hy => h y (by simp [Op.operands]; simp at hy; simp [hy])), evo_congr (T' := T') (x := hi) (fun y hy => h y (by simp [Op.operands]; simp at hy; simp [hy])),
      evo_congr (T' := T') (x := mx) (fun y hy => h y (by simp [Op.operands]; simp at hy; simp [hy]))]
  case fieldAddr t x f => rw [h x (by simp [Op.operands])]
  case field t x f => rw [h x (by simp [Op.operands])]
  case indexAddr t x i => rw [h x (by simp [Op.operands]), h i (by simp [Op.operands])]
  case index t x i => rw [h x (by simp [Op.operands]), h i (by simp [Op.operands])]
  case extract x i => rw [h x (by simp [Op.operands])]
  case call c =>
    rw [evs_congr (T' := T') (xs := c.args.toList) (fun x hx => h x (by simp only [Op.operands, Call.operands, Array.mem_append]; exact .inr (by simpa using hx)))]

theorem opsem_step {P : Program} {sz : Nat} {o : Oper} {T : Env} {H H' : AH} {v : Value} {F : Foot} (h : astep P T H o.op = some (v, H', F)) : OpSem P sz o T H v H' F := by
  intro N0 M a w hsz hdf hT p next Q hk
  let T' : Env := fun t => if t ∈ opTmps o.op then T t else undef
  let a' : Act := { a with tmps := Array.ofFn (n := sz) fun t => if t.val ∈ opTmps o.op then a.tmps.getD t.val undef else undef }
  have hev : ∀ x ∈ o.op.operands, ev T x = ev T' x := fun x hx => by
    cases x with
    | tmp t =>
      have : t ∈ opTmps o.op := List.mem_filterMap.2 ⟨.tmp t, by simpa using hx, rfl⟩
      simp [ev, T', this]
    | _ => rfl
  have hae : ∀ x ∈ o.op.operands, a.eval x = a'.eval x := fun x hx => by
    cases x with
    | tmp t =>
      have hm : t ∈ opTmps o.op := List.mem_filterMap.2 ⟨.tmp t, by simpa using hx, rfl⟩
      simp only [Act.eval, a', Array.getD_eq_getD_getElem?]
      by_cases ht : t < sz
      · simp [ht, hm]
      · have ht' : sz ≤ (t : Nat) := Nat.le_of_not_lt ht
        rw [Array.getElem?_eq_none (xs := a.tmps) (by rw [hsz]; exact ht'), Array.getElem?_eq_none (by simp; exact ht')]
    | _ => rfl
  have hact : ActR M sz T' a' := by
    refine ⟨by simp [a'], hdf, fun t => ?_⟩
    simp only [a', T', Array.getD_eq_getD_getElem?]
    by_cases ht : t < sz
    · by_cases hm : t ∈ opTmps o.op
      · have := hT t hm
        rw [Array.getD_eq_getD_getElem?] at this
        simpa [ht, hm] using this
      · simp [ht, hm]; exact .undef
    · rw [Array.getElem?_eq_none (by simp; omega)]
      by_cases hm : t ∈ opTmps o.op
      · have := hT t hm
        rw [Array.getD_eq_getD_getElem?, Array.getElem?_eq_none (by omega)] at this
        simpa [hm] using this
      · simp [hm]; exact .undef
  rw [astep_congr hev] at h
  have hns : ∀ cs b, o.op ≠ .select cs b := fun cs b e => by rw [e] at h; cases h
  obtain ⟨v', w', M', h1, h2, h3⟩ := astep_ok hact h p
  unfold Oper.wp
  rw [execOp_congr o hns hae]
  rcases h1 with h1 | ⟨h1, rfl⟩
  · rw [h1, Oper.upon_value]; exact hk v' M' w' h2 h3
  · rw [h1, Oper.upon_skip]; exact hk undef M' w' h2 h3

theorem opsem_call {P : Program} {sz : Nat} {o : Oper} {T : Env} {H H' : AH} {v : Value} {W : List Nat} {f : Operand} {args : Array Operand} {ts : Array TypeId} {fid : FuncId} {xs zs : Array Value} {vs : List Value}
    (ho : o.op = .call ⟨.value f, args, ts⟩) (hf : ev T f = some (.func (.func fid) xs zs)) (hargs : evs T args.toList = some vs) (hs : SemCall P fid (xs.toList ++ vs ++ zs.toList) H v H' W) : OpSem P sz o T H v H' ⟨W, none⟩ := by
  intro N0 M a w hsz hdf hT p next Q hk
  have evr : ∀ x ∈ o.op.operands, ∀ u, ev T x = some u → VR M u (a.eval x) := fun x hx u hu => by
    cases x with
    | tmp t =>
      have hm : t ∈ opTmps o.op := List.mem_filterMap.2 ⟨.tmp t, by simpa using hx, rfl⟩
      simp only [ev, Option.some.injEq] at hu; subst hu
      exact hT t hm
    | const c =>
      simp only [ev] at hu
      split at hu
      · cases hu; exact plain_rel ‹_›
      · cases hu
    | global g => cases hu
    | func f =>
      simp only [ev, Option.some.injEq] at hu; subst hu
      exact .fn rfl (fun i h => by simp at h) rfl (fun i h => by simp at h)
  have hin : ∀ x, (x = f ∨ x ∈ args) → x ∈ o.op.operands := fun x hx => by
    rw [ho]
    simp only [Op.operands, Call.operands, Array.mem_append]
    rcases hx with rfl | hx
    · exact .inl (by simp)
    · exact .inr hx
  have hfv := evr f (hin f (.inl rfl)) _ hf
  obtain ⟨xs', zs', hfe, hx1, hx2, hz1, hz2⟩ : ∃ xs' zs', a.eval f = .func (.func fid) xs' zs' ∧ xs.size = xs'.size ∧ (∀ i (h1 : i < xs.size) (h2 : i < xs'.size), VR M xs[i] xs'[i]) ∧ zs.size = zs'.size ∧ (∀ i (h1 : i < zs.size) (h2 : i < zs'.size), VR M zs[i] zs'[i]) := by
    generalize a.eval f = q at hfv
    cases hfv with
    | fn h1 h2 h3 h4 => exact ⟨_, _, rfl, h1, h2, h3, h4⟩
  have hargs' : VRs M vs (args.toList.map a.eval) := by
    have : ∀ (l : List Operand), (∀ x ∈ l, x ∈ args) → ∀ us, evs T l = some us → VRs M us (l.map a.eval) := by
      intro l
      induction l with
      | nil => intro _ us e; cases e; exact VRs.nil
      | cons x l ih =>
        intro hl us e
        simp only [evs] at e
        split at e
        case h_2 => cases e
        rename_i u us' e1 e2
        cases e
        exact VRs.cons (evr x (hin x (.inr (hl x (by simp)))) _ e1) (ih (fun y hy => hl y (by simp [hy])) _ e2)
    exact this args.toList (fun x hx => by simpa using hx) vs hargs
  have arr : ∀ {l l' : Array Value}, l.size = l'.size → (∀ i (h1 : i < l.size) (h2 : i < l'.size), VR M l[i] l'[i]) → VRs M l.toList l'.toList := fun {l l'} e hh => by
    refine ⟨by simpa using e, fun i u u' h1 h2 => ?_⟩
    obtain ⟨i1, e1⟩ := List.getElem?_eq_some_iff.1 h1
    obtain ⟨i2, e2⟩ := List.getElem?_eq_some_iff.1 h2
    have q := hh i (by simpa using i1) (by simpa using i2)
    simp only [Array.getElem_toList] at e1 e2
    rw [← e1, ← e2]; exact q
  have hall : VRs M (xs.toList ++ vs ++ zs.toList) (xs' ++ args.map a.eval ++ zs').toList := by
    simp only [Array.toList_append, Array.toList_map]
    exact ((arr hx1 hx2).append hargs').append (arr hz1 hz2)
  have hexec : (execOp a.eval o).run P w = .ok (.enter fid (xs' ++ args.map a.eval ++ zs')) w := by
    obtain ⟨dst, op, type, pos, after, guard⟩ := o
    simp only at ho
    subst ho
    simp only [execOp, resolve, hfe, Deferred.ofValue, Sem.run_bind, Sem.run_pure, Result.andThen_ok, invoke]
    exact hs.1.1 _ _
  unfold Oper.wp
  rw [hexec, Oper.upon_enter]
  refine (hs.2 N0 M w _ p hall).mono (fun e w' ⟨v', M', he, h1, h2⟩ => ?_)
  subst he
  exact hk v' M' w' h1 h2

end Go.Proofs.Ythoclopeajkcpaa.E
