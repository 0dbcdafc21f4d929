/- Operations one behind the other: the machine's way through a region, and that the world goes it where the order is the text's. -/
import Derived.Test.YthoclopeajkcpaaEB
set_option linter.unusedVariables false
set_option linter.unusedSimpArgs false
namespace Go.Proofs.Ythoclopeajkcpaa.E
open Go Go.RowKit

/-- Is an operation to be done? -/
def awant (ops : Array Oper) (T : Env) (o : Oper) : Option Bool :=
  match o.guard with
  | none => some true
  | some (j, want) => match (ops[j]?).bind (·.dst) with
    | some t => match T t with
      | .bool b => some (b == want)
      | .tuple _ => some false
      | _ => none
    | none => none

def WRun (P : Program) (sz : Nat) (o : Oper) (T : Env) (H : AH) (K : Value → AH → Foot → Prop) : Prop :=
  match o.op with
  | .call ⟨.value f, args, _⟩ => match ev T f, evs T args.toList with
    | some (.func (.func fid) xs zs), some vs => Cal P fid (xs.toList ++ vs ++ zs.toList) H fun v H' W => K v H' ⟨W, none⟩
    | _, _ => False
  | op => match astep P T H op with
    | some (v, H', F) => K v H' F
    | none => False

def WOps (P : Program) (sz n0 : Nat) (ops : Array Oper) : List Oper → Env → AH → List Nat → List Foot → (Env → AH → List Nat → List Foot → Prop) → Prop
  | [], T, H, D, Fs, K => K T H D Fs
  | o :: rest, T, H, D, Fs, K => dok sz o.dst = true ∧
    match awant ops T o with
    | some g => (g = true → WRun P sz o T H fun v H' F => WOps P sz n0 ops rest (put T o.dst v) H' (D ++ F.w.filter (fun b => decide (b < n0))) (Fs ++ [F]) K) ∧
        (g = false → WOps P sz n0 ops rest (put T o.dst undef) H D (Fs ++ [⟨[], some []⟩]) K)
    | none => False

theorem astep_ext {P : Program} {T : Env} {H H' : AH} {op : Op} {v : Value} {F : Foot} (h : astep P T H op = some (v, H', F)) : Ext F.w H H' := by
  unfold astep at h
  split at h
  case h_4 e => cases hz : tzero P e <;> rw [hz] at h <;> cases h; exact Ext.new _ _
  case h_5 x =>
    split at h
    case h_2 => cases h
    rename_i u _
    cases hz : cellsL u <;> rw [hz] at h <;> cases h; exact Ext.new _ _
  case h_7 t n ps =>
    split at h
    case h_2 => cases h
    rename_i vs _
    cases hz : abuildSlice P t n vs <;> rw [hz] at h <;> cases h; exact Ext.new _ _
  case h_8 t x =>
    split at h
    case h_2 => cases h
    rename_i u _
    cases hz : aload P H t u <;> rw [hz] at h <;> cases h; exact Ext.refl _ _
  case h_9 t x y =>
    split at h
    case h_2 => cases h
    rename_i u1 u2 _ _
    cases hz : astore P H t u1 u2 with
    | none => rw [hz] at h; cases h
    | some r =>
      obtain ⟨H1, b⟩ := r
      rw [hz] at h; cases h
      unfold astore at hz
      split at hz
      case h_2 => cases hz
      split at hz
      case h_2 => cases hz
      split at hz
      case isFalse => cases hz
      cases hz
      exact Ext.set _ _ _
  case h_15 t l c =>
    split at h
    case h_2 => cases h
    rename_i u1 u2 _ _
    cases hz : amake P t u1 u2 <;> rw [hz] at h <;> cases h; exact Ext.new _ _
  case h_22 c =>
    split at h
    case h_2 =>
      split at h
      case h_2 => cases h
      rename_i t t' x y _ _
      cases hz : aappend P H t t' x y with
      | none => rw [hz] at h; cases h
      | some r =>
        obtain ⟨u, H1, W, rs⟩ := r
        rw [hz] at h; cases h
        unfold aappend at hz
        split at hz
        case h_2 => cases hz
        split at hz
        case h_2 => cases hz
        split at hz
        case h_2 => cases hz
        split at hz
        case isFalse => cases hz
        split at hz
        · split at hz
          · cases hz; exact Ext.refl _ _
          · split at hz <;> cases hz; exact Ext.new _ _
        · split at hz
          · cases hz; exact Ext.refl _ _
          · split at hz <;> cases hz; exact Ext.new _ _
        · split at hz
          case h_2 => cases hz
          split at hz
          case isFalse => cases hz
          split at hz
          · cases hz; exact Ext.refl _ _
          · split at hz <;> cases hz; exact Ext.set _ _ _
        · cases hz
    all_goals (first | (cases h; done) | (cases h; exact Ext.refl _ _) | (obtain ⟨_, _, e⟩ := Option.map_eq_some_iff.1 h; cases e; exact Ext.refl _ _) | (split at h <;> (first | (cases h; done) | (cases h; exact Ext.refl _ _) | (obtain ⟨_, _, e⟩ := Option.map_eq_some_iff.1 h; cases e; exact Ext.refl _ _) | (split at h <;> (first | (cases h; done) | (cases h; exact Ext.refl _ _) | (obtain ⟨_, _, e⟩ := Option.map_eq_some_iff.1 h; cases e; exact Ext.refl _ _) | (split at h <;> (first | (cases h; done) | (cases h; exact Ext.refl _ _) | (obtain ⟨_, _, e⟩ := Option.map_eq_some_iff.1 h; cases e; exact Ext.refl _ _))))))))
  all_goals (first | (cases h; done) | (cases h; exact Ext.refl _ _) | (obtain ⟨_, _, e⟩ := Option.map_eq_some_iff.1 h; cases e; exact Ext.refl _ _) | (split at h <;> (first | (cases h; done) | (cases h; exact Ext.refl _ _) | (obtain ⟨_, _, e⟩ := Option.map_eq_some_iff.1 h; cases e; exact Ext.refl _ _) | (split at h <;> (first | (cases h; done) | (cases h; exact Ext.refl _ _) | (obtain ⟨_, _, e⟩ := Option.map_eq_some_iff.1 h; cases e; exact Ext.refl _ _) | (split at h <;> (first | (cases h; done) | (cases h; exact Ext.refl _ _) | (obtain ⟨_, _, e⟩ := Option.map_eq_some_iff.1 h; cases e; exact Ext.refl _ _))))))))

/-- A step of the way: what it gives, what it leaves, what it writes and reads. -/
structure St where
  T : Env
  H : AH
  v : Value
  F : Foot

/-- A way through operations: each is done, or not to be done. The way's list has, for each, what stood ahead of it. -/
inductive Way (P : Program) (sz : Nat) (ops : Array Oper) : List Oper → Env → AH → List St → Env → AH → Prop
  | nil (T : Env) (H : AH) : Way P sz ops [] T H [] T H
  | run {o : Oper} {rest : List Oper} {T T' : Env} {H H1 H' : AH} {v : Value} {F : Foot} {l : List St} (hd : dok sz o.dst = true) (hw : awant ops T o = some true) (hs : OpSem P sz o T H v H1 F) (he : Ext F.w H H1)
      (h : Way P sz ops rest (put T o.dst v) H1 l T' H') : Way P sz ops (o :: rest) T H (⟨T, H, v, F⟩ :: l) T' H'
  | skip {o : Oper} {rest : List Oper} {T T' : Env} {H H' : AH} {l : List St} (hd : dok sz o.dst = true) (hw : awant ops T o = some false)
      (h : Way P sz ops rest (put T o.dst undef) H l T' H') : Way P sz ops (o :: rest) T H (⟨T, H, undef, ⟨[], some []⟩⟩ :: l) T' H'

def dirty (n0 : Nat) (l : List St) : List Nat := l.flatMap fun s => s.F.w.filter (fun b => decide (b < n0))

theorem WRun.sem {P : Program} {sz : Nat} {o : Oper} {T : Env} {H : AH} {K : Value → AH → Foot → Prop} (h : WRun P sz o T H K) : ∃ v H' F, OpSem P sz o T H v H' F ∧ Ext F.w H H' ∧ K v H' F := by
  unfold WRun at h
  split at h
  · rename_i f args ts ho
    split at h
    case h_2 => exact h.elim
    rename_i fid xs zs vs hf hargs
    obtain ⟨v, H', W, h1, h2⟩ := h
    exact ⟨v, H', ⟨W, none⟩, opsem_call ho hf hargs h1, h1.1.2, h2⟩
  · split at h
    case h_2 => exact h.elim
    rename_i v H' F hs
    exact ⟨v, H', F, opsem_step hs, astep_ext hs, h⟩

theorem WOps.way {P : Program} {sz n0 : Nat} {ops : Array Oper} : ∀ {l : List Oper} {T : Env} {H : AH} {D : List Nat} {Fs : List Foot} {K : Env → AH → List Nat → List Foot → Prop}, WOps P sz n0 ops l T H D Fs K →
    ∃ T' H' sts, Way P sz ops l T H sts T' H' ∧ K T' H' (D ++ dirty n0 sts) (Fs ++ sts.map (·.F))
  | [], T, H, D, Fs, K, h => ⟨T, H, [], .nil T H, by simpa [dirty, WOps] using h⟩
  | o :: rest, T, H, D, Fs, K, h => by
    obtain ⟨hd, h⟩ := h
    split at h
    case h_2 => exact h.elim
    rename_i g hg
    cases g with
    | true =>
      obtain ⟨v, H1, F, h1, he, h2⟩ := (h.1 rfl).sem
      obtain ⟨T', H', sts, h3, h4⟩ := WOps.way h2
      exact ⟨T', H', _, .run hd hg h1 he h3, by simpa [dirty, List.append_assoc] using h4⟩
    | false =>
      obtain ⟨T', H', sts, h3, h4⟩ := WOps.way (h.2 rfl)
      exact ⟨T', H', _, .skip hd hg h3, by simpa [dirty, List.append_assoc] using h4⟩

/-- How the world stands to the machine, from where the function began. -/
structure Ctx where
  N0 : Nat
  H0 : AH
  M0 : Mp
  w0 : World

def StR (c : Ctx) (sz : Nat) (T : Env) (H : AH) (D : List Nat) (a : Act) (w : World) : Prop :=
  ∃ M, Pre c.N0 H none M w ∧ Post c.N0 c.H0 H D c.M0 M c.w0 w ∧ ActR M sz T a

theorem wanted_rel {M : Mp} {sz : Nat} {T : Env} {a : Act} {ops : Array Oper} {o : Oper} {g : Bool} (hsz : a.tmps.size = sz) (h : ∀ j w t, o.guard = some (j, w) → (ops[j]?).bind (·.dst) = some t → VR M (T t) (a.tmps.getD t undef)) (hw : awant ops T o = some g) : Region.wanted o (yielded ops a.tmps) = g := by
  unfold awant at hw
  unfold Region.wanted
  split at hw
  · rename_i hg
    cases hw
    rw [hg]
  · rename_i j want hg
    rw [hg]
    split at hw
    case h_2 => cases hw
    rename_i t ht
    have hr := h j want t hg ht
    simp only [yielded, ht, Option.bind_some]
    split at hw
    · rename_i b hb
      cases hw
      rw [hb] at hr
      have e := hr.bool_inv
      rw [Array.getD_eq_getD_getElem?] at e
      cases hx : a.tmps[t]? with
      | none => rw [hx] at e; simp [undef] at e
      | some u =>
        rw [hx] at e
        simp only [Option.getD_some] at e
        subst e
        simp only []
        cases b <;> cases want <;> rfl
    · rename_i xs hb
      cases hw
      rw [hb] at hr
      rw [Array.getD_eq_getD_getElem?] at hr
      cases hx : a.tmps[t]? with
      | none => simp
      | some u =>
        rw [hx] at hr
        simp only [Option.getD_some] at hr
        cases hr
        simp
    · cases hw

/-- Where the order is the text's. -/
theorem Way.seq {P : Program} {sz : Nat} {ops : Array Oper} {c : Ctx} (pc : Pre c.N0 c.H0 none c.M0 c.w0) {Q : Exit → Act → World → Prop} : ∀ {l : List Oper} {T T' : Env} {H H' : AH} {sts : List St}, Way P sz ops l T H sts T' H' → ∀ {D : List Nat} {a : Act} {w : World}, StR c sz T H D a w →
    (∀ a' w', StR c sz T' H' (D ++ dirty c.H0.length sts) a' w' → Q .normal a' w') → wpList P ops Q l a w := by
  intro l T T' H H' sts h
  induction h with
  | nil T H =>
    intro D a w hs hq
    exact hq a w (by simpa [dirty] using hs)
  | @run o rest T T' H H1 H' v F l hd hw hsem hext hrest ih =>
    intro D a w hs hq
    obtain ⟨M, p, q, ha⟩ := hs
    have hwant := wanted_rel (ops := ops) (o := o) ha.1 (fun j w t _ _ => ha.2.2 t) hw
    simp only [wpList]
    rw [if_pos hwant]
    refine .inl (hsem c.N0 M a w ha.1 ha.2.1 (fun t _ => ha.2.2 t) ⟨p.dom, p.hp, p.low, fun _ h1 h2 => p.cont trivial h1 h2⟩ _ _ (fun v' M' w' hv hp => ?_))
    refine ih (D := D ++ F.w.filter (fun b => decide (b < c.H0.length))) ⟨M', Post.all p hp, q.trans hp pc.hp pc.dom p, put_act (ha.mono hp.ext) hd hv⟩ (fun a' w' hs' => hq a' w' ?_)
    simpa [dirty, List.append_assoc] using hs'
  | @skip o rest T T' H H' l hd hw hrest ih =>
    intro D a w hs hq
    obtain ⟨M, p, q, ha⟩ := hs
    have hwant := wanted_rel (ops := ops) (o := o) ha.1 (fun j w t _ _ => ha.2.2 t) hw
    simp only [wpList]
    rw [if_neg (by rw [hwant]; simp)]
    refine ih (D := D) ⟨M, p, q, put_act ha hd .undef⟩ (fun a' w' hs' => hq a' w' ?_)
    simpa [dirty] using hs'

end Go.Proofs.Ythoclopeajkcpaa.E
