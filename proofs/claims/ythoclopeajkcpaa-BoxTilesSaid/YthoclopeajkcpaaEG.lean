/- Code: sequences, choices, blocks, loops, returns; and calls out of bodies. -/
import Derived.Test.YthoclopeajkcpaaEF
set_option linter.unusedVariables false
set_option linter.unusedSimpArgs false
namespace Go.Proofs.Ythoclopeajkcpaa.E
open Go Go.RowKit

inductive Out where
  | norm
  | ret
  | exit (id : Nat)

def Out.ex : Out → Exit
  | .norm => .normal
  | .ret => .ret
  | .exit id => .exit id

abbrev WPost := Out → Env → AH → List Nat → Prop
abbrev WT := Env → AH → List Nat → WPost → Prop

def WLoop (B : WT) : Nat → WT
  | 0, _, _, _, _ => False
  | n + 1, T, H, D, Q => B T H D fun o T' H' D' => match o with
    | .norm => WLoop B n T' H' D' Q
    | o => Q o T' H' D'

def WSeq (B : WT) (Q : WPost) : WPost := fun o T H D => match o with
  | .norm => B T H D Q
  | o => Q o T H D

def WBlk (id : Nat) (Q : WPost) : WPost := fun o T H D => match o with
  | .exit i => if i = id then Q .norm T H D else Q (.exit i) T H D
  | o => Q o T H D

def WCode (P : Program) (sz n0 : Nat) : Code → WT
  | .skip, T, H, D, Q => Q .norm T H D
  | .region _ ops false, T, H, D, Q => WOps P sz n0 ops ops.toList T H D [] fun T' H' D' _ => Q .norm T' H' D'
  | .region _ ops true, T, H, D, Q => regB ops = true ∧ WOps P sz n0 ops ops.toList T H D [] fun T' H' D' Fs => Compat ops Fs ∧ Q .norm T' H' D'
  | .seq a b, T, H, D, Q => WCode P sz n0 a T H D (WSeq (fun T H D Q => WCode P sz n0 b T H D Q) Q)
  | .cond c a b, T, H, D, Q => match ev T c with
    | some (.bool t) => (t = true → WCode P sz n0 a T H D Q) ∧ (t = false → WCode P sz n0 b T H D Q)
    | _ => False
  | .block id c, T, H, D, Q => WCode P sz n0 c T H D (WBlk id Q)
  | .loop c, T, H, D, Q => ∃ n, WLoop (fun T H D Q => WCode P sz n0 c T H D Q) n T H D Q
  | .exit id, T, H, D, Q => Q (.exit id) T H D
  | .ret, T, H, D, Q => Q .ret T H D
  | _, _, _, _, _ => False

theorem Ext.trans {W1 W2 : List Nat} {H H1 H2 : AH} (h : Ext W1 H H1) (k : Ext W2 H1 H2) : Ext (W1 ++ W2) H H2 :=
  ⟨Nat.le_trans h.1 k.1, fun b hb hn => by
    rw [k.2 b (Nat.lt_of_lt_of_le hb h.1) (fun hh => hn (List.mem_append_right _ hh)), h.2 b hb (fun hh => hn (List.mem_append_left _ hh))]⟩

def ExtD (n0 : Nat) (H : AH) (D : List Nat) (H' : AH) (D' : List Nat) : Prop := ∃ W, Ext W H H' ∧ D' = D ++ W.filter (fun b => decide (b < n0))
theorem ExtD.refl (n0 : Nat) (H : AH) (D : List Nat) : ExtD n0 H D H D := ⟨[], Ext.refl _ _, by simp⟩
theorem ExtD.trans {n0 : Nat} {H H1 H2 : AH} {D D1 D2 : List Nat} (h : ExtD n0 H D H1 D1) (k : ExtD n0 H1 D1 H2 D2) : ExtD n0 H D H2 D2 := by
  obtain ⟨W1, h1, h2⟩ := h
  obtain ⟨W2, k1, k2⟩ := k
  exact ⟨W1 ++ W2, h1.trans k1, by rw [k2, h2, List.filter_append, List.append_assoc]⟩

theorem Way.ext {P : Program} {sz : Nat} {ops : Array Oper} : ∀ {l : List Oper} {T T' : Env} {H H' : AH} {sts : List St}, Way P sz ops l T H sts T' H' → Ext (sts.flatMap fun s => s.F.w) H H' := by
  intro l T T' H H' sts h
  induction h with
  | nil T H => exact Ext.refl _ _
  | run hd hw hs he h ih => simpa using he.trans ih
  | skip hd hw h ih => simpa using ih

theorem Way.extD {P : Program} {sz : Nat} {ops : Array Oper} {l : List Oper} {T T' : Env} {H H' : AH} {sts : List St} (h : Way P sz ops l T H sts T' H') (n0 : Nat) (D : List Nat) : ExtD n0 H D H' (D ++ dirty n0 sts) :=
  ⟨_, h.ext, by unfold dirty; rw [List.filter_flatMap]⟩

/-- What a code comes to, in the world. -/
def SemCode (P : Program) (sz n0 : Nat) (c : Code) (T : Env) (H : AH) (D : List Nat) (o : Out) (T' : Env) (H' : AH) (D' : List Nat) : Prop :=
  ExtD n0 H D H' D' ∧ ∀ (x : Ctx), x.H0.length = n0 → Pre x.N0 x.H0 none x.M0 x.w0 → ∀ (a : Act) (w : World), StR x sz T H D a w → ∀ (Q : Exit → Act → World → Prop),
    (∀ a' w', StR x sz T' H' D' a' w' → Q o.ex a' w') → c.wp P Q a w

/-- From a loop's round on. -/
def LoopFrom (P : Program) (c : Code) (Q : Exit → Act → World → Prop) (a : Act) (w : World) : Prop :=
  ∀ (b : Frame) (k : List Item) (cs : List Frame), ∃ e a' w', Q e a' w' ∧ Arrives P (lone (b.at a (.code c :: .inLoop c :: k)) cs w) b k cs e a' w'

theorem wp_of_from {P : Program} {c : Code} {Q : Exit → Act → World → Prop} {a : Act} {w : World} (h : LoopFrom P c Q a w) : (Code.loop c).wp P Q a w :=
  fun b k cs => let ⟨e, a', w', q, r⟩ := h b k cs; ⟨e, a', w', q, .of_steps (.one step_loop) r⟩

theorem from_round {P : Program} {c : Code} {Q : Exit → Act → World → Prop} {a : Act} {w : World} (h : c.wp P (Exit.then (LoopFrom P c Q) Q) a w) : LoopFrom P c Q a w := by
  intro b k cs
  obtain ⟨e, a₁, w₁, hq, harr⟩ := h b (.inLoop c :: k) cs
  cases e with
  | normal =>
    obtain ⟨e₂, a₂, w₂, hq₂, harr₂⟩ := hq b k cs
    exact ⟨e₂, a₂, w₂, hq₂, .of_steps (Steps.trans harr (.one step_inLoop)) harr₂⟩
  | exit id => exact ⟨_, a₁, w₁, hq, .pass (x := .inLoop c) rfl (fun _ _ => .inl (by simp)) harr⟩
  | goto l => exact ⟨_, a₁, w₁, hq, .pass (x := .inLoop c) rfl (fun _ _ => .inl (by simp)) harr⟩
  | ret => exact ⟨_, a₁, w₁, hq, .pass (x := .inLoop c) rfl (fun _ _ => .inl (by simp)) harr⟩
  | panic ch => exact ⟨_, a₁, w₁, hq, .pass (x := .inLoop c) rfl (fun _ _ => .inl (by simp)) harr⟩
  | outgrown => exact ⟨_, a₁, w₁, hq, .pass (x := .inLoop c) rfl (fun _ _ => .inl (by simp)) harr⟩

section
variable {P : Program} (hm : P.follows .mixedOrders = true) {sz n0 : Nat}
include hm

theorem WCode.sem : ∀ (c : Code) {T : Env} {H : AH} {D : List Nat} {Q : WPost}, WCode P sz n0 c T H D Q → ∃ o T' H' D', Q o T' H' D' ∧ SemCode P sz n0 c T H D o T' H' D' := by
  intro c
  induction c with
  | skip => intro T H D Q h; exact ⟨.norm, T, H, D, h, ExtD.refl _ _ _, fun x _ _ a w hs Qc hq => wp_skip (hq a w hs)⟩
  | exit id => intro T H D Q h; exact ⟨.exit id, T, H, D, h, ExtD.refl _ _ _, fun x _ _ a w hs Qc hq => wp_exit (hq a w hs)⟩
  | ret => intro T H D Q h; exact ⟨.ret, T, H, D, h, ExtD.refl _ _ _, fun x _ _ a w hs Qc hq => wp_ret (hq a w hs)⟩
  | region id ops draw =>
    intro T H D Q h
    cases draw with
    | false =>
      simp only [WCode] at h
      obtain ⟨T', H', sts, h1, h2⟩ := WOps.way h
      refine ⟨.norm, T', H', _, h2, h1.extD n0 D, fun x hx pc a w hs Qc hq => wp_region_list (h1.seq pc hs (fun a' w' hs' => hq a' w' ?_))⟩
      rw [hx] at hs'; exact hs'
    | true =>
      simp only [WCode] at h
      obtain ⟨hr, h⟩ := h
      obtain ⟨T', H', sts, h1, h2, h3⟩ := WOps.way h
      refine ⟨.norm, T', H', _, h3, h1.extD n0 D, fun x hx pc a w hs Qc hq => h1.drawn hm pc hr (by simpa using h2) hs (fun a' w' hs' => hq a' w' ?_)⟩
      rw [hx] at hs'; exact hs'
  | seq a b iha ihb =>
    intro T H D Q h
    simp only [WCode] at h
    obtain ⟨o, T1, H1, D1, h1, e1, s1⟩ := iha h
    cases o with
    | norm =>
      obtain ⟨o, T2, H2, D2, h2, e2, s2⟩ := ihb h1
      refine ⟨o, T2, H2, D2, h2, e1.trans e2, fun x hx pc ac w hs Qc hq => wp_seq (s1 x hx pc ac w hs _ (fun a' w' hs' => ?_))⟩
      exact s2 x hx pc a' w' hs' Qc hq
    | ret => exact ⟨.ret, T1, H1, D1, h1, e1, fun x hx pc ac w hs Qc hq => wp_seq (s1 x hx pc ac w hs _ (fun a' w' hs' => hq a' w' hs'))⟩
    | exit id => exact ⟨.exit id, T1, H1, D1, h1, e1, fun x hx pc ac w hs Qc hq => wp_seq (s1 x hx pc ac w hs _ (fun a' w' hs' => hq a' w' hs'))⟩
  | cond c a b iha ihb =>
    intro T H D Q h
    simp only [WCode] at h
    split at h
    case h_2 => exact h.elim
    rename_i t hc
    cases t with
    | true =>
      obtain ⟨o, T1, H1, D1, h1, e1, s1⟩ := iha (h.1 rfl)
      refine ⟨o, T1, H1, D1, h1, e1, fun x hx pc ac w hs Qc hq => ?_⟩
      obtain ⟨M, _, _, ha⟩ := hs
      exact wp_cond_true (ev_rel ha hc).bool_inv (s1 x hx pc ac w ⟨M, ‹_›, ‹_›, ha⟩ Qc hq)
    | false =>
      obtain ⟨o, T1, H1, D1, h1, e1, s1⟩ := ihb (h.2 rfl)
      refine ⟨o, T1, H1, D1, h1, e1, fun x hx pc ac w hs Qc hq => ?_⟩
      obtain ⟨M, _, _, ha⟩ := hs
      exact wp_cond_false (ev_rel ha hc).bool_inv (s1 x hx pc ac w ⟨M, ‹_›, ‹_›, ha⟩ Qc hq)
  | block id c ih =>
    intro T H D Q h
    simp only [WCode] at h
    obtain ⟨o, T1, H1, D1, h1, e1, s1⟩ := ih h
    cases o with
    | norm => exact ⟨.norm, T1, H1, D1, h1, e1, fun x hx pc ac w hs Qc hq => wp_block (s1 x hx pc ac w hs _ (fun a' w' hs' => hq a' w' hs'))⟩
    | ret => exact ⟨.ret, T1, H1, D1, h1, e1, fun x hx pc ac w hs Qc hq => wp_block (s1 x hx pc ac w hs _ (fun a' w' hs' => hq a' w' hs'))⟩
    | exit i =>
      simp only [WBlk] at h1
      by_cases hi : i = id
      · rw [if_pos hi] at h1
        exact ⟨.norm, T1, H1, D1, h1, e1, fun x hx pc ac w hs Qc hq => wp_block (s1 x hx pc ac w hs _ (fun a' w' hs' => by
          simp only [Out.ex, Exit.inBlock]; rw [if_pos hi]; exact hq a' w' hs'))⟩
      · rw [if_neg hi] at h1
        exact ⟨.exit i, T1, H1, D1, h1, e1, fun x hx pc ac w hs Qc hq => wp_block (s1 x hx pc ac w hs _ (fun a' w' hs' => by
          simp only [Out.ex, Exit.inBlock]; rw [if_neg hi]; exact hq a' w' hs'))⟩
  | loop c ih =>
    intro T H D Q h
    simp only [WCode] at h
    obtain ⟨n, h⟩ := h
    have key : ∀ (n : Nat) {T : Env} {H : AH} {D : List Nat}, WLoop (fun T H D Q => WCode P sz n0 c T H D Q) n T H D Q → ∃ o T' H' D', Q o T' H' D' ∧ ExtD n0 H D H' D' ∧
        ∀ (x : Ctx), x.H0.length = n0 → Pre x.N0 x.H0 none x.M0 x.w0 → ∀ (a : Act) (w : World), StR x sz T H D a w → ∀ (Qc : Exit → Act → World → Prop), (∀ a' w', StR x sz T' H' D' a' w' → Qc o.ex a' w') → LoopFrom P c Qc a w := by
      intro n
      induction n with
      | zero => intro T H D h; exact h.elim
      | succ n ihn =>
        intro T H D h
        simp only [WLoop] at h
        obtain ⟨o, T1, H1, D1, h1, e1, s1⟩ := ih h
        cases o with
        | norm =>
          obtain ⟨o, T2, H2, D2, h2, e2, s2⟩ := ihn h1
          exact ⟨o, T2, H2, D2, h2, e1.trans e2, fun x hx pc ac w hs Qc hq => from_round (s1 x hx pc ac w hs _ (fun a' w' hs' => s2 x hx pc a' w' hs' Qc hq))⟩
        | ret => exact ⟨.ret, T1, H1, D1, h1, e1, fun x hx pc ac w hs Qc hq => from_round (s1 x hx pc ac w hs _ (fun a' w' hs' => hq a' w' hs'))⟩
        | exit i => exact ⟨.exit i, T1, H1, D1, h1, e1, fun x hx pc ac w hs Qc hq => from_round (s1 x hx pc ac w hs _ (fun a' w' hs' => hq a' w' hs'))⟩
    obtain ⟨o, T', H', D', h1, e1, s1⟩ := key n h
    exact ⟨o, T', H', D', h1, e1, fun x hx pc a w hs Qc hq => wp_of_from (s1 x hx pc a w hs Qc hq)⟩
  | _ => intro T H D Q h; exact h.elim
end

/-! ### results -/
def ares1 (P : Program) (T : Env) (H : AH) : ResultVar → Option Value
  | .tmp t => some (T t)
  | .cell a t => (aload P H t (T a)).map (·.1)

def aresL (P : Program) (T : Env) (H : AH) : List ResultVar → Option (List Value)
  | [] => some []
  | r :: rs => match ares1 P T H r, aresL P T H rs with
    | some v, some vs => some (v :: vs)
    | _, _ => none

def one1 : List Value → Value
  | [v] => v
  | vs => .tuple vs.toArray

def resF (tmps : Array Value) : ResultVar → Sem Value
  | .tmp t => pure (tmps.getD t undef)
  | .cell x t => do loadVar t (← asAddr (tmps.getD x undef))

theorem results_eq (fn : Func) (tmps : Array Value) : results fn tmps = (do
    let vs ← fn.results.mapM (resF tmps)
    pure (if h : vs.size = 1 then vs[0] else .tuple vs)) := by
  unfold results
  congr 1

theorem ares_run {P : Program} {N0 : Nat} {H : AH} {M : Mp} {w : World} (p : Pre N0 H none M w) {sz : Nat} {T : Env} {a : Act} (ha : ActR M sz T a) : ∀ {rs : List ResultVar} {vs : List Value}, aresL P T H rs = some vs →
    ∃ vs', (rs.mapM (resF a.tmps)).run P w = .ok vs' w ∧ VRs M vs vs'
  | [], vs, h => by cases h; exact ⟨[], rfl, VRs.nil⟩
  | r :: rs, vs, h => by
    simp only [aresL] at h
    split at h
    case h_2 => cases h
    rename_i v us h1 h2
    cases h
    obtain ⟨vs', g1, g2⟩ := ares_run p ha h2
    cases r with
    | tmp t =>
      simp only [ares1, Option.some.injEq] at h1; subst h1
      refine ⟨a.tmps.getD t undef :: vs', ?_, VRs.cons (ha.2.2 t) g2⟩
      simp only [List.mapM_cons, resF, Sem.run_bind, Sem.run_pure, Result.andThen_ok]
      rw [g1]; rfl
    | cell x t =>
      simp only [ares1] at h1
      cases hl : aload P H t (T x) with
      | none => rw [hl] at h1; cases h1
      | some r =>
        obtain ⟨u, b⟩ := r
        rw [hl] at h1; cases h1
        have hx := ha.2.2 x
        obtain ⟨v', q1, q2⟩ := gives_load p hx hl (trivial : inR none b)
        refine ⟨v' :: vs', ?_, VRs.cons q2 g2⟩
        have hptr : ∃ ad, a.tmps.getD x undef = .pointer (some ad) := by
          generalize a.tmps.getD x undef = y at hx
          generalize T x = z at hx hl
          unfold aload at hl
          split at hl
          · obtain ⟨c, o, n, _, e⟩ := hx.ptr_inv; exact ⟨_, e⟩
          · cases hl
        obtain ⟨ad, e⟩ := hptr
        rw [e, loadAt_ptr] at q1
        simp only [List.mapM_cons, resF, Sem.run_bind, e, asAddr, Sem.run_pure, Result.andThen_ok, q1]
        rw [g1]; rfl

def argEnv (args : List Value) : Env := fun t => args.getD t undef

/-- A call out of its body. -/

theorem Cal.of {P : Program} (hm : P.follows .mixedOrders = true) {f : FuncId} {fn : Func} {c : Code} {args : List Value} {H : AH} {K : Value → AH → List Nat → Prop}
    (hf : P.funcs[f]? = some fn) (hb : fn.body = some c) (hc : ∀ (as : Array Value) (w : World), (callFunc f as).run P w = .ok (.enter f as) w) (hsz : args.length ≤ fn.ntmps)
    (h : WCode P fn.ntmps H.length c (argEnv args) H [] fun o T' H' D' => (match o with | .exit _ => False | _ => True) ∧ match aresL P T' H' fn.results.toList with
      | some vs => K (one1 vs) H' D'
      | none => False) : Cal P f args H K := by
  obtain ⟨o, T', H', D', ⟨ho, hq⟩, he, hs⟩ := WCode.sem hm c h
  split at hq
  case h_2 => exact hq.elim
  rename_i vs hvs
  refine ⟨one1 vs, H', D', ⟨⟨hc, ?_⟩, fun N0 M w args' p hargs => ?_⟩, hq⟩
  · obtain ⟨W, h1, h2⟩ := he
    refine ⟨h1.1, fun b hb hn => h1.2 b hb (fun hw => hn ?_)⟩
    rw [h2]; simp only [List.nil_append]
    exact List.mem_filter.2 ⟨hw, by simpa using hb⟩
  · have hlen : args'.size = args.length := by rw [← Array.length_toList]; exact hargs.1.symm
    refine calls_of_wp hf hb (hs ⟨N0, H, M, w⟩ rfl p _ w ⟨M, p, Post.still p rfl rfl rfl rfl, by simp [hlen]; omega, rfl, fun t => ?_⟩ _ (fun a' w' hs' => ?_))
    · unfold argEnv
      rw [List.getD_eq_getElem?_getD, Array.getD_eq_getD_getElem?]
      by_cases ht : t < args.length
      · rw [List.getElem?_eq_getElem ht, Array.getElem?_append_left (by omega)]
        refine hargs.2 t _ _ (List.getElem?_eq_getElem ht) ?_
        rw [Array.getElem?_eq_getElem (by omega)]
        simp
      · rw [List.getElem?_eq_none (by omega), Array.getElem?_append_right (by omega), Array.getElem?_replicate]
        split <;> exact .undef
    · obtain ⟨M', p', q', ha'⟩ := hs'
      obtain ⟨vs', g1, g2⟩ := ares_run p' ha' hvs
      have hres : (results fn a'.tmps).run P w' = .ok (if h : vs'.toArray.size = 1 then vs'.toArray[0] else .tuple vs'.toArray) w' := by
        rw [results_eq, Array.mapM_eq_mapM_toList]
        simp only [Sem.run_bind, Sem.run_map, Sem.run_pure]
        rw [g1]
        rfl
      have hrel : VR M' (one1 vs) (if h : vs'.toArray.size = 1 then vs'.toArray[0] else .tuple vs'.toArray) := by
        have tup : ∀ {l l' : List Value}, VRs M' l l' → VR M' (.tuple l.toArray) (.tuple l'.toArray) := fun {l l'} r => by
          refine .tup (by simpa using r.1) (fun i h1 h2 => ?_)
          simp at h1 h2
          have := r.2 i l[i] l'[i] (List.getElem?_eq_getElem h1) (List.getElem?_eq_getElem h2)
          simpa using this
        match vs, vs', g2 with
        | [], [], _ => simp [one1]; exact .tup rfl (fun i h => by simp at h)
        | [v], [v'], g => simpa [one1] using g.2 0 v v' rfl rfl
        | v :: u :: r, v' :: u' :: r', g => simpa [one1] using tup g
        | [], _ :: _, g => exact absurd g.1 (by simp)
        | [_], [], g => exact absurd g.1 (by simp)
        | [_], _ :: _ :: _, g => exact absurd g.1 (by simp)
        | _ :: _ :: _, [], g => exact absurd g.1 (by simp)
        | _ :: _ :: _, [_], g => exact absurd g.1 (by simp)
      have post : bodyPost P fn (fun e w' => ∃ v' M', e = .returned v' ∧ VR M' (one1 vs) v' ∧ Post N0 H H' D' M M' w w') .normal a' w' := ⟨ha'.2.1, _, hres, _, M', rfl, hrel, q'⟩
      cases o with
      | norm => exact post
      | ret => exact post
      | exit id => exact ho.elim

end Go.Proofs.Ythoclopeajkcpaa.E
