/- Each step of the machine that calls nothing is what the world does. -/
import Derived.Test.YthoclopeajkcpaaE9
set_option linter.unusedVariables false
set_option linter.unusedSimpArgs false
namespace Go.Proofs.Ythoclopeajkcpaa.E
open Go Go.RowKit

theorem inR_one {b : Nat} : inR (some [b]) b := by simp [inR]

theorem gives_lit {P : Program} {N0 : Nat} {H : AH} {R : Option (List Nat)} {M : Mp} {w : World} {sz : Nat} {T : Env} {a : Act} (ha : ActR M sz T a) (p : Pre N0 H R M w) {t : TypeId} {n s : Nat} {ps : Array (Nat × Operand)} {vs : List (Nat × Value)} {cs : List Value}
    (hvs : evp T ps.toList = some vs) (hb : abuildSlice P t n vs = some (cs, s)) :
    Gives N0 H (H ++ [⟨cs, 0, true⟩]) [] M w (sl H.length 0 0 n s) ((Instr.buildSlice t n (ps.map fun (i, x) => (i, a.eval x))).run P w) := by
  obtain ⟨l1, l2⟩ := evp_rel ha hvs
  have e : (ps.map fun (i, x) => (i, a.eval x)).toList = ps.toList.map fun (i, x) => (i, a.eval x) := by simp
  refine gives_buildSlice p ?_ ?_ hb
  · rw [e]; exact l1
  · rw [e]; exact l2

theorem run_agg {P : Program} {M : Mp} {sz : Nat} {T : Env} {a : Act} (ha : ActR M sz T a) {t : TypeId} {ps : Array (Nat × Operand)} {vs : List (Nat × Value)} {v : Value}
    (hvs : evp T ps.toList = some vs) (hb : abuild P t vs = some v) (w : World) :
    ∃ v', (Instr.build t (ps.map fun (i, x) => (i, a.eval x))).run P w = .ok v' w ∧ VR M v v' := by
  obtain ⟨l1, l2⟩ := evp_rel ha hvs
  have e : (ps.map fun (i, x) => (i, a.eval x)).toList = ps.toList.map fun (i, x) => (i, a.eval x) := by simp
  refine run_abuild ?_ ?_ hb w
  · rw [e]; exact l1
  · rw [e]; exact l2

set_option maxHeartbeats 1000000 in
theorem astep_ok {P : Program} {N0 : Nat} {H H' : AH} {F : Foot} {M : Mp} {w : World} {sz : Nat} {T : Env} {a : Act} (ha : ActR M sz T a) {o : Oper} {v : Value} (h : astep P T H o.op = some (v, H', F)) (p : Pre N0 H F.r M w) :
    Does P N0 H H' F.w M w v ((execOp a.eval o).run P w) := by
  obtain ⟨dst, op, type, pos, after, guard⟩ := o
  simp only at h
  unfold astep at h
  split at h
  · -- move
    rename_i x
    cases hx : ev T x with
    | none => rw [hx] at h; cases h
    | some u => rw [hx] at h; cases h; exact ⟨_, w, M, .inl rfl, ev_rel ha hx, Post.still p rfl rfl rfl rfl⟩
  · rename_i x
    cases hx : ev T x with
    | none => rw [hx] at h; cases h
    | some u => rw [hx] at h; cases h; exact ⟨_, w, M, .inl rfl, ev_rel ha hx, Post.still p rfl rfl rfl rfl⟩
  · -- pick
    rename_i c x y
    split at h
    case h_2 => cases h
    rename_i t u1 u2 h1 h2 h3
    cases h
    have hc := ev_rel ha h1
    have hb := hc.bool_inv
    refine ⟨if t then a.eval x else a.eval y, w, M, .inl ?_, ?_, Post.still p rfl rfl rfl rfl⟩
    · simp [execOp, hb, asBool]
    · cases t
      · simpa using ev_rel ha h3
      · simpa using ev_rel ha h2
  · -- alloc
    rename_i e
    cases hz : tzero P e with
    | none => rw [hz] at h; cases h
    | some z =>
      rw [hz] at h; cases h
      have q := gives_alloc p hz
      exact Does.of_gives (P := P) q
  · -- box
    rename_i e x
    split at h
    case h_2 => cases h
    rename_i u hu
    cases hc : cellsL u with
    | none => rw [hc] at h; cases h
    | some cs =>
      rw [hc] at h; cases h
      have q := gives_box (P := P) (e := e) p hc (ev_rel ha hu)
      exact Does.of_gives (P := P) q
  · -- build
    rename_i t ps
    split at h
    case h_2 => cases h
    rename_i vs hvs
    cases hb : abuild P t vs with
    | none => rw [hb] at h; cases h
    | some u =>
      rw [hb] at h; cases h
      obtain ⟨v', r1, r2⟩ := run_agg ha hvs hb w
      exact Does.of_run (s := Instr.build t (ps.map fun (i, x) => (i, a.eval x))) p r1 r2
  · -- buildSlice
    rename_i t n ps
    split at h
    case h_2 => cases h
    rename_i vs hvs
    cases hb : abuildSlice P t n vs with
    | none => rw [hb] at h; cases h
    | some u =>
      obtain ⟨cs, s⟩ := u
      rw [hb] at h; cases h
      have q := gives_lit ha p hvs hb
      exact Does.of_gives (P := P) q
  · -- load
    rename_i t x
    split at h
    case h_2 => cases h
    rename_i u hu
    cases hl : aload P H t u with
    | none => rw [hl] at h; cases h
    | some r =>
      obtain ⟨u', b⟩ := r
      rw [hl] at h; cases h
      obtain ⟨v', r1, r2⟩ := gives_load p (ev_rel ha hu) hl inR_one
      exact Does.of_run (s := Instr.loadAt t (a.eval x)) p r1 r2
  · -- store
    rename_i t x y
    split at h
    case h_2 => cases h
    rename_i u1 u2 h1 h2
    cases hs : astore P H t u1 u2 with
    | none => rw [hs] at h; cases h
    | some r =>
      obtain ⟨H1, b⟩ := r
      rw [hs] at h; cases h
      obtain ⟨w', r1, r2⟩ := gives_store p (ev_rel ha h1) (ev_rel ha h2) hs inR_one
      refine ⟨undef, w', M, .inr ⟨?_, rfl⟩, .undef, r2⟩
      simp [execOp, r1]
  · -- nilCheck
    rename_i x
    split at h
    · rename_i ad hx
      cases h
      have hv := ev_rel ha hx
      have : ∃ ad', a.eval x = .pointer (some ad') := by
        generalize a.eval x = q at hv
        cases hv; exact ⟨_, rfl⟩
      obtain ⟨ad', e⟩ := this
      refine ⟨a.eval x, w, M, .inl ?_, hv, Post.still p rfl rfl rfl rfl⟩
      simp [execOp, e]
    · rename_i f xs zs hx
      cases h
      have hv := ev_rel ha hx
      have : ∃ xs' zs', a.eval x = .func (.func f) xs' zs' := by
        generalize a.eval x = q at hv
        cases hv; exact ⟨_, _, rfl⟩
      obtain ⟨xs', zs', e⟩ := this
      refine ⟨a.eval x, w, M, .inl ?_, hv, Post.still p rfl rfl rfl rfl⟩
      simp [execOp, e]
    · cases h
  · -- binOp
    rename_i op t x y yt
    split at h
    case h_2 => cases h
    rename_i u1 u2 h1 h2
    cases hb : abin P op t u1 u2 with
    | none => rw [hb] at h; cases h
    | some r =>
      rw [hb] at h; cases h
      have q := abin_ok (P := P) (ev_rel ha h1) (ev_rel ha h2) hb x y w
      exact Does.of_run (s := (do eqGuard op t x y (a.eval x) (a.eval y); binOp op t (a.eval x) (a.eval y))) p q.1 q.2
  · -- unOp
    rename_i op t x
    split at h
    case h_2 => cases h
    rename_i u hu
    cases hb : aun op u with
    | none => rw [hb] at h; cases h
    | some r =>
      rw [hb] at h; cases h
      have q := aun_ok (P := P) (ev_rel ha hu) hb w
      exact Does.of_run (s := Op.unary op (a.eval x)) p q.1 q.2
  · -- convert
    rename_i s d x
    split at h
    case h_2 => cases h
    rename_i u hu
    cases hb : aconv P s d u with
    | none => rw [hb] at h; cases h
    | some r =>
      rw [hb] at h; cases h
      have q := aconv_ok (P := P) (ev_rel ha hu) hb w
      exact Does.of_run (s := convert s d (a.eval x)) p q.1 q.2
  · -- makeFunc
    rename_i fn first captured
    split at h
    case h_2 => cases h
    rename_i xs zs h1 h2
    cases h
    have q1 := evs_rel ha h1
    have q2 := evs_rel ha h2
    have arr : ∀ {l : List Value} {ar : Array Operand}, VRs M l (ar.toList.map a.eval) → l.toArray.size = (ar.map a.eval).size ∧ ∀ i (h1 : i < l.toArray.size) (h2 : i < (ar.map a.eval).size), VR M l.toArray[i] (ar.map a.eval)[i] := by
      intro l ar q
      refine ⟨by have := q.1; simpa using this, fun i g1 g2 => ?_⟩
      refine q.2 i _ _ ?_ ?_
      · simp at g1; simp [g1]
      · simp at g2; simp [g2]
    refine ⟨.func fn (first.map a.eval) (captured.map a.eval), w, M, .inl ?_, ?_, Post.still p rfl rfl rfl rfl⟩
    · simp [execOp, Instr.makeFunc]
    · exact .fn (arr q1).1 (arr q1).2 (arr q2).1 (arr q2).2
  · -- makeSlice
    rename_i t l c
    split at h
    case h_2 => cases h
    rename_i u1 u2 h1 h2
    cases hb : amake P t u1 u2 with
    | none => rw [hb] at h; cases h
    | some r =>
      obtain ⟨cs, s, n⟩ := r
      rw [hb] at h; cases h
      have q := gives_make p (ev_rel ha h1) (ev_rel ha h2) hb
      exact Does.of_gives (P := P) q
  · -- slice
    rename_i t x lo hi mx
    split at h
    case h_2 => cases h
    rename_i u l hh m h1 h2 h3 h4
    split at h
    · rename_i r hb
      cases h
      obtain ⟨v', r1, r2⟩ := run_aslice (P := P) (ev_rel ha h1) (evo_rel ha h2) (evo_rel ha h3) (evo_rel ha h4) hb w
      exact Does.of_run (s := Instr.sliceAt t (a.eval x) (lo.map a.eval) (hi.map a.eval) (mx.map a.eval)) p r1 r2
    · rename_i hb
      split at h
      case isFalse => cases h
      rename_i hm
      cases hp : aslicep P H t u l hh with
      | none => rw [hp] at h; cases h
      | some r =>
        obtain ⟨u', b⟩ := r
        rw [hp] at h; cases h
        obtain ⟨v', r1, r2⟩ := run_aslicep p (ev_rel ha h1) (evo_rel ha h2) (evo_rel ha h3) hp inR_one
        have hmx : mx.map a.eval = none := by
          have := evo_rel ha h4
          rcases this with ⟨_, e⟩ | ⟨_, _, e, _⟩
          · exact e
          · rw [e] at hm; cases hm
        refine Does.of_run (s := Instr.sliceAt t (a.eval x) (lo.map a.eval) (hi.map a.eval) (mx.map a.eval)) p ?_ r2
        rw [hmx]
        exact r1
  · -- fieldAddr
    rename_i t x f
    split at h
    case h_2 => cases h
    rename_i u hu
    cases hb : afield P t f u with
    | none => rw [hb] at h; cases h
    | some r =>
      rw [hb] at h; cases h
      obtain ⟨v', r1, r2⟩ := run_afield (P := P) (ev_rel ha hu) hb w
      exact Does.of_run (s := Instr.fieldAt t (a.eval x) f) p r1 r2
  · -- field
    rename_i t x f
    split at h
    case h_2 => cases h
    rename_i u hu
    cases hb : afieldv P t f u with
    | none => rw [hb] at h; cases h
    | some r =>
      rw [hb] at h; cases h
      obtain ⟨v', r1, r2⟩ := run_afieldv (P := P) (ev_rel ha hu) hb w
      exact Does.of_run (s := Instr.field t (a.eval x) f) p r1 r2
  · -- indexAddr
    rename_i t x i
    split at h
    case h_2 => cases h
    rename_i u1 u2 h1 h2
    cases hb : aindex P t u1 u2 with
    | none => rw [hb] at h; cases h
    | some r =>
      rw [hb] at h; cases h
      obtain ⟨v', r1, r2⟩ := run_aindex (P := P) (ev_rel ha h1) (ev_rel ha h2) hb w
      exact Does.of_run (s := Instr.indexAt t (a.eval x) (a.eval i)) p r1 r2
  · -- index
    rename_i t x i
    split at h
    case h_2 => cases h
    rename_i u1 u2 h1 h2
    cases hb : aindexv P t u1 u2 with
    | none => rw [hb] at h; cases h
    | some r =>
      rw [hb] at h; cases h
      obtain ⟨v', r1, r2⟩ := run_aindexv (P := P) (ev_rel ha h1) (ev_rel ha h2) hb w
      exact Does.of_run (s := Instr.index t (a.eval x) (a.eval i)) p r1 r2
  · -- extract
    rename_i x i
    split at h
    case h_2 => cases h
    rename_i vs hx
    cases hb : vs.toList[i]? with
    | none => rw [hb] at h; cases h
    | some r =>
      rw [hb] at h; cases h
      have hv := ev_rel ha hx
      have : ∃ ys, a.eval x = .tuple ys ∧ vs.size = ys.size ∧ ∀ i (h1 : i < vs.size) (h2 : i < ys.size), VR M vs[i] ys[i] := by
        generalize a.eval x = q at hv
        cases hv with
        | tup e hh => exact ⟨_, rfl, e, hh⟩
      obtain ⟨ys, e, e1, e2⟩ := this
      obtain ⟨hi, hr⟩ := List.getElem?_eq_some_iff.1 hb
      have hi1 : i < vs.size := by simpa using hi
      have hi2 : i < ys.size := by omega
      have q := e2 i hi1 hi2
      have hr' : vs[i] = v := by simpa using hr
      rw [hr'] at q
      refine ⟨ys[i], w, M, .inl ?_, q, Post.still p rfl rfl rfl rfl⟩
      simp [execOp, e, Instr.extract, hi2]
  · -- call
    rename_i c
    obtain ⟨callee, args, argTypes⟩ := c
    simp only at h
    split at h
    · split at h
      case h_2 => cases h
      rename_i t x h1 h2
      cases hb : alen P t x with
      | none => rw [hb] at h; cases h
      | some r =>
        rw [hb] at h; cases h
        have q := evs_rel ha h2
        have hargs : (args.map a.eval).toList = args.toList.map a.eval := by simp
        obtain ⟨y, hy⟩ : ∃ y, args.toList.map a.eval = [y] := by
          have := q.1
          simp only [List.length_cons, List.length_nil] at this
          exact List.length_eq_one_iff.1 this.symm
        rw [hy] at q hargs
        have hq := q.2 0 x y rfl rfl
        have e1 := list_one (l := []) h1
        have e2 := list_one (l := []) hargs
        subst e1
        have hrun := run_alen (P := P) (ty := type) hq hb w
        refine ⟨v, w, M, .inl ?_, ?_, Post.still p rfl rfl rfl rfl⟩
        · simp [execOp, resolve, invoke, builtin, e2, hrun]
        · unfold alen at hb
          split at hb
          · split at hb
            · cases hb; exact .int _ _
            · cases hb
          · split at hb
            · cases hb; exact .int _ _
            · cases hb
          · split at hb
            · cases hb; exact .int _ _
            · cases hb
          · cases hb
    · split at h
      case h_2 => cases h
      rename_i t t' x y h1 h2
      cases hb : aappend P H t t' x y with
      | none => rw [hb] at h; cases h
      | some r =>
        obtain ⟨u, H1, W, rs⟩ := r
        rw [hb] at h; cases h
        have q := evs_rel ha h2
        have hargs : (args.map a.eval).toList = args.toList.map a.eval := by simp
        obtain ⟨x', y', hy⟩ : ∃ x' y', args.toList.map a.eval = [x', y'] := by
          have := q.1
          simp only [List.length_cons, List.length_nil] at this
          match hm : args.toList.map a.eval, this with
          | [], h => simp at h
          | [_], h => simp at h
          | [x', y'], _ => exact ⟨x', y', rfl⟩
          | _ :: _ :: _ :: _, h => simp at h
        rw [hy] at q hargs
        have hq1 := q.2 0 x x' rfl rfl
        have hq2 := q.2 1 y y' rfl rfl
        have e1 := list_two h1
        have e2 := list_two hargs
        subst e1
        have := Does.of_gives (gives_append (P := P) (ty := type) p hq1 hq2 hb (fun b hb => hb))
        simpa [execOp, resolve, invoke, builtin, e2] using this
    · split at h
      case h_2 => cases h
      rename_i x r h2
      cases hb : amin false x r with
      | none => rw [hb] at h; cases h
      | some u =>
        rw [hb] at h; cases h
        have q := evs_rel ha h2
        have hargs : (args.map a.eval).toList = args.toList.map a.eval := by simp
        cases hy : args.toList.map a.eval with
        | nil => rw [hy] at q; have := q.1; simp at this
        | cons x' r' =>
          rw [hy] at q hargs
          have hq := q.2 0 x x' rfl rfl
          have hrun := amin_ok (P := P) hq (r' := r') ⟨by have := q.1; simpa using this, fun i v v' a b => q.2 (i + 1) v v' (by simpa using a) (by simpa using b)⟩ hb w
          refine ⟨v, w, M, .inl ?_, hrun.2, Post.still p rfl rfl rfl rfl⟩
          simp only [execOp, resolve, invoke, builtin, Builtin.min_, Sem.run_bind, Sem.run_pure, Result.andThen_ok]
          rw [hargs]
          simp only [hrun.1, Result.andThen_ok]
    · split at h
      case h_2 => cases h
      rename_i x r h2
      cases hb : amin true x r with
      | none => rw [hb] at h; cases h
      | some u =>
        rw [hb] at h; cases h
        have q := evs_rel ha h2
        have hargs : (args.map a.eval).toList = args.toList.map a.eval := by simp
        cases hy : args.toList.map a.eval with
        | nil => rw [hy] at q; have := q.1; simp at this
        | cons x' r' =>
          rw [hy] at q hargs
          have hq := q.2 0 x x' rfl rfl
          have hrun := amax_ok (P := P) hq (r' := r') ⟨by have := q.1; simpa using this, fun i v v' a b => q.2 (i + 1) v v' (by simpa using a) (by simpa using b)⟩ hb w
          refine ⟨v, w, M, .inl ?_, hrun.2, Post.still p rfl rfl rfl rfl⟩
          simp only [execOp, resolve, invoke, builtin, Builtin.max_, Sem.run_bind, Sem.run_pure, Result.andThen_ok]
          rw [hargs]
          simp only [hrun.1, Result.andThen_ok]
    · cases h
  · cases h

end Go.Proofs.Ythoclopeajkcpaa.E
