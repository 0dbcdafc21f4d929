/- Ways to use the machine. -/
import Derived.Test.YthoclopeajkcpaaEH
set_option linter.unusedVariables false
set_option linter.unusedSimpArgs false
namespace Go.Proofs.Ythoclopeajkcpaa.E
open Go Go.RowKit

theorem Cal.sem {P : Program} {f : FuncId} {args : List Value} {H H1 : AH} {v : Value} {W : List Nat} (h : Cal P f args H fun v' H' W' => v' = v ∧ H' = H1 ∧ W' = W) : SemCall P f args H v H1 W := by
  obtain ⟨_, _, _, h, rfl, rfl, rfl⟩ := h; exact h

/-- A call that leaves nothing behind that anything leads to. -/
theorem Cal.pure {P : Program} {f : FuncId} {args : List Value} {H : AH} {v : Value} (h : Cal P f args H fun v' _ W' => v' = v ∧ W' = []) (hv : renR H.length [] v = some v) : SemCall P f args H v H [] := by
  obtain ⟨_, H1, _, h, rfl, rfl⟩ := h
  exact h.ren [] hv (by simp) (by simp) (by simp) (fun b hb _ => (h.1.2.2 b hb (by simp)).symm) (by simp) (by simp)

/-- The same where old blocks are written. -/
theorem Cal.trim {P : Program} {f : FuncId} {args : List Value} {H H2 : AH} {v : Value} {W : List Nat} (h : Cal P f args H fun v' H' W' => v' = v ∧ W' = W ∧ ∃ G, H' = H2 ++ G) (hl : H2.length = H.length) (hv : renR H.length [] v = some v)
    (hw : ∀ b ∈ W, ∃ k, H2[b]? = some k ∧ renL H.length [] k.cells = some k.cells) : SemCall P f args H v H2 W := by
  obtain ⟨_, H1, _, h, rfl, rfl, G, rfl⟩ := h
  refine h.ren [] hv (by simp) (by simp) (by simp [hl]) (fun b hb _ => (List.getElem?_append_left (by omega)).symm) (fun b hb => ?_) (by simp)
  obtain ⟨k, h1, h2⟩ := hw b hb
  exact ⟨k, k, by rw [List.getElem?_append_left (by rw [hl]; have := (List.getElem?_eq_some_iff.1 h1).1; omega)]; exact h1, h1, ⟨h2, rfl⟩, rfl⟩

/-- A call whose result leads to one new block, which leads nowhere else that is new. -/
theorem Cal.flat {P : Program} {f : FuncId} {args : List Value} {H : AH} {v2 : Value} {cells : List Value}
    (h : Cal P f args H fun v H1 W => W = [] ∧ ∃ b g, H.length ≤ b ∧ H1[b]? = some ⟨cells, g, true⟩ ∧ renR H.length [(b, g)] v = some v2 ∧ renL H.length [(b, g)] cells = some cells) : SemCall P f args H v2 (H ++ [⟨cells, 0, true⟩]) [] := by
  obtain ⟨v, H1, _, h, rfl, b, g, hb, hk, hv, hc⟩ := h
  refine h.ren [(b, g)] hv (by simp) (fun b' g' hh => by simp at hh; omega) (by simp) (fun b' hb' _ => by rw [List.getElem?_append_left hb']; exact (h.1.2.2 b' hb' (by simp)).symm) (by simp) (fun j b' g' hj => ?_)
  cases j with
  | zero =>
    simp at hj
    obtain ⟨rfl, rfl⟩ := hj
    exact ⟨_, ⟨cells, 0, true⟩, hk, rfl, by simp, ⟨hc, rfl⟩, rfl⟩
  | succ j => simp at hj

/-- From the machine's word to the world's, where nothing is handed in but what leads nowhere. -/
theorem SemCall.world {P : Program} {f : FuncId} {args : List Value} {H' : AH} {W : List Nat} {b : Bool} (h : SemCall P f args [] (.bool b) H' W) (w : World) (args' : Array Value) (ha : VRs (fun _ _ => none) args args'.toList) :
    Calls P f args' w fun e w' => e = .returned (.bool b) ∧ Below w.heap.size w w' := by
  have p : Pre w.heap.size ([] : AH) none (fun _ _ => none) w := ⟨(fun h => by cases h), ⟨(fun h => by cases h), (fun h => by cases h), (fun h => by cases h), (fun h => by cases h)⟩, Nat.le_refl _, (fun _ h => by simp at h)⟩
  refine (h.2 w.heap.size _ w args' p ha).mono (fun e w' ⟨v', M', he, hr, q⟩ => ?_)
  have := hr.bool_inv
  subst this
  exact ⟨he, q.os, q.tape, q.output, q.size, fun k hk => q.frame k hk (fun b hb g o n hh => by cases hh)⟩

/-! ### what evaluation needs -/
theorem hget_app (H L : AH) (k : Nat) : (H ++ L)[H.length + k]? = L[k]? := by rw [List.getElem?_append_right (by omega)]; congr 1; omega
theorem hget_app0 (H L : AH) : (H ++ L)[H.length]? = L[0]? := by rw [List.getElem?_append_right (by omega)]; congr 1; omega
theorem hset_app (H L : AH) (k : Nat) (x : Blk) : (H ++ L).set (H.length + k) x = H ++ L.set k x := by
  rw [List.set_append_right _ _ (by omega)]; congr 2; omega
theorem hset_app0 (H L : AH) (x : Blk) : (H ++ L).set H.length x = H ++ L.set 0 x := by
  rw [List.set_append_right _ _ (by omega)]; congr 2; omega
theorem happ_app (H L : AH) (x : Blk) : (H ++ L) ++ [x] = H ++ (L ++ [x]) := List.append_assoc _ _ _
theorem lt_add (n k : Nat) : decide (n + k < n) = false := by simp
theorem lt_self (n : Nat) : decide (n < n) = false := by simp

theorem wseq_norm {B : WT} {Q : WPost} {T : Env} {H : AH} {D : List Nat} : WSeq B Q .norm T H D = B T H D Q := rfl
theorem wseq_ret {B : WT} {Q : WPost} {T : Env} {H : AH} {D : List Nat} : WSeq B Q .ret T H D = Q .ret T H D := rfl
theorem wseq_exit {B : WT} {Q : WPost} {T : Env} {H : AH} {D : List Nat} {i : Nat} : WSeq B Q (.exit i) T H D = Q (.exit i) T H D := rfl
theorem wblk_norm {id : Nat} {Q : WPost} {T : Env} {H : AH} {D : List Nat} : WBlk id Q .norm T H D = Q .norm T H D := rfl
theorem wblk_ret {id : Nat} {Q : WPost} {T : Env} {H : AH} {D : List Nat} : WBlk id Q .ret T H D = Q .ret T H D := rfl
theorem wblk_exit {id i : Nat} {Q : WPost} {T : Env} {H : AH} {D : List Nat} : WBlk id Q (.exit i) T H D = if i = id then Q .norm T H D else Q (.exit i) T H D := rfl

theorem upd_get (T : Env) (d t : Nat) (v : Value) : upd T d v t = if t = d then v else T t := rfl

/-- Where no call of a region writes, and nothing else that has no order does. -/
def statOk (ops : Array Oper) : Bool :=
  (List.range ops.size).all fun j => (List.range j).all fun i => ordered ops i j || match ops[i]?, ops[j]? with
    | some x, some y => let w (o : Oper) : Bool := match o.op with
        | .store .. => true
        | .call ⟨.builtin .append, _, _⟩ => true
        | _ => false
      !w x && !w y
    | _, _ => true

end Go.Proofs.Ythoclopeajkcpaa.E
