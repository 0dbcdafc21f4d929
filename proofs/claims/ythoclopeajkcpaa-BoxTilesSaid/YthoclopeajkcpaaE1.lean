/- An abstract machine on lists of blocks, in which Go code is reckoned without a tape, without capacities and without orders: what its values and its blocks stand for in the world. No program is in sight here. -/
import Derived.Orders
import Derived.Below
import Derived.Laws.Cells
import Derived.Laws.StructEq
set_option linter.unusedVariables false
set_option linter.unusedSimpArgs false
namespace Go.Proofs.Ythoclopeajkcpaa.E
open Go Go.RowKit

/-- A block: what its cells hold, how often it has grown, whether it may be written. -/
structure Blk where
  cells : List Value
  gen : Nat
  rw : Bool

abbrev AH := List Blk
abbrev Env := Nat → Value
/-- Where a block (as it was after so many growths) lies in the world: block, first cell, how many cells the world's block has. -/
abbrev Mp := Nat → Nat → Option (Nat × Nat × Nat)

def upd (T : Env) (d : Nat) (v : Value) : Env := fun t => if t = d then v else T t
theorem upd_same (T : Env) (d : Nat) (v : Value) : upd T d v d = v := by simp [upd]
theorem upd_ne (T : Env) (d t : Nat) (v : Value) (h : t ≠ d) : upd T d v t = T t := by simp [upd, h]

abbrev ap (b off g : Nat) : Value := .pointer (some ⟨b, off, some g⟩)
abbrev sl (b off g len e : Nat) : Value := .slice (some ⟨b, off, some g⟩) len e

/-- May it lie in one cell? -/
def one : Value → Bool
  | .agg _ | .tuple _ => false
  | _ => true

/-- What a value of the machine stands for. -/
inductive VR (M : Mp) : Value → Value → Prop
  | bool (b : Bool) : VR M (.bool b) (.bool b)
  | int (k : IntKind) (n : Int) : VR M (.int k n) (.int k n)
  | str (s : ByteArray) : VR M (.string s) (.string s)
  | nilp : VR M (.pointer none) (.pointer none)
  | ptr {b off g c o n : Nat} (h : M b g = some (c, o, n)) : VR M (.pointer (some ⟨b, off, some g⟩)) (.pointer (some ⟨c, o + off, none⟩))
  | nils : VR M (.slice none 0 0) (.slice none 0 0)
  | zs {a' : Addr} {e : Nat} : VR M (.slice (some ⟨0, 0, none⟩) 0 e) (.slice (some a') 0 0)
  | ze {b off g e : Nat} {a' : Addr} {x : Nat × Nat × Nat} (h : M b g = some x) : VR M (.slice (some ⟨b, off, some g⟩) 0 e) (.slice (some a') 0 0)
  | sl {b off g c o n len e cap : Nat} (h : M b g = some (c, o, n)) (hl : len ≤ cap) (hc : o + off + cap * e ≤ n) :
      VR M (.slice (some ⟨b, off, some g⟩) len e) (.slice (some ⟨c, o + off, none⟩) len cap)
  | nilf : VR M .nilFunc .nilFunc
  | nili : VR M .nilIface .nilIface
  | fn {f : Fn} {xs ys zs ws : Array Value} (h : xs.size = ys.size) (hv : ∀ i (h1 : i < xs.size) (h2 : i < ys.size), VR M xs[i] ys[i])
      (h' : zs.size = ws.size) (hv' : ∀ i (h1 : i < zs.size) (h2 : i < ws.size), VR M zs[i] ws[i]) : VR M (.func f xs zs) (.func f ys ws)
  | agg {xs ys : Array Value} (h : xs.size = ys.size) (ho : ∀ i (h1 : i < xs.size), one xs[i] = true)
      (hv : ∀ i (h1 : i < xs.size) (h2 : i < ys.size), VR M xs[i] ys[i]) : VR M (.agg xs) (.agg ys)
  | tup {xs ys : Array Value} (h : xs.size = ys.size) (hv : ∀ i (h1 : i < xs.size) (h2 : i < ys.size), VR M xs[i] ys[i]) : VR M (.tuple xs) (.tuple ys)

def MLe (M M' : Mp) : Prop := ∀ b g x, M b g = some x → M' b g = some x
theorem MLe.refl (M : Mp) : MLe M M := fun _ _ _ h => h
theorem MLe.trans {M M' M'' : Mp} (h : MLe M M') (k : MLe M' M'') : MLe M M'' := fun b g x e => k b g x (h b g x e)

theorem VR.mono {M M' : Mp} (h : MLe M M') {v v' : Value} (r : VR M v v') : VR M' v v' := by
  induction r with
  | bool b => exact .bool b
  | int k n => exact .int k n
  | str s => exact .str s
  | nilp => exact .nilp
  | ptr e => exact .ptr (h _ _ _ e)
  | nils => exact .nils
  | zs => exact .zs
  | ze e => exact .ze (h _ _ _ e)
  | sl e a b => exact .sl (h _ _ _ e) a b
  | nilf => exact .nilf
  | nili => exact .nili
  | fn a _ b _ ih ih' => exact .fn a ih b ih'
  | agg a o _ ih => exact .agg a o ih
  | tup a _ ih => exact .tup a ih

theorem VR.undef {M : Mp} : VR M undef undef := .tup rfl (fun i h => by simp at h)

theorem VR.one_eq {M : Mp} {v v' : Value} (r : VR M v v') : one v' = one v := by cases r <;> rfl

theorem VR.int_inv {M : Mp} {k : IntKind} {n : Int} {v' : Value} (r : VR M (.int k n) v') : v' = .int k n := by cases r; rfl
theorem VR.bool_inv {M : Mp} {b : Bool} {v' : Value} (r : VR M (.bool b) v') : v' = .bool b := by cases r; rfl
theorem VR.str_inv {M : Mp} {s : ByteArray} {v' : Value} (r : VR M (.string s) v') : v' = .string s := by cases r; rfl
theorem VR.ptr_inv {M : Mp} {b off g : Nat} {v' : Value} (r : VR M (.pointer (some ⟨b, off, some g⟩)) v') : ∃ c o n, M b g = some (c, o, n) ∧ v' = .pointer (some ⟨c, o + off, none⟩) := by
  cases r with | ptr h => exact ⟨_, _, _, h, rfl⟩
theorem VR.agg_inv {M : Mp} {xs : Array Value} {v' : Value} (r : VR M (.agg xs) v') : ∃ ys, v' = .agg ys ∧ xs.size = ys.size ∧ (∀ i (h1 : i < xs.size), one xs[i] = true) ∧ ∀ i (h1 : i < xs.size) (h2 : i < ys.size), VR M xs[i] ys[i] := by
  cases r with | agg h o hv => exact ⟨_, rfl, h, o, hv⟩

/-- Two rows of values, place by place. -/
def VRs (M : Mp) (xs ys : List Value) : Prop := xs.length = ys.length ∧ ∀ (i : Nat) v v', xs[i]? = some v → ys[i]? = some v' → VR M v v'
/-- Two rows of cells. -/
def VCs (M : Mp) (xs ys : List Value) : Prop := VRs M xs ys ∧ ∀ v ∈ xs, one v = true

theorem VRs.nil {M : Mp} : VRs M [] [] := ⟨rfl, fun i v v' h => by simp at h⟩
theorem VRs.cons {M : Mp} {x y : Value} {xs ys : List Value} (h : VR M x y) (hs : VRs M xs ys) : VRs M (x :: xs) (y :: ys) :=
  ⟨by simp [hs.1], fun i v v' h1 h2 => by
    cases i with
    | zero => simp at h1 h2; subst h1; subst h2; exact h
    | succ i => simp at h1 h2; exact hs.2 i v v' h1 h2⟩
theorem VRs.mono {M M' : Mp} (h : MLe M M') {xs ys : List Value} (r : VRs M xs ys) : VRs M' xs ys := ⟨r.1, fun i v v' a b => (r.2 i v v' a b).mono h⟩
theorem VCs.mono {M M' : Mp} (h : MLe M M') {xs ys : List Value} (r : VCs M xs ys) : VCs M' xs ys := ⟨r.1.mono h, r.2⟩
theorem VRs.get {M : Mp} {xs ys : List Value} (r : VRs M xs ys) {i : Nat} {v : Value} (h : xs[i]? = some v) : ∃ v', ys[i]? = some v' ∧ VR M v v' := by
  have hi : i < xs.length := (List.getElem?_eq_some_iff.1 h).1
  have hj : i < ys.length := by have := r.1; omega
  exact ⟨ys[i], List.getElem?_eq_getElem hj, r.2 i v _ h (List.getElem?_eq_getElem hj)⟩
theorem VRs.append {M : Mp} {xs ys xs' ys' : List Value} (h : VRs M xs ys) (h' : VRs M xs' ys') : VRs M (xs ++ xs') (ys ++ ys') := by
  refine ⟨by simp [h.1, h'.1], fun i v v' a b => ?_⟩
  by_cases hi : i < xs.length
  · rw [List.getElem?_append_left hi] at a
    rw [List.getElem?_append_left (by have := h.1; omega)] at b
    exact h.2 i v v' a b
  · rw [List.getElem?_append_right (by omega)] at a
    rw [List.getElem?_append_right (by have := h.1; omega)] at b
    rw [h.1] at a
    exact h'.2 _ v v' a b
theorem VRs.take {M : Mp} {xs ys : List Value} (h : VRs M xs ys) (n : Nat) : VRs M (xs.take n) (ys.take n) := by
  refine ⟨by simp [h.1], fun i v v' a b => ?_⟩
  rw [List.getElem?_take] at a b
  split at a
  · rw [if_pos ‹_›] at b; exact h.2 i v v' a b
  · cases a
theorem VRs.drop {M : Mp} {xs ys : List Value} (h : VRs M xs ys) (n : Nat) : VRs M (xs.drop n) (ys.drop n) := by
  refine ⟨by simp [h.1], fun i v v' a b => ?_⟩
  rw [List.getElem?_drop] at a b
  exact h.2 _ v v' a b
theorem VCs.append {M : Mp} {xs ys xs' ys' : List Value} (h : VCs M xs ys) (h' : VCs M xs' ys') : VCs M (xs ++ xs') (ys ++ ys') :=
  ⟨h.1.append h'.1, fun v hv => by rcases List.mem_append.1 hv with k | k; exact h.2 v k; exact h'.2 v k⟩
theorem VCs.take {M : Mp} {xs ys : List Value} (h : VCs M xs ys) (n : Nat) : VCs M (xs.take n) (ys.take n) := ⟨h.1.take n, fun v hv => h.2 v (List.mem_of_mem_take hv)⟩
theorem VCs.drop {M : Mp} {xs ys : List Value} (h : VCs M xs ys) (n : Nat) : VCs M (xs.drop n) (ys.drop n) := ⟨h.1.drop n, fun v hv => h.2 v (List.mem_of_mem_drop hv)⟩

theorem VCs.agg {M : Mp} {xs ys : List Value} (h : VCs M xs ys) : VR M (.agg xs.toArray) (.agg ys.toArray) := by
  refine .agg (by simpa using h.1.1) (fun i hi => ?_) (fun i h1 h2 => ?_)
  · have hi' : i < xs.length := by simpa using hi
    have : xs.toArray[i] = xs[i] := by simp
    rw [this]; exact h.2 _ (List.getElem_mem hi')
  · have h1' : i < xs.length := by simpa using h1
    have h2' : i < ys.length := by simpa using h2
    have e1 : xs.toArray[i] = xs[i] := by simp
    have e2 : ys.toArray[i] = ys[i] := by simp
    rw [e1, e2]
    exact h.1.2 i _ _ (List.getElem?_eq_getElem h1') (List.getElem?_eq_getElem h2')

/-- The cells of a value, if it can lie in cells. -/
def cellsL : Value → Option (List Value)
  | .agg cs => some cs.toList
  | .tuple _ => none
  | v => some [v]

theorem cellsL_rel {M : Mp} {v v' : Value} {cs : List Value} (r : VR M v v') (h : cellsL v = some cs) : VCs M cs v'.cells.toList := by
  cases r <;> simp only [cellsL, Option.some.injEq, reduceCtorEq] at h <;> subst h <;> simp only [Value.cells]
  case agg xs ys a o hv =>
    refine ⟨⟨by simpa using a, fun i v v' h1 h2 => ?_⟩, fun v hv' => ?_⟩
    · obtain ⟨i1, e1⟩ := List.getElem?_eq_some_iff.1 h1
      obtain ⟨i2, e2⟩ := List.getElem?_eq_some_iff.1 h2
      have q := hv i (by simpa using i1) (by simpa using i2)
      simp only [Array.getElem_toList] at e1 e2
      rw [← e1, ← e2]; exact q
    · obtain ⟨i, i1, e1⟩ := List.getElem_of_mem hv'
      simp only [Array.getElem_toList] at e1
      rw [← e1]; exact o i (by simpa using i1)
  all_goals
    refine ⟨VRs.cons (by first | exact .bool _ | exact .int _ _ | exact .str _ | exact .nilp | exact .ptr ‹_› | exact .nils | exact .zs | exact .ze ‹_› | exact .sl ‹_› ‹_› ‹_› | exact .nilf | exact .nili | exact .fn ‹_› ‹_› ‹_› ‹_›) VRs.nil, fun v hv => ?_⟩
    simp at hv; subst hv; rfl

/-- What a block's cells stand for. -/
def CellR (M : Mp) (w : World) (c o : Nat) (cells : List Value) : Prop :=
  ∀ (i : Nat) v, cells[i]? = some v → one v = true ∧ ∃ v', w.cell? ⟨c, o + i, none⟩ = some v' ∧ VR M v v'

def Cont (N0 : Nat) (M : Mp) (w : World) (b : Nat) (k : Blk) : Prop :=
  ∃ c o n, M b k.gen = some (c, o, n) ∧ (∀ g, k.gen < g → M b g = none) ∧ CellR M w c o k.cells ∧ (k.rw = true → N0 ≤ c)

structure Hp (N0 : Nat) (M : Mp) (w : World) : Prop where
  lt : ∀ {b g c o n}, M b g = some (c, o, n) → c < w.heap.size
  own : ∀ {b g c o n}, M b g = some (c, o, n) → N0 ≤ c → (∃ cs e fr, w.heap[c]? = some (.cells cs e fr) ∧ n = cs.size) ∧ ∀ i, i < n → w.frozen? ⟨c, i, none⟩ = false
  inj : ∀ {b g c o n b' g' o' n'}, M b g = some (c, o, n) → M b' g' = some (c, o', n') → N0 ≤ c → b = b'
  hom : ∀ {b g c o n g' c' o' n'}, M b g = some (c, o, n) → M b g' = some (c', o', n') → N0 ≤ c → N0 ≤ c'

/-- What a step reads: these blocks, or any. -/
def inR : Option (List Nat) → Nat → Prop
  | none, _ => True
  | some l, b => b ∈ l

structure Pre (N0 : Nat) (H : AH) (R : Option (List Nat)) (M : Mp) (w : World) : Prop where
  dom : ∀ {b g x}, M b g = some x → b < H.length
  hp : Hp N0 M w
  low : N0 ≤ w.heap.size
  cont : ∀ {b k}, inR R b → H[b]? = some k → (∃ g x, M b g = some x) → Cont N0 M w b k

/-- From the blocks H to the blocks H', W of the old ones written. -/
structure Post (N0 : Nat) (H H' : AH) (W : List Nat) (M M' : Mp) (w w' : World) : Prop where
  le : H.length ≤ H'.length
  same : ∀ b, b < H.length → b ∉ W → H'[b]? = H[b]?
  ext : MLe M M'
  keep : ∀ b g, b < H.length → b ∉ W → M' b g = M b g
  dom : ∀ {b g x}, M' b g = some x → b < H'.length
  absent : ∀ b, b < H.length → (∀ g, M b g = none) → ∀ g, M' b g = none
  fresh : ∀ {b g c o n}, M' b g = some (c, o, n) → (w.heap.size ≤ c ∨ ∃ g', M b g' = some (c, o, n))
  frame : ∀ c, c < w.heap.size → (∀ b ∈ W, ∀ g o n, M b g ≠ some (c, o, n)) → w'.heap[c]? = w.heap[c]?
  wown : ∀ b, b ∈ W → (∃ g x, M b g = some x) ∧ ∀ g c o n, M b g = some (c, o, n) → N0 ≤ c
  hp : Hp N0 M' w'
  cont : ∀ {b k}, (b ∈ W ∨ H.length ≤ b) → H'[b]? = some k → (∃ g x, M' b g = some x) → Cont N0 M' w' b k
  size : w.heap.size ≤ w'.heap.size
  os : w'.os = w.os
  tape : w'.tape = w.tape
  output : w'.output = w.output

theorem CellR.keep {M M' : Mp} {w w' : World} {c o : Nat} {cs : List Value} (h : CellR M w c o cs) (hM : MLe M M') (hc : w'.heap[c]? = w.heap[c]?) : CellR M' w' c o cs := by
  intro i v hv
  obtain ⟨h1, v', h2, h3⟩ := h i v hv
  refine ⟨h1, v', ?_, h3.mono hM⟩
  rw [← h2]; exact World.cell?_of_block (w := w) (a := ⟨c, o + i, none⟩) hc

theorem frozen_keep {w w' : World} {c i : Nat} (hc : w'.heap[c]? = w.heap[c]?) : w'.frozen? ⟨c, i, none⟩ = w.frozen? ⟨c, i, none⟩ := World.frozen?_of_block (w := w) (a := ⟨c, i, none⟩) hc

/-- What stands of the whole behind a step of which only a part was looked at. -/
theorem Post.all {N0 : Nat} {H H' : AH} {W : List Nat} {M M' : Mp} {w w' : World} (p : Pre N0 H none M w) (q : Post N0 H H' W M M' w w') : Pre N0 H' none M' w' := by
  refine ⟨q.dom, q.hp, Nat.le_trans p.low q.size, fun {b k} _ hk hx => ?_⟩
  by_cases hb : b < H.length
  · by_cases hw : b ∈ W
    · exact q.cont (.inl hw) hk hx
    · obtain ⟨g, x, hx⟩ := hx
      rw [q.keep b g hb hw] at hx
      rw [q.same b hb hw] at hk
      obtain ⟨c, o, n, e1, e2, e3, e4⟩ := p.cont (b := b) trivial hk ⟨g, x, hx⟩
      have hc : w'.heap[c]? = w.heap[c]? := by
        refine q.frame c (p.hp.lt e1) (fun b' hb' g' o' n' e' => ?_)
        have := p.hp.inj e1 e' ((q.wown b' hb').2 _ _ _ _ e')
        exact hw (this ▸ hb')
      exact ⟨c, o, n, by rw [q.keep b _ hb hw]; exact e1, fun g' hg' => by rw [q.keep b g' hb hw]; exact e2 g' hg', e3.keep q.ext hc, e4⟩
  · exact q.cont (.inr (by omega)) hk hx

theorem Post.refl {N0 : Nat} {H : AH} {M : Mp} {w : World} (p : Pre N0 H none M w) : Post N0 H H [] M M w w where
  le := Nat.le_refl _
  same := fun _ _ _ => rfl
  ext := MLe.refl _
  keep := fun _ _ _ _ => rfl
  dom := p.dom
  absent := fun _ _ h => h
  fresh := fun h => .inr ⟨_, h⟩
  frame := fun _ _ _ => rfl
  wown := fun b h => by cases h
  hp := p.hp
  cont := fun {b k} h hk => by
    rcases h with h | h
    · cases h
    · rw [List.getElem?_eq_none h] at hk; cases hk
  size := Nat.le_refl _
  os := rfl
  tape := rfl
  output := rfl

/-- Two steps, one behind the other. What the second one wrote of what the first one made is no matter from outside. -/
theorem Post.trans {N0 : Nat} {H H1 H2 : AH} {W1 W2 : List Nat} {M M1 M2 : Mp} {w w1 w2 : World} (p : Post N0 H H1 W1 M M1 w w1) (q : Post N0 H1 H2 W2 M1 M2 w1 w2) (hp0 : Hp N0 M w) (pd : ∀ {b g x}, M b g = some x → b < H.length)
    (pall : Pre N0 H1 none M1 w1) : Post N0 H H2 (W1 ++ W2.filter (fun b => decide (b < H.length))) M M2 w w2 := by
  have sub : ∀ b, b < H.length → b ∉ W1 ++ W2.filter (fun b => decide (b < H.length)) → b ∉ W1 ∧ b ∉ W2 := fun b hb hn => by
    refine ⟨fun h => hn (List.mem_append_left _ h), fun h => hn (List.mem_append_right _ (List.mem_filter.2 ⟨h, by simpa using hb⟩))⟩
  have pres : ∀ b, b < H.length → (∃ g x, M1 b g = some x) → ∃ g x, M b g = some x := fun b hb ⟨g, x, h⟩ => by
    refine Classical.byContradiction fun hn => ?_
    have hall : ∀ g, M b g = none := fun g => by
      cases h' : M b g with
      | none => rfl
      | some x => exact absurd ⟨g, x, h'⟩ hn
    rw [p.absent b hb hall g] at h; cases h
  refine ⟨Nat.le_trans p.le q.le, fun b hb hn => ?_, p.ext.trans q.ext, fun b g hb hn => ?_, q.dom, fun b hb h g => ?_, fun h => ?_, fun c hc hW => ?_, fun b hb => ?_, q.hp, fun {b k} h hk hx => ?_, Nat.le_trans p.size q.size, q.os.trans p.os, q.tape.trans p.tape, q.output.trans p.output⟩
  · obtain ⟨h1, h2⟩ := sub b hb hn
    rw [q.same b (Nat.lt_of_lt_of_le hb p.le) h2, p.same b hb h1]
  · obtain ⟨h1, h2⟩ := sub b hb hn
    rw [q.keep b g (Nat.lt_of_lt_of_le hb p.le) h2, p.keep b g hb h1]
  · exact q.absent b (Nat.lt_of_lt_of_le hb p.le) (p.absent b hb h) g
  · rcases q.fresh h with h1 | ⟨g', h1⟩
    · exact .inl (Nat.le_trans p.size h1)
    · exact p.fresh h1
  · have f1 : w1.heap[c]? = w.heap[c]? := p.frame c hc (fun b hb g o n e => hW b (List.mem_append_left _ hb) g o n e)
    refine (q.frame c (Nat.lt_of_lt_of_le hc p.size) (fun b hb g o n e => ?_)).trans f1
    rcases p.fresh e with h1 | ⟨g', h1⟩
    · omega
    · exact hW b (List.mem_append_right _ (List.mem_filter.2 ⟨hb, by simpa using pd h1⟩)) g' o n h1
  · rcases List.mem_append.1 hb with h | h
    · exact p.wown b h
    · obtain ⟨h1, h2⟩ := List.mem_filter.1 h
      have hlt : b < H.length := by simpa using h2
      exact ⟨pres b hlt (q.wown b h1).1, fun g c o n e => (q.wown b h1).2 g c o n (p.ext _ _ _ e)⟩
  · exact (Post.all pall q).cont trivial hk hx

end Go.Proofs.Ythoclopeajkcpaa.E
