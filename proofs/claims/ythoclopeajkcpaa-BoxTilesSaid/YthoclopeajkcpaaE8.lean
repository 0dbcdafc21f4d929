/- The machine's operators: equality of values, cell by cell. -/
import Derived.Test.YthoclopeajkcpaaE7
import Derived.Laws.BitsLemmas
import Derived.ChangeKeysEq
set_option linter.unusedVariables false
set_option linter.unusedSimpArgs false
namespace Go.Proofs.Ythoclopeajkcpaa.E
open Go Go.RowKit

/-- What a cell holds: a number, a truth, a text. -/
inductive Lf where
  | i | b | s

def eq1 : Lf → Value → Value → Option Bool
  | .i, .int k a, .int k' b => if k = k' then some (a == b) else none
  | .b, .bool a, .bool b => some (a == b)
  | .s, .string a, .string b => some (a.toList == b.toList)
  | _, _, _ => none

def eqc : List Lf → List Value → List Value → Option Bool
  | [], [], [] => some true
  | l :: ls, x :: xs, y :: ys => match eq1 l x y, eqc ls xs ys with
    | some b, some c => some (b && c)
    | _, _ => none
  | _, _, _ => none

theorem eqc_len : ∀ {ks : List Lf} {xs ys : List Value} {b : Bool}, eqc ks xs ys = some b → xs.length = ks.length ∧ ys.length = ks.length
  | [], [], [], _, _ => ⟨rfl, rfl⟩
  | [], [], _ :: _, _, h => by cases h
  | [], _ :: _, [], _, h => by cases h
  | [], _ :: _, _ :: _, _, h => by cases h
  | _ :: _, [], [], _, h => by cases h
  | _ :: _, [], _ :: _, _, h => by cases h
  | _ :: _, _ :: _, [], _, h => by cases h
  | l :: ls, x :: xs, y :: ys, b, h => by
    simp only [eqc] at h
    split at h
    case h_2 => cases h
    rename_i h1 h2
    obtain ⟨e1, e2⟩ := eqc_len h2
    exact ⟨by simp [e1], by simp [e2]⟩

theorem eqc_split : ∀ {ks ls : List Lf} {xs ys : List Value} {b : Bool}, eqc (ks ++ ls) xs ys = some b → ∃ b1 b2, eqc ks (xs.take ks.length) (ys.take ks.length) = some b1 ∧ eqc ls (xs.drop ks.length) (ys.drop ks.length) = some b2 ∧ b = (b1 && b2)
  | [], ls, xs, ys, b, h => ⟨true, b, rfl, by simpa using h, by simp⟩
  | k :: ks, ls, [], ys, b, h => by cases ys <;> cases h
  | k :: ks, ls, _ :: _, [], b, h => by cases h
  | k :: ks, ls, x :: xs, y :: ys, b, h => by
    simp only [List.cons_append, eqc] at h
    split at h
    case h_2 => cases h
    rename_i c1 c2 h1 h2
    cases h
    obtain ⟨b1, b2, g1, g2, rfl⟩ := eqc_split h2
    exact ⟨c1 && b1, b2, by simp [eqc, h1, g1], by simpa using g2, by simp [Bool.and_assoc]⟩

def flatF (rec : TypeId → Option (List Lf)) : Nat → List Field → Option (List Lf)
  | _, [] => some []
  | s0, f :: fs =>
    match rec f.type with
    | some l => if f.name ≠ "_" ∧ f.offset = s0 ∧ 0 < l.length then (flatF rec (s0 + l.length) fs).map (l ++ ·) else none
    | none => none

/-- Types whose values are rows of numbers, truths and texts. -/
def flatTy (P : Program) : Nat → TypeId → Option (List Lf)
  | 0, _ => none
  | d + 1, t =>
    match P.underlying t with
    | some (.int _) => some [.i]
    | some .bool => some [.b]
    | some .string => some [.s]
    | some (.struct fs) => if P.stoodInHeld t = false then (match flatF (flatTy P d) 0 fs.toList with
        | some l => if tsz P t = some l.length then some l else none
        | none => none) else none
    | some (.array n e) => match flatTy P d e with
      | some l => if tsz P e = some l.length ∧ tsz P t = some (n * l.length) ∧ 0 < l.length then some (List.replicate n l).flatten else none
      | none => none
    | _ => none

def PartForm (P : Program) (t : TypeId) (cs : List Value) (x : Value) : Prop := (tagg P t = some true ∧ x = .agg cs.toArray) ∨ (tagg P t = some false ∧ cs = [x])

theorem flat_form {P : Program} : ∀ {d : Nat} {t : TypeId} {l : List Lf}, flatTy P d t = some l → (tagg P t = some true ∧ tsz P t = some l.length) ∨ (tagg P t = some false ∧ l.length = 1)
  | 0, _, _, h => by cases h
  | d + 1, t, l, h => by
    simp only [flatTy] at h
    split at h
    case h_6 => cases h
    · rename_i hu; cases h; exact .inr ⟨by simp [tagg, hu], rfl⟩
    · rename_i hu; cases h; exact .inr ⟨by simp [tagg, hu], rfl⟩
    · rename_i hu; cases h; exact .inr ⟨by simp [tagg, hu], rfl⟩
    · rename_i hu
      split at h
      case isFalse => cases h
      split at h
      case h_2 => cases h
      split at h
      case isFalse => cases h
      cases h
      exact .inl ⟨by simp [tagg, hu], ‹_›⟩
    · rename_i n e hu
      split at h
      case h_2 => cases h
      rename_i l' _
      split at h
      case isFalse => cases h
      rename_i hc
      cases h
      refine .inl ⟨by simp [tagg, hu], ?_⟩
      rw [hc.2.1]
      congr 1
      induction n with
      | zero => simp
      | succ n ih => rw [List.replicate_succ, List.flatten_cons, List.length_append]; clear hc hu; have : (List.replicate n l').flatten.length = n * l'.length := by simp
                     rw [this]; grind

theorem run_part_form {P : Program} {d : Nat} {t : TypeId} {l : List Lf} (h : flatTy P d t = some l) (cs : List Value) (off : Nat) (hl : off + l.length ≤ cs.length) (w : World) :
    ∃ x, (part t cs.toArray off).run P w = .ok x w ∧ PartForm P t ((cs.drop off).take l.length) x := by
  rcases flat_form h with ⟨h1, h2⟩ | ⟨h1, h2⟩
  · refine ⟨.agg (cs.toArray.extract off (off + l.length)), by simp [part, tagg_run h1, tsz_run h2], .inl ⟨h1, ?_⟩⟩
    congr 1
    apply Array.ext'
    simp [List.extract]
  · have hlt : off < cs.length := by omega
    refine ⟨cs[off], by simp [part, tagg_run h1, hlt], .inr ⟨h1, ?_⟩⟩
    rw [h2]
    rw [List.take_one]
    simp [hlt]

theorem eqc_one {ks : List Lf} {x y : Value} {b : Bool} (h : eqc ks [x] [y] = some b) : ∃ k, ks = [k] ∧ eq1 k x y = some b := by
  cases ks with
  | nil => cases h
  | cons k ks =>
    simp only [eqc] at h
    split at h
    case h_2 => cases h
    rename_i b1 b2 h1 h2
    cases h
    cases ks with
    | nil => cases h2; exact ⟨k, rfl, by simpa using h1⟩
    | cons _ _ => cases h2

theorem flat_eq {P : Program} : ∀ (d : Nat) (t : TypeId) (ks : List Lf), flatTy P d t = some ks → ∀ (D : Nat), d ≤ D → ∀ (xs ys : List Value) (b : Bool), eqc ks xs ys = some b → ∀ (x y : Value),
    PartForm P t xs x → PartForm P t ys y → ∀ w, (Op.equalIn D t x y).run P w = .ok b w := by
  intro d
  induction d with
  | zero => intro t s h; cases h
  | succ d ih =>
    intro t ks h D hD xs ys b hb x y hx hy w
    obtain ⟨D, rfl⟩ : ∃ m, D = m + 1 := ⟨D - 1, by omega⟩
    have hD : d ≤ D := by omega
    simp only [flatTy] at h
    split at h
    case h_6 => cases h
    case h_1 k hu =>
      cases h
      have ha : tagg P t = some false := by simp [tagg, hu]
      rcases hx with ⟨hq, _⟩ | ⟨_, rfl⟩
      · rw [ha] at hq; cases hq
      rcases hy with ⟨hq, _⟩ | ⟨_, rfl⟩
      · rw [ha] at hq; cases hq
      obtain ⟨k, hk, h1⟩ := eqc_one hb
      cases hk
      unfold eq1 at h1
      split at h1
      · split at h1
        case isFalse => cases h1
        cases h1
        rename_i hk; subst hk
        simp [Op.equalIn, run_underlying hu]
      all_goals first | (rename_i hh; cases hh; done) | cases h1
    case h_2 hu =>
      cases h
      have ha : tagg P t = some false := by simp [tagg, hu]
      rcases hx with ⟨hq, _⟩ | ⟨_, rfl⟩
      · rw [ha] at hq; cases hq
      rcases hy with ⟨hq, _⟩ | ⟨_, rfl⟩
      · rw [ha] at hq; cases hq
      obtain ⟨k, hk, h1⟩ := eqc_one hb
      cases hk
      unfold eq1 at h1
      split at h1
      case h_2 => cases h1; simp [Op.equalIn, run_underlying hu]
      all_goals first | (rename_i hh; cases hh; done) | cases h1
    case h_3 hu =>
      cases h
      have ha : tagg P t = some false := by simp [tagg, hu]
      rcases hx with ⟨hq, _⟩ | ⟨_, rfl⟩
      · rw [ha] at hq; cases hq
      rcases hy with ⟨hq, _⟩ | ⟨_, rfl⟩
      · rw [ha] at hq; cases hq
      obtain ⟨k, hk, h1⟩ := eqc_one hb
      cases hk
      unfold eq1 at h1
      split at h1
      case h_3 => cases h1; simp [Op.equalIn, run_underlying hu, beq_toListBytes]
      all_goals first | (rename_i hh; cases hh; done) | cases h1
    case h_4 fs hu =>
      split at h
      case isFalse => cases h
      rename_i hst
      split at h
      case h_2 => cases h
      rename_i l hf
      split at h
      case isFalse => cases h
      cases h
      have ha : tagg P t = some true := by simp [tagg, hu]
      rcases hx with ⟨_, rfl⟩ | ⟨hq, _⟩
      case inr => rw [ha] at hq; cases hq
      rcases hy with ⟨_, rfl⟩ | ⟨hq, _⟩
      case inr => rw [ha] at hq; cases hq
      have hfo : P.fieldsOf t = fs := by unfold Program.fieldsOf; rw [hu]
      rw [run_equalIn_struct w D t _ _ (by rw [hfo]; exact hu) hst, hfo]
      have key : ∀ (fl : List Field) (s0 : Nat) (l : List Lf) (b : Bool), flatF (flatTy P d) s0 fl = some l → eqc l (xs.drop s0) (ys.drop s0) = some b → (Op.eqFields D xs.toArray ys.toArray fl).run P w = .ok b w := by
        intro fl
        induction fl with
        | nil =>
          intro s0 l b hf hb
          cases hf
          have : b = true := by
            obtain ⟨e1, e2⟩ := eqc_len hb
            rw [List.eq_nil_of_length_eq_zero e1, List.eq_nil_of_length_eq_zero e2] at hb
            cases hb; rfl
          subst this
          simp [Op.eqFields]
        | cons f fl ihf =>
          intro s0 l b hf hb
          simp only [flatF] at hf
          split at hf
          case h_2 => cases hf
          rename_i lf hlf
          split at hf
          case isFalse => cases hf
          rename_i hc
          obtain ⟨hn, rfl, hpos⟩ := hc
          cases hrest : flatF (flatTy P d) (f.offset + lf.length) fl with
          | none => rw [hrest] at hf; cases hf
          | some lr =>
            rw [hrest] at hf; cases hf
            obtain ⟨e1, e2⟩ := eqc_len hb
            obtain ⟨b1, b2, g1, g2, rfl⟩ := eqc_split hb
            simp only [List.length_append, List.length_drop] at e1 e2
            have hl1 : f.offset + lf.length ≤ xs.length := by omega
            have hl2 : f.offset + lf.length ≤ ys.length := by omega
            obtain ⟨px, p1, p2⟩ := run_part_form hlf xs f.offset hl1 w
            obtain ⟨py, q1, q2⟩ := run_part_form hlf ys f.offset hl2 w
            have he := ih f.type lf hlf D hD _ _ b1 g1 px py p2 q2 w
            have hr := ihf (f.offset + lf.length) lr b2 hrest (by rw [List.drop_drop, List.drop_drop] at g2; exact g2)
            simp only [Op.eqFields]
            rw [if_pos hn]
            simp only [Sem.run_bind, p1, q1, he, Result.andThen_ok]
            cases b1
            · simp
            · simpa using hr
      exact key fs.toList 0 ks b hf (by simpa using hb)
    case h_5 n e hu =>
      split at h
      case h_2 => cases h
      rename_i l hle
      split at h
      case isFalse => cases h
      rename_i hc
      obtain ⟨hse, hst, hpos⟩ := hc
      cases h
      have ha : tagg P t = some true := by simp [tagg, hu]
      rcases hx with ⟨_, rfl⟩ | ⟨hq, _⟩
      case inr => rw [ha] at hq; cases hq
      rcases hy with ⟨_, rfl⟩ | ⟨hq, _⟩
      case inr => rw [ha] at hq; cases hq
      obtain ⟨i, hi⟩ : ∃ i, P.info? e = some i := by
        unfold tsz at hse
        cases hh : P.info? e with
        | none => rw [hh] at hse; cases hse
        | some i => exact ⟨i, rfl⟩
      have hce : P.cellsOf e = l.length := by
        unfold tsz at hse
        unfold Program.cellsOf
        rw [hse]; rfl
      rw [run_equalIn_array w D _ _ hu hi, hce, List.range_eq_range']
      have key : ∀ (n j : Nat) (b : Bool), eqc (List.replicate n l).flatten (xs.drop (j * l.length)) (ys.drop (j * l.length)) = some b → (Op.eqItems D e l.length xs.toArray ys.toArray (List.range' j n)).run P w = .ok b w := by
        intro n
        induction n with
        | zero =>
          intro j b hb
          have : b = true := by
            obtain ⟨e1, e2⟩ := eqc_len hb
            simp at e1 e2
            rw [List.drop_eq_nil_of_le (by omega), List.drop_eq_nil_of_le (by omega)] at hb
            cases hb; rfl
          subst this
          simp [Op.eqItems]
        | succ n ihn =>
          intro j b hb
          rw [List.replicate_succ, List.flatten_cons] at hb
          obtain ⟨e1, e2⟩ := eqc_len hb
          obtain ⟨b1, b2, g1, g2, rfl⟩ := eqc_split hb
          simp only [List.length_append, List.length_drop] at e1 e2
          have hl1 : j * l.length + l.length ≤ xs.length := by omega
          have hl2 : j * l.length + l.length ≤ ys.length := by omega
          obtain ⟨px, p1, p2⟩ := run_part_form hle xs (j * l.length) hl1 w
          obtain ⟨py, q1, q2⟩ := run_part_form hle ys (j * l.length) hl2 w
          have he := ih e l hle D hD _ _ b1 g1 px py p2 q2 w
          have hr := ihn (j + 1) b2 (by rw [List.drop_drop, List.drop_drop] at g2; rw [Nat.add_mul, Nat.one_mul]; exact g2)
          simp only [List.range'_succ, Op.eqItems, Sem.run_bind, p1, q1, he, Result.andThen_ok]
          cases b1
          · simp
          · simpa using hr
      exact key n 0 b (by simpa using hb)

end Go.Proofs.Ythoclopeajkcpaa.E
