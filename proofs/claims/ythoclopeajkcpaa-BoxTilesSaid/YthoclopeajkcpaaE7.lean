/- The machine's appends. -/
import Derived.Test.YthoclopeajkcpaaE6
set_option linter.unusedVariables false
set_option linter.unusedSimpArgs false
namespace Go.Proofs.Ythoclopeajkcpaa.E
open Go Go.RowKit

/-- The cells that a slice reads, its elements' number, the block that was read. -/
def asrc (H : AH) (s : Nat) : Value → Option (List Value × Nat × List Nat)
  | .slice none 0 0 => some ([], 0, [])
  | .slice (some ⟨b, off, some g⟩) n e =>
    if e = s then
      if n = 0 then some ([], 0, []) else
      match H[b]? with
      | some k => if g = k.gen ∧ off + n * s ≤ k.cells.length then some ((k.cells.drop off).take (n * s), n, [b]) else none
      | none => none
    else none
  | .slice (some ⟨_, _, none⟩) 0 _ => some ([], 0, [])
  | _ => none

theorem src_run {P : Program} {N0 : Nat} {H : AH} {R : Option (List Nat)} {M : Mp} {w w1 : World} (p : Pre N0 H R M w) {s : Nat} {x x' : Value} {cs : List Value} {n : Nat} {bs : List Nat} (hx : VR M x x') (h : asrc H s x = some (cs, n, bs)) (hR : ∀ b ∈ bs, inR R b) (hw : w1.heap = w.heap) :
    (∃ a c, x' = .slice a n c) ∧ cs.length = n * s ∧ ∃ vs, VCs M cs vs ∧ vs.length = n * s ∧ (Builtin.firstCells s n x').run P w1 = .ok vs.toArray w1 := by
  have zero : cs = [] → n = 0 → ∀ a c, x' = .slice a n c → (∃ a c, x' = .slice a n c) ∧ cs.length = n * s ∧ ∃ vs, VCs M cs vs ∧ vs.length = n * s ∧ (Builtin.firstCells s n x').run P w1 = .ok vs.toArray w1 := by
    rintro rfl rfl a c rfl
    refine ⟨⟨a, c, rfl⟩, by simp, [], ⟨VRs.nil, by simp⟩, by simp, ?_⟩
    cases a with
    | none => simp [Builtin.firstCells]
    | some a =>
      have := run_firstCells_some (P := P) w1 s 0 a 0 c [] (by simp) (fun j v h => by simp at h)
      exact this
  unfold asrc at h
  split at h
  · cases h
    obtain ⟨a, c, rfl⟩ := hx.slice_len
    exact zero rfl rfl _ _ rfl
  · rename_i b off g n' e
    split at h
    case isFalse => cases h
    rename_i he
    subst he
    split at h
    · rename_i hn
      subst hn
      cases h
      obtain ⟨a, c, rfl⟩ := hx.slice_len
      exact zero rfl rfl _ _ rfl
    · rename_i hn
      split at h
      case h_2 => cases h
      rename_i k hk
      split at h
      case isFalse => cases h
      rename_i hc
      obtain ⟨rfl, hlen⟩ := hc
      cases h
      rcases hx.sl_inv with ⟨c, o, m, cap, hM, h1, h2, rfl⟩ | ⟨h0, _⟩
      case inr => exact absurd h0 hn
      obtain ⟨hcell, _⟩ := cell_at p (hR b (by simp)) hk rfl hM
      obtain ⟨vs, l1, l2, l3⟩ := cells_at hcell off (n * e) hlen
      refine ⟨⟨_, _, rfl⟩, by simp; omega, vs, l3, l1, ?_⟩
      exact run_firstCells_some (P := P) w1 e n _ n cap vs l1 (fun j v hj => by
        rw [add_off, World.cell?_of_block (w := w) (by rw [hw])]; exact l2 j v hj)
  · cases h
    obtain ⟨a, c, rfl⟩ := hx.slice_len
    exact zero rfl rfl _ _ rfl
  · cases h

/-- append: the value, the blocks, what is written, what is read. -/
def aappend (P : Program) (H : AH) (t t' : TypeId) (x y : Value) : Option (Value × AH × List Nat × List Nat) :=
  match tslice P t, tslice P t' with
  | some e, some _ =>
    match tsz P e, tby P e, tzero P e with
    | some s, some by_, some z =>
      match asrc H s y with
      | some (cs, n, bs) =>
        if 0 < s ∧ z.length = s ∧ by_ ≤ 1073741824 then
          match x with
          | .slice none 0 0 => if n = 0 then some (.slice none 0 0, H, [], bs) else
              if n * by_ ≤ 70368744177664 ∧ n ≤ 70368744177664 then some (sl H.length 0 0 n s, H ++ [⟨cs, 0, true⟩], [], bs) else none
          | .slice (some ⟨_, _, none⟩) 0 _ => if n = 0 then some (x, H, [], bs) else
              if n * by_ ≤ 70368744177664 ∧ n ≤ 70368744177664 then some (sl H.length 0 0 n s, H ++ [⟨cs, 0, true⟩], [], bs) else none
          | .slice (some ⟨b, 0, some g⟩) len e0 =>
            match H[b]? with
            | some k =>
              if e0 = s ∧ g = k.gen ∧ k.rw = true ∧ len * s = k.cells.length then
                if n = 0 then some (x, H, [], b :: bs) else
                if (len + n) * by_ ≤ 70368744177664 ∧ len + n ≤ 70368744177664 then some (sl b 0 (g + 1) (len + n) s, H.set b ⟨k.cells ++ cs, g + 1, true⟩, [b], b :: bs) else none
              else none
            | none => none
          | _ => none
        else none
      | none => none
    | _, _, _ => none
  | _, _ => none

theorem append_grow {P : Program} {w : World} {t t' ty e e' : TypeId} {i : TypeInfo} {z : Value} (ht : P.underlying t = some (.slice e)) (ht' : P.underlying t' = some (.slice e')) (hi : P.info? e = some i) (hz : i.zero = some z)
    (base : Option Addr) (sLen sCap : Nat) (olds : List Value) (hold : (Builtin.firstCells i.size sLen (.slice base sLen sCap)).run P w.drew = .ok olds.toArray w.drew)
    (y' : Value) (a : Option Addr) (n c : Nat) (hy : y' = .slice a n c) (news : List Value) (hnew : (Builtin.firstCells i.size n y').run P w.drew = .ok news.toArray w.drew)
    (hg : sCap < sLen + n) (h63 : sLen + n ≤ 70368744177664) (hfit : (sLen + n) * i.bytes ≤ 70368744177664) :
    (Builtin.append_ #[t, t'] ty #[.slice base sLen sCap, y']).run P w =
      .ok (.slice (some ⟨w.heap.size, 0, none⟩) (sLen + n) (grownCap w (sLen + n) sCap e))
        (w.drew.alloc (.cells (olds.toArray ++ news.toArray ++ Builtin.zeroCells z.cells (grownCap w (sLen + n) sCap e - (sLen + n))) e)) := by
  subst hy
  have hn : ¬ (sLen + n ≤ sCap) := by omega
  have h63' : ¬ (9223372036854775807 < ((sLen : Int) + (n : Int))) := by omega
  have hnx := nextslicecap_le (need := sLen + n) (old := sCap) hg
  have h48 : Builtin.nextslicecap (sLen + n) sCap * i.bytes ≤ 2 * (sLen + n) * i.bytes := Nat.mul_le_mul_right _ hnx
  have h48' : ¬ (281474976710656 < Builtin.nextslicecap (sLen + n) sCap * i.bytes) := by rw [Nat.mul_assoc] at h48; omega
  simp [Builtin.append_, run_underlying ht, run_underlying ht', sizeOf, typeInfo, zeroValue, hi, hz, Builtin.lenOf, hn, h63', h48', Question.forced, hold, hnew, newRow, grownCap]
  congr 2
  apply Array.ext'
  simp [List.append_assoc]

theorem append_room {P : Program} {w : World} {t t' ty e e' : TypeId} {i : TypeInfo} (ht : P.underlying t = some (.slice e)) (ht' : P.underlying t' = some (.slice e')) (hi : P.info? e = some i)
    (base : Option Addr) (sLen sCap : Nat) (y' : Value) (a : Option Addr) (n c : Nat) (hy : y' = .slice a n c) (news : List Value) (hnew : (Builtin.firstCells i.size n y').run P w = .ok news.toArray w)
    (hroom : sLen + n ≤ sCap) (w' : World) (hst : ∀ b, base = some b → (storeCells (b.add (sLen * i.size)) news).run P w = .ok () w') (hno : base = none → w' = w) :
    (Builtin.append_ #[t, t'] ty #[.slice base sLen sCap, y']).run P w = .ok (.slice base (sLen + n) sCap) w' := by
  subst hy
  cases base with
  | none =>
    have := hno rfl; subst this
    simp [Builtin.append_, run_underlying ht, run_underlying ht', sizeOf, typeInfo, hi, Builtin.lenOf, hroom, hnew]
  | some b =>
    have := hst b rfl
    simp [Builtin.append_, run_underlying ht, run_underlying ht', sizeOf, typeInfo, hi, Builtin.lenOf, hroom, hnew, this]

theorem drew_rest (w : World) : w.drew.heap = w.heap ∧ w.drew.os = w.os ∧ w.drew.tape = w.tape ∧ w.drew.output = w.output := ⟨rfl, rfl, rfl, rfl⟩

/-- An append onto nothing. -/
theorem gives_append_nil {P : Program} {N0 : Nat} {H : AH} {R : Option (List Nat)} {M : Mp} {w : World} (p : Pre N0 H R M w) {t t' ty e e' : TypeId} {s by_ : Nat} {z : List Value} (ht : tslice P t = some e) (ht' : tslice P t' = some e') (hs : tsz P e = some s) (hb : tby P e = some by_) (hz : tzero P e = some z)
    {y y' : Value} {cs : List Value} {n : Nat} {bs : List Nat} (hy : VR M y y') (h : asrc H s y = some (cs, n, bs)) (hR : ∀ b ∈ bs, inR R b) (hs0 : 0 < s) (hzl : z.length = s) (base : Option Addr) (h0 : 0 < n) (h1 : n * by_ ≤ 70368744177664) (h2 : n ≤ 70368744177664) :
    Gives N0 H (H ++ [⟨cs, 0, true⟩]) [] M w (sl H.length 0 0 n s) ((Builtin.append_ #[t, t'] ty #[.slice base 0 0, y']).run P w) := by
  obtain ⟨i, zv, g1, g2, g3, g4⟩ := tzero_val hz
  have hsi : i.size = s := by unfold tsz at hs; rw [g1] at hs; simpa using hs
  have hbi : i.bytes = by_ := by unfold tby at hb; rw [g1] at hb; simpa using hb
  obtain ⟨⟨a, c, rfl⟩, hcl, vs, l1, l2, l3⟩ := src_run (P := P) (w1 := w.drew) p hy h hR rfl
  have hold : (Builtin.firstCells i.size 0 (.slice base 0 0)).run P w.drew = .ok ([] : List Value).toArray w.drew := by
    cases base with
    | none => simp [Builtin.firstCells]
    | some b => exact run_firstCells_some (P := P) w.drew i.size 0 b 0 0 [] (by simp) (fun j v h => by simp at h)
  have hrun := append_grow (ty := ty) (tslice_und ht) (tslice_und ht') g1 g2 base 0 0 [] hold (.slice a n c) a n c rfl vs (by rw [hsi]; exact l3) (by omega) (by omega) (by rw [hbi]; simpa using h1)
  simp only [Nat.zero_add] at hrun
  have hcap := grownCap_ge w n 0 e
  refine ⟨_, _, mset M H.length 0 (w.heap.size, 0, ([].toArray ++ vs.toArray ++ Builtin.zeroCells zv.cells (grownCap w n 0 e - n)).size), hrun, ?_, Post.new (w1 := w.drew) p cs _ e true rfl rfl rfl rfl (fun j v hv => ?_)⟩
  · have hzs : zv.cells.size = s := by rw [← Array.length_toList, g3]; exact hzl
    have hsz : ([].toArray ++ vs.toArray ++ Builtin.zeroCells zv.cells (grownCap w n 0 e - n)).size = grownCap w n 0 e * s := by
      simp [size_zeroCells, hzs, l2, Nat.sub_mul]
      have := Nat.mul_le_mul_right s hcap
      omega
    have := VR.sl (M := mset M H.length 0 (w.heap.size, 0, ([].toArray ++ vs.toArray ++ Builtin.zeroCells zv.cells (grownCap w n 0 e - n)).size)) (off := 0) (len := n) (e := s) (cap := grownCap w n 0 e) (mset_same _ _ _ _) hcap (by omega)
    simpa using this
  · obtain ⟨v', q1, q2⟩ := l1.1.get hv
    refine ⟨l1.2 v (List.mem_of_getElem? hv), v', ?_, q2⟩
    have hj : j < vs.length := (List.getElem?_eq_some_iff.1 q1).1
    rw [Array.getElem?_append_left (by simpa using hj)]
    simpa using q1

/-- An append onto a block. -/
theorem gives_append_blk {P : Program} {N0 : Nat} {H : AH} {R : Option (List Nat)} {M : Mp} {w : World} (p : Pre N0 H R M w) {t t' ty e e' : TypeId} {s by_ : Nat} {z : List Value} (ht : tslice P t = some e) (ht' : tslice P t' = some e') (hs : tsz P e = some s) (hb : tby P e = some by_) (hz : tzero P e = some z)
    {y y' : Value} {cs : List Value} {n : Nat} {bs : List Nat} (hy : VR M y y') (h : asrc H s y = some (cs, n, bs)) (hR : ∀ b ∈ bs, inR R b) (hs0 : 0 < s) (hzl : z.length = s)
    {b g len : Nat} {k : Blk} {x' : Value} (hx : VR M (sl b 0 g len s) x') (hRb : inR R b) (hk : H[b]? = some k) (hg : g = k.gen) (hrw : k.rw = true) (hlen : len * s = k.cells.length)
    (h0 : 0 < n) (h1 : (len + n) * by_ ≤ 70368744177664) (h2 : len + n ≤ 70368744177664) :
    Gives N0 H (H.set b ⟨k.cells ++ cs, g + 1, true⟩) [b] M w (sl b 0 (g + 1) (len + n) s) ((Builtin.append_ #[t, t'] ty #[x', y']).run P w) := by
  subst hg
  obtain ⟨i, zv, g1, g2, g3, g4⟩ := tzero_val hz
  have hsi : i.size = s := by unfold tsz at hs; rw [g1] at hs; simpa using hs
  have hbi : i.bytes = by_ := by unfold tby at hb; rw [g1] at hb; simpa using hb
  have hzs : zv.cells.size = s := by rw [← Array.length_toList, g3]; exact hzl
  -- what lies in the world
  have hM : ∃ c o m base cap, M b k.gen = some (c, o, m) ∧ x' = .slice base len cap ∧ len ≤ cap ∧ ((base = some ⟨c, o, none⟩ ∧ o + cap * s ≤ m) ∨ (len = 0 ∧ cap = 0)) := by
    rcases hx.sl_inv with ⟨c, o, m, cap, hM, q1, q2, rfl⟩ | ⟨rfl, a', ⟨c, o, m⟩, hM, rfl⟩
    · exact ⟨c, o, m, _, cap, hM, rfl, q1, .inl ⟨by simp, by simpa using q2⟩⟩
    · exact ⟨c, o, m, _, 0, hM, rfl, Nat.le_refl _, .inr ⟨rfl, rfl⟩⟩
  obtain ⟨c, o, m, base, cap, hM, rfl, hcap, hbase⟩ := hM
  obtain ⟨hcell, hN⟩ := cell_at p hRb hk rfl hM
  have hN := hN hrw
  obtain ⟨⟨ccs, ce, cfr, hb1, hb2⟩, hfz⟩ := p.hp.own hM hN
  by_cases hroom : len + n ≤ cap
  · -- in place
    rcases hbase with ⟨rfl, hm⟩ | ⟨rfl, rfl⟩
    case inr => omega
    obtain ⟨⟨a, c', rfl⟩, hcl, vs, l1, l2, l3⟩ := src_run (P := P) (w1 := w) p hy h hR rfl
    have hmul : (len + n) * s ≤ cap * s := Nat.mul_le_mul_right s hroom
    rw [Nat.add_mul] at hmul
    have hst := run_storeCells_cells (P := P) c (o + k.cells.length) vs 0 w (fun j hj => by
        rw [cell_of_row _ _ _ _ _ _ hb1, Array.getElem?_eq_getElem (by omega)]; rfl) (fun j hj => hfz _ (by omega)) (fun u hu => by
        rw [one_kit]
        obtain ⟨j, hj, e⟩ := List.getElem_of_mem hu
        have hj' : j < cs.length := by omega
        have r := l1.1.2 j cs[j] u (List.getElem?_eq_getElem hj') (by rw [← e]; exact List.getElem?_eq_getElem hj)
        rw [r.one_eq]; exact l1.2 _ (List.getElem_mem hj'))
    simp only [Nat.add_zero] at hst
    have hrun := append_room (P := P) (w := w) (ty := ty) (tslice_und ht) (tslice_und ht') g1 (some ⟨c, o, none⟩) len cap (.slice a n c') a n c' rfl vs (by rw [hsi]; exact l3) hroom (w.setCells c (o + k.cells.length) vs) (fun b' hb' => by
      cases hb'
      rw [add_off, hsi, hlen]; exact hst) (fun hh => by cases hh)
    refine ⟨_, _, mset M b (k.gen + 1) (c, o, m), hrun, ?_, Post.grow_in p hRb hk hM hrw cs vs (by rw [hcl]; omega) l1⟩
    have := VR.sl (M := mset M b (k.gen + 1) (c, o, m)) (off := 0) (len := len + n) (e := s) (cap := cap) (mset_same _ _ _ _) hroom (by simpa using hm)
    simpa using this
  · -- laid anew
    obtain ⟨⟨a, c', rfl⟩, hcl, vs, l1, l2, l3⟩ := src_run (P := P) (w1 := w.drew) p hy h hR rfl
    have holds : ∃ olds, (Builtin.firstCells i.size len (.slice base len cap)).run P w.drew = .ok olds.toArray w.drew ∧ olds.length = len * s ∧ VCs M k.cells olds := by
      rcases hbase with ⟨rfl, hm⟩ | ⟨rfl, rfl⟩
      · obtain ⟨cs', q1, q2, q3⟩ := cells_at hcell 0 k.cells.length (by omega)
        refine ⟨cs', ?_, by omega, by simpa using q3⟩
        rw [hsi]
        exact run_firstCells_some (P := P) w.drew s len ⟨c, o, none⟩ len cap cs' (by omega) (fun j v hj => by
          rw [add_off]; have := q2 j v hj; simpa using this)
      · refine ⟨[], ?_, by simp, ?_⟩
        · cases base with
          | none => simp [Builtin.firstCells]
          | some b => exact run_firstCells_some (P := P) w.drew i.size 0 b 0 0 [] (by simp) (fun j v h => by simp at h)
        · have : k.cells = [] := List.eq_nil_of_length_eq_zero (by omega)
          rw [this]; exact ⟨VRs.nil, by simp⟩
    obtain ⟨olds, o1, o2, o3⟩ := holds
    have hrun := append_grow (ty := ty) (tslice_und ht) (tslice_und ht') g1 g2 base len cap olds o1 (.slice a n c') a n c' rfl vs (by rw [hsi]; exact l3) (by omega) h2 (by rw [hbi]; exact h1)
    have hcapg := grownCap_ge w (len + n) cap e
    have hall := o3.append l1
    refine ⟨_, _, mset M b (k.gen + 1) (w.heap.size, 0, (olds.toArray ++ vs.toArray ++ Builtin.zeroCells zv.cells (grownCap w (len + n) cap e - (len + n))).size), hrun, ?_, Post.grow_new (w1 := w.drew) p hRb hk hM hrw cs _ e rfl rfl rfl rfl (fun j v hv => ?_)⟩
    · have hsz : (olds.toArray ++ vs.toArray ++ Builtin.zeroCells zv.cells (grownCap w (len + n) cap e - (len + n))).size = grownCap w (len + n) cap e * s := by
        simp only [Array.size_append, size_zeroCells, hzs, List.size_toArray, l2, o2, Nat.sub_mul]
        have := Nat.mul_le_mul_right s hcapg
        rw [Nat.add_mul] at this ⊢
        omega
      have := VR.sl (M := mset M b (k.gen + 1) (w.heap.size, 0, (olds.toArray ++ vs.toArray ++ Builtin.zeroCells zv.cells (grownCap w (len + n) cap e - (len + n))).size)) (off := 0) (len := len + n) (e := s) (cap := grownCap w (len + n) cap e) (mset_same _ _ _ _) hcapg (by omega)
      simpa using this
    · obtain ⟨v', q1, q2⟩ := hall.1.get hv
      refine ⟨hall.2 v (List.mem_of_getElem? hv), v', ?_, q2⟩
      have hj : j < (olds ++ vs).length := (List.getElem?_eq_some_iff.1 q1).1
      rw [Array.getElem?_append_left (by simpa using hj)]
      simpa using q1

theorem VR.nil_inv {M : Mp} {v' : Value} (r : VR M (.slice none 0 0) v') : v' = .slice none 0 0 := by cases r; rfl
theorem VR.zs_inv {M : Mp} {b off e : Nat} {v' : Value} (r : VR M (.slice (some ⟨b, off, none⟩) 0 e) v') : ∃ a', v' = .slice (some a') 0 0 := by cases r; exact ⟨_, rfl⟩

theorem gives_append {P : Program} {N0 : Nat} {H H' : AH} {R : Option (List Nat)} {M : Mp} {w : World} (p : Pre N0 H R M w) {t t' ty : TypeId} {x x' y y' v : Value} {W rs : List Nat} (hx : VR M x x') (hy : VR M y y')
    (h : aappend P H t t' x y = some (v, H', W, rs)) (hR : ∀ b ∈ rs, inR R b) : Gives N0 H H' W M w v ((Builtin.append_ #[t, t'] ty #[x', y']).run P w) := by
  unfold aappend at h
  split at h
  case h_2 => cases h
  rename_i e e' ht ht'
  split at h
  case h_2 => cases h
  rename_i s by_ z hs hb hz
  split at h
  case h_2 => cases h
  rename_i cs n bs hsrc
  split at h
  case isFalse => cases h
  rename_i hc
  obtain ⟨hs0, hzl, _⟩ := hc
  have none0 : ∀ (base : Option Addr) (len cap : Nat), n = 0 → len ≤ cap → (∀ b ∈ bs, inR R b) → (Builtin.append_ #[t, t'] ty #[.slice base len cap, y']).run P w = .ok (.slice base len cap) w := by
    intro base len cap h0 hle hbs
    obtain ⟨i, zv, g1, g2, g3, g4⟩ := tzero_val hz
    have hsi : i.size = s := by unfold tsz at hs; rw [g1] at hs; simpa using hs
    obtain ⟨⟨a, c, rfl⟩, hcl, vs, l1, l2, l3⟩ := src_run (P := P) (w1 := w) p hy hsrc hbs rfl
    subst h0
    have hvs : vs = [] := List.eq_nil_of_length_eq_zero (by simpa using l2)
    subst hvs
    have := append_room (P := P) (w := w) (ty := ty) (tslice_und ht) (tslice_und ht') g1 base len cap (.slice a 0 c) a 0 c rfl [] (by rw [hsi]; exact l3) (by omega) w (fun b _ => rfl) (fun _ => rfl)
    simpa using this
  split at h
  · -- nil
    have := hx.nil_inv; subst this
    split at h
    · rename_i h0
      cases h
      exact Gives.same p (none0 none 0 0 h0 (Nat.le_refl _) hR) .nils
    · rename_i h0
      split at h
      case isFalse => cases h
      rename_i hb2
      cases h
      exact gives_append_nil p ht ht' hs hb hz hy hsrc hR hs0 hzl none (by omega) hb2.1 hb2.2
  · obtain ⟨a', rfl⟩ := hx.zs_inv
    split at h
    · rename_i h0
      cases h
      exact Gives.same p (none0 _ 0 0 h0 (Nat.le_refl _) hR) hx
    · rename_i h0
      split at h
      case isFalse => cases h
      rename_i hb2
      cases h
      exact gives_append_nil p ht ht' hs hb hz hy hsrc hR hs0 hzl (some a') (by omega) hb2.1 hb2.2
  · rename_i b g len e0
    split at h
    case h_2 => cases h
    rename_i k hk
    split at h
    case isFalse => cases h
    rename_i hc
    obtain ⟨rfl, hg, hrw, hlen⟩ := hc
    split at h
    · rename_i h0
      cases h
      rcases hx.sl_inv with ⟨c, o, m, cap, hM, q1, q2, rfl⟩ | ⟨rfl, a', x, hM, rfl⟩
      · exact Gives.same p (none0 _ len cap h0 q1 (fun b hb => hR b (by simp [hb]))) hx
      · exact Gives.same p (none0 _ 0 0 h0 (Nat.le_refl _) (fun b hb => hR b (by simp [hb]))) hx
    · rename_i h0
      split at h
      case isFalse => cases h
      rename_i hb2
      cases h
      exact gives_append_blk p ht ht' hs hb hz hy hsrc (fun b hb => hR b (by simp [hb])) hs0 hzl hx (hR b (by simp)) hk hg hrw hlen (by omega) hb2.1 hb2.2
  · cases h

end Go.Proofs.Ythoclopeajkcpaa.E
