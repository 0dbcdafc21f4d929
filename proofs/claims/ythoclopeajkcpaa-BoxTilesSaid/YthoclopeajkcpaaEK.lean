/- Evaluation of memory: loads, stores, places, aggregates, appends. -/
import Derived.Test.YthoclopeajkcpaaEJ
set_option linter.unusedVariables false
set_option linter.unusedSimpArgs false
namespace Go.Proofs.Ythoclopeajkcpaa.E
open Go Go.RowKit

/-! ### loads and stores -/
def ald (a : Option Bool) (s : Option Nat) (k : Option Blk) (b off g : Nat) : Option (Value × Nat) :=
  match k, a, s with
  | some k, some true, some s => if g = k.gen ∧ off + s ≤ k.cells.length then some (.agg ((k.cells.drop off).take s).toArray, b) else none
  | some k, some false, some _ => if g = k.gen then (k.cells[off]?).map (·, b) else none
  | _, _, _ => none
def pairb (b : Nat) : Option Value → Option (Value × Nat)
  | some v => some (v, b)
  | none => none
@[go_sem] theorem pairb_some {b : Nat} {v : Value} : pairb b (some v) = some (v, b) := (rfl)
@[go_sem] theorem aload_ptr {P : Program} {H : AH} {t : TypeId} {b off g : Nat} : aload P H t (.pointer (some ⟨b, off, some g⟩)) = ald (tagg P t) (tsz P t) H[b]? b off g := (rfl)
@[go_sem] theorem ald_s {s : Nat} {cs : List Value} {b off g : Nat} {rw_ : Bool} : ald (some false) (some s) (some ⟨cs, g, rw_⟩) b off g = pairb b cs[off]? := by
  simp only [ald, if_true]; cases cs[off]? <;> rfl
@[go_sem] theorem ald_a {s : Nat} {cs : List Value} {b off g : Nat} {rw_ : Bool} (h : off + s - cs.length = 0) : ald (some true) (some s) (some ⟨cs, g, rw_⟩) b off g = some (.agg ((cs.drop off).take s).toArray, b) := by
  have : off + s ≤ cs.length := by omega
  simp [ald, this]
def ast (H : AH) (k : Option Blk) (cs : Option (List Value)) (s : Option Nat) (b off g : Nat) : Option (AH × Nat) :=
  match k, cs, s with
  | some k, some cs, some s => if k.rw = true ∧ g = k.gen ∧ cs.length = s ∧ off + s ≤ k.cells.length then some (H.set b ⟨splice k.cells off cs, k.gen, true⟩, b) else none
  | _, _, _ => none
@[go_sem] theorem astore_ptr {P : Program} {H : AH} {t : TypeId} {b off g : Nat} {v : Value} : astore P H t (.pointer (some ⟨b, off, some g⟩)) v = ast H H[b]? (cellsL v) (tsz P t) b off g := (rfl)
@[go_sem] theorem ast_some {H : AH} {cells cs : List Value} {s b off g : Nat} (h1 : cs.length = s) (h2 : off + s - cells.length = 0) : ast H (some ⟨cells, g, true⟩) (some cs) (some s) b off g = some (H.set b ⟨splice cells off cs, g, true⟩, b) := by
  have : off + s ≤ cells.length := by omega
  simp [ast, h1, this]
@[go_sem] theorem splice_def (l : List Value) (off : Nat) (cs : List Value) : splice l off cs = l.take off ++ cs ++ l.drop (off + cs.length) := (rfl)
attribute [go_sem] List.drop_succ_cons List.drop_zero List.take_succ_cons List.take_zero List.drop_nil List.take_nil

/-! ### places -/
def tfo (P : Program) (t : TypeId) (f : Nat) : Option Nat :=
  match tfld P t f with
  | some (o, u) => match tsz P u with
    | some s => if s ≠ 0 then some o else none
    | none => none
  | none => none
def afl (b off g : Nat) : Option Nat → Option Value
  | some o => some (ap b (off + o) g)
  | none => none
@[go_sem] theorem afl_some {b off g o : Nat} : afl b off g (some o) = some (ap b (off + o) g) := (rfl)
@[go_sem] theorem afield_ptr {P : Program} {t : TypeId} {f b off g : Nat} : afield P t f (.pointer (some ⟨b, off, some g⟩)) = afl b off g (tfo P t f) := by
  simp only [afield, tfo]
  cases tfld P t f with
  | none => rfl
  | some x =>
    obtain ⟨o, u⟩ := x
    simp only
    cases tsz P u with
    | none => rfl
    | some s => simp only; split <;> rfl
/-- The size of an array's or a slice's elements, an array's length. -/
def tse (P : Program) (t : TypeId) : Option Nat := match tslice P t with
  | some e => tsz P e
  | none => none
def tae (P : Program) (t : TypeId) : Option (Nat × Nat) := match tarr P t with
  | some (n, e) => (tsz P e).map (n, ·)
  | none => none
def aix (b off g len : Nat) (n : Int) : Option Nat → Option Value
  | some s => if 0 ≤ n ∧ n < (len : Int) then some (ap b (off + n.toNat * s) g) else none
  | none => none
def aixa (b off g : Nat) (n : Int) : Option (Nat × Nat) → Option Value
  | some (len, s) => if 0 ≤ n ∧ n < (len : Int) then some (ap b (off + n.toNat * s) g) else none
  | none => none
@[go_sem] theorem aindex_sl {P : Program} {t : TypeId} {b off g len e : Nat} {k : IntKind} {n : Int} : aindex P t (.slice (some ⟨b, off, some g⟩) len e) (.int k n) = aix b off g len n (tse P t) := by
  simp only [aindex, tse]
  cases tslice P t with
  | none => rfl
  | some e => simp only; cases tsz P e <;> rfl
@[go_sem] theorem aindex_ptr {P : Program} {t : TypeId} {b off g : Nat} {k : IntKind} {n : Int} : aindex P t (.pointer (some ⟨b, off, some g⟩)) (.int k n) = aixa b off g n (tae P t) := by
  simp only [aindex, tae]
  cases tarr P t with
  | none => rfl
  | some x => obtain ⟨len, e⟩ := x; simp only; cases tsz P e <;> rfl
@[go_sem] theorem aix_some {b off g len s : Nat} {n : Int} (h0 : 0 ≤ n) (h1 : n < (len : Int)) : aix b off g len n (some s) = some (ap b (off + n.toNat * s) g) := by simp [aix, h0, h1]
@[go_sem] theorem aixa_some {b off g len s : Nat} {n : Int} (h0 : 0 ≤ n) (h1 : n < (len : Int)) : aixa b off g n (some (len, s)) = some (ap b (off + n.toNat * s) g) := by simp [aixa, h0, h1]

/-! ### aggregates -/
def fil (place : Nat → Option (Nat × Nat)) (rest : List (Nat × Value)) (cells : List Value) : Option (Nat × Nat) → Option (List Value) → Option (List Value)
  | some (off, size), some cs => if cs.length = size ∧ off + size ≤ cells.length then fillL place (splice cells off cs) rest else none
  | _, _ => none
@[go_sem] theorem fillL_nil {place : Nat → Option (Nat × Nat)} {cells : List Value} : fillL place cells [] = some cells := (rfl)
@[go_sem] theorem fillL_cons {place : Nat → Option (Nat × Nat)} {cells : List Value} {i : Nat} {v : Value} {rest : List (Nat × Value)} : fillL place cells ((i, v) :: rest) = fil place rest cells (place i) (cellsL v) := by
  simp only [fillL]
  cases place i with
  | none => rfl
  | some x => cases cellsL v <;> rfl
@[go_sem] theorem fil_some {place : Nat → Option (Nat × Nat)} {rest : List (Nat × Value)} {cells cs : List Value} {off size : Nat} (h1 : cs.length = size) (h2 : off + size - cells.length = 0) : fil place rest cells (some (off, size)) (some cs) = fillL place (splice cells off cs) rest := by
  have : off + size ≤ cells.length := by omega
  simp [fil, h1, this]
def toAgg : Option (List Value) → Option Value
  | some l => some (.agg l.toArray)
  | none => none
@[go_sem] theorem toAgg_some {l : List Value} : toAgg (some l) = some (.agg l.toArray) := (rfl)
/-- How an aggregate's parts lie: a struct's, or (with the elements' size) an array's. -/
inductive Lay where
  | str (z : List Value)
  | arr (z : List Value) (s : Nat)
def tlay (P : Program) (t : TypeId) : Option Lay :=
  match tzero P t with
  | some z => match tarr P t with
    | some (_, e) => (tsz P e).map (.arr z)
    | none => if tsized P t = true then some (.str z) else none
  | none => none
def arrp (s i : Nat) : Option (Nat × Nat) := some (i * s, s)
@[go_sem] theorem arrp_def (s i : Nat) : arrp s i = some (i * s, s) := (rfl)
def abl (P : Program) (t : TypeId) (vs : List (Nat × Value)) : Option Lay → Option Value
  | some (.str z) => toAgg (fillL (tplaces P t) z vs)
  | some (.arr z s) => toAgg (fillL (arrp s) z vs)
  | none => none
@[go_sem] theorem abl_str {P : Program} {t : TypeId} {vs : List (Nat × Value)} {z : List Value} : abl P t vs (some (.str z)) = toAgg (fillL (tplaces P t) z vs) := (rfl)
@[go_sem] theorem abl_arr {P : Program} {t : TypeId} {vs : List (Nat × Value)} {z : List Value} {s : Nat} : abl P t vs (some (.arr z s)) = toAgg (fillL (arrp s) z vs) := (rfl)
@[go_sem] theorem abuild_lay {P : Program} {t : TypeId} {vs : List (Nat × Value)} : abuild P t vs = abl P t vs (tlay P t) := by
  simp only [abuild, tlay]
  cases tzero P t with
  | none => rfl
  | some z =>
    simp only
    cases tarr P t with
    | none => simp only; split <;> first | rfl | (simp only [abl]; cases fillL (tplaces P t) z vs <;> rfl)
    | some x =>
      obtain ⟨n, e⟩ := x
      simp only
      cases tsz P e with
      | none => rfl
      | some s =>
        simp only [Option.map_some, abl]
        have : arrp s = fun i => some (i * s, s) := rfl
        rw [this]
        cases fillL (fun i => some (i * s, s)) z vs <;> rfl
def tlit (P : Program) (t : TypeId) : Option (List Value × Nat) := match tslice P t with
  | some e => match tsz P e, tzero P e with
    | some s, some z => if z.length = s ∧ s ≠ 0 then some (z, s) else none
    | _, _ => none
  | none => none
def withS (s : Nat) : Option (List Value) → Option (List Value × Nat)
  | some l => some (l, s)
  | none => none
@[go_sem] theorem withS_some {s : Nat} {l : List Value} : withS s (some l) = some (l, s) := (rfl)
def abs_ (len : Nat) (vs : List (Nat × Value)) : Option (List Value × Nat) → Option (List Value × Nat)
  | some (z, s) => if len * s ≤ 16777216 then withS s (fillL (arrp s) (zrep z len) vs) else none
  | none => none
@[go_sem] theorem abs_some {len s : Nat} {vs : List (Nat × Value)} {z : List Value} (h : len * s - 16777216 = 0) : abs_ len vs (some (z, s)) = withS s (fillL (arrp s) (zrep z len) vs) := by
  have : len * s ≤ 16777216 := by omega
  simp [abs_, this]
@[go_sem] theorem abuildSlice_lit {P : Program} {t : TypeId} {len : Nat} {vs : List (Nat × Value)} : abuildSlice P t len vs = abs_ len vs (tlit P t) := by
  simp only [abuildSlice, tlit]
  cases tslice P t with
  | none => rfl
  | some e =>
    simp only
    cases tsz P e with
    | none => rfl
    | some s => cases tzero P e with
      | none => rfl
      | some z =>
        simp only
        by_cases h1 : z.length = s ∧ s ≠ 0
        · rw [if_pos h1]
          simp only [abs_]
          by_cases h2 : len * s ≤ 16777216
          · rw [if_pos ⟨h1.1, h1.2, h2⟩, if_pos h2]
            have : arrp s = fun i => some (i * s, s) := rfl
            rw [this]
            cases fillL (fun i => some (i * s, s)) (zrep z len) vs <;> rfl
          · rw [if_neg (fun h => h2 h.2.2), if_neg h2]
        · rw [if_neg (fun h => h1 ⟨h.1, h.2.1⟩), if_neg h1]; rfl
@[go_sem] theorem zrep_zero (z : List Value) : zrep z 0 = [] := (rfl)
@[go_sem] theorem zrep_succ (z : List Value) (n : Nat) : zrep z (n + 1) = z ++ zrep z n := by simp [zrep, List.replicate_succ]

/-! ### lengths, conversions -/
@[go_sem] theorem alen_sl {P : Program} {t : TypeId} {a : Option Addr} {n e : Nat} (h : (tslice P t).isSome = true) : alen P t (.slice a n e) = some (.int .i64 n) := by
  simp only [alen]
  cases ht : tslice P t with
  | none => rw [ht] at h; cases h
  | some e => rfl
@[go_sem] theorem alen_str {P : Program} {t : TypeId} {s : ByteArray} (h : tstr P t = true) : alen P t (.string s) = some (.int .i64 s.size) := by simp [alen, h]
def acv (n : Int) : Option IntKind → Option Value
  | some k => some (.int k (k.wrap n))
  | none => none
@[go_sem] theorem acv_some {n : Int} {k : IntKind} : acv n (some k) = some (.int k (k.wrap n)) := (rfl)
@[go_sem] theorem aconv_int {P : Program} {s d : TypeId} {k : IntKind} {n : Int} (h : (P.underlying s).isSome = true) : aconv P s d (.int k n) = acv n (tkind P d) := by
  simp only [aconv]
  cases tkind P d <;> simp [acv, h]
@[go_sem] theorem amin_nil {big : Bool} {k : IntKind} {x : Int} : amin big (.int k x) [] = some (.int k x) := (rfl)
@[go_sem] theorem amin_cons {k k' : IntKind} {x y : Int} {r : List Value} : amin false (.int k x) (.int k' y :: r) = amin false (.int k (if y < x then y else x)) r := (rfl)
@[go_sem] theorem amax_cons {k k' : IntKind} {x y : Int} {r : List Value} : amin true (.int k x) (.int k' y :: r) = amin true (.int k (if x < y then y else x)) r := (rfl)
@[go_sem] theorem isSome_s {α : Type} (x : α) : (some x).isSome = true := (rfl)

/-! ### equality of aggregates -/
def teq (P : Program) (t : TypeId) : Option (List Lf) := if P.eqGuardType P.depth t = false ∧ tagg P t = some true then flatTy P 16 t else none
def aeq (neg : Bool) (xs ys : List Value) : Option (List Lf) → Option Value
  | some ks => match eqc ks xs ys with
    | some b => some (.bool (if neg then !b else b))
    | none => none
  | none => none
@[go_sem] theorem abin_eqla {P : Program} {t : TypeId} {xs ys : List Value} : abin P .eql t (.agg xs.toArray) (.agg ys.toArray) = aeq false xs ys (teq P t) := by
  simp only [abin, teq]
  split
  · cases flatTy P 16 t with
    | none => rfl
    | some ks => simp only [aeq]; cases eqc ks xs ys <;> rfl
  · rfl
@[go_sem] theorem abin_neqa {P : Program} {t : TypeId} {xs ys : List Value} : abin P .neq t (.agg xs.toArray) (.agg ys.toArray) = aeq true xs ys (teq P t) := by
  simp only [abin, teq]
  split
  · cases flatTy P 16 t with
    | none => rfl
    | some ks => simp only [aeq]; cases eqc ks xs ys <;> rfl
  · rfl
def obool (neg : Bool) : Option Bool → Option Value
  | some b => some (.bool (if neg then !b else b))
  | none => none
@[go_sem] theorem obool_f {b : Bool} : obool false (some b) = some (.bool b) := (rfl)
@[go_sem] theorem obool_t {b : Bool} : obool true (some b) = some (.bool (!b)) := (rfl)
@[go_sem] theorem aeq_some {neg : Bool} {xs ys : List Value} {ks : List Lf} : aeq neg xs ys (some ks) = obool neg (eqc ks xs ys) := by
  simp only [aeq]; cases eqc ks xs ys <;> rfl
def oand : Option Bool → Option Bool → Option Bool
  | some a, some b => some (a && b)
  | _, _ => none
@[go_sem] theorem oand_some {a b : Bool} : oand (some a) (some b) = some (a && b) := (rfl)
@[go_sem] theorem eqc_nil : eqc [] [] [] = some true := (rfl)
@[go_sem] theorem eqc_cons {l : Lf} {ls : List Lf} {x y : Value} {xs ys : List Value} : eqc (l :: ls) (x :: xs) (y :: ys) = oand (eq1 l x y) (eqc ls xs ys) := by
  simp only [eqc]; cases eq1 l x y <;> cases eqc ls xs ys <;> rfl
@[go_sem] theorem eq1_int {k : IntKind} {a b : Int} : eq1 .i (.int k a) (.int k b) = some (a == b) := by simp [eq1]
@[go_sem] theorem eq1_bool {a b : Bool} : eq1 .b (.bool a) (.bool b) = some (a == b) := (rfl)

/-! ### appends -/
def tapp (P : Program) (t : TypeId) : Option (Nat × Nat) := match tslice P t with
  | some e => match tsz P e, tby P e, tzero P e with
    | some s, some by_, some z => if 0 < s ∧ z.length = s ∧ by_ ≤ 1073741824 then some (s, by_) else none
    | _, _, _ => none
  | none => none
def apy (H : AH) (x : Value) (s by_ : Nat) : Option (List Value × Nat × List Nat) → Option (Value × AH × List Nat × List Nat)
  | some (cs, n, bs) => match x with
    | .slice none 0 0 => if n = 0 then some (.slice none 0 0, H, [], bs) else
        if n * by_ ≤ 70368744177664 ∧ n ≤ 70368744177664 then some (sl H.length 0 0 n s, H ++ [⟨cs, 0, true⟩], [], bs) else none
    | .slice (some ⟨_, _, none⟩) 0 _ => if n = 0 then some (x, H, [], bs) else
        if n * by_ ≤ 70368744177664 ∧ n ≤ 70368744177664 then some (sl H.length 0 0 n s, H ++ [⟨cs, 0, true⟩], [], bs) else none
    | .slice (some ⟨b, 0, some g⟩) len e0 =>
      match H[b]? with
      | some k =>
        if e0 = s ∧ g = k.gen ∧ k.rw = true ∧ len * s = k.cells.length then
          if n = 0 then some (x, H, [], b :: bs) else
          if (len + n) * by_ ≤ 70368744177664 ∧ len + n ≤ 70368744177664 then some (sl b 0 (g + 1) (len + n) s, H.set b ⟨k.cells ++ cs, g + 1, true⟩, [b], b :: bs) else none
        else none
      | none => none
    | _ => none
  | none => none
def apx (H : AH) (x y : Value) : Option (Nat × Nat) → Bool → Option (Value × AH × List Nat × List Nat)
  | some (s, by_), true => apy H x s by_ (asrc H s y)
  | _, _ => none
@[go_sem] theorem apx_some {H : AH} {x y : Value} {s by_ : Nat} : apx H x y (some (s, by_)) true = apy H x s by_ (asrc H s y) := (rfl)
@[go_sem] theorem aappend_x {P : Program} {H : AH} {t t' : TypeId} {x y : Value} : aappend P H t t' x y = apx H x y (tapp P t) (tslice P t').isSome := by
  simp only [aappend, tapp]
  cases tslice P t with
  | none => cases tslice P t' <;> rfl
  | some e =>
    cases tslice P t' with
    | none => simp only; cases tsz P e <;> cases tby P e <;> cases tzero P e <;> simp only [Option.isSome] <;> (try split) <;> rfl
    | some e' =>
      simp only
      cases tsz P e with
      | none => rfl
      | some s => cases tby P e with
        | none => rfl
        | some by_ => cases tzero P e with
          | none => rfl
          | some z =>
            simp only
            by_cases hc : 0 < s ∧ z.length = s ∧ by_ ≤ 1073741824
            · rw [if_pos hc]
              simp only [Option.isSome, apx]
              cases asrc H s y with
              | none => rfl
              | some r =>
                obtain ⟨cs, n, bs⟩ := r
                simp only [apy, if_pos hc]
                cases x with
                | slice a l e0 =>
                  cases a with
                  | none => cases l with
                    | zero => cases e0 <;> rfl
                    | succ l => rfl
                  | some a =>
                    obtain ⟨b, off, g⟩ := a
                    cases g with
                    | none => cases l <;> rfl
                    | some g => cases off <;> rfl
                | _ => rfl
            · rw [if_neg hc]
              cases asrc H s y with
              | none => rfl
              | some r => obtain ⟨cs, n, bs⟩ := r; simp only [if_neg hc]; rfl
@[go_sem] theorem apy_nil {H : AH} {s by_ n : Nat} {cs : List Value} {bs : List Nat} (h0 : (n = 0) = False) (h1 : n * by_ - 70368744177664 = 0) (h2 : n - 70368744177664 = 0) :
    apy H (.slice none 0 0) s by_ (some (cs, n, bs)) = some (sl H.length 0 0 n s, H ++ [⟨cs, 0, true⟩], [], bs) := by
  have : ¬ n = 0 := fun e => by rw [h0] at e; exact e
  have h3 : n * by_ ≤ 70368744177664 ∧ n ≤ 70368744177664 := by omega
  simp [apy, this, h3]
@[go_sem] theorem apy_nil0 {H : AH} {s by_ : Nat} {cs : List Value} {bs : List Nat} : apy H (.slice none 0 0) s by_ (some (cs, 0, bs)) = some (.slice none 0 0, H, [], bs) := (rfl)
theorem apy_blk {H : AH} {s by_ n b g len : Nat} {cs cells : List Value} {bs : List Nat} (hk : H[b]? = some ⟨cells, g, true⟩) (hl : len * s = cells.length) (h0 : ¬ n = 0) (h1 : (len + n) * by_ ≤ 70368744177664) (h2 : len + n ≤ 70368744177664) :
    apy H (.slice (some ⟨b, 0, some g⟩) len s) s by_ (some (cs, n, bs)) = some (sl b 0 (g + 1) (len + n) s, H.set b ⟨cells ++ cs, g + 1, true⟩, [b], b :: bs) := by
  simp [apy, hk, hl, h0, h1, h2]
theorem apy_blk0 {H : AH} {s by_ b g len : Nat} {cs cells : List Value} {bs : List Nat} (hk : H[b]? = some ⟨cells, g, true⟩) (hl : len * s = cells.length) :
    apy H (.slice (some ⟨b, 0, some g⟩) len s) s by_ (some (cs, 0, bs)) = some (sl b 0 g len s, H, [], b :: bs) := by
  simp [apy, hk, hl]
def asy (s b off g n : Nat) : Option Blk → Option (List Value × Nat × List Nat)
  | some k => if n = 0 then some ([], 0, []) else if g = k.gen ∧ off + n * s ≤ k.cells.length then some ((k.cells.drop off).take (n * s), n, [b]) else none
  | none => if n = 0 then some ([], 0, []) else none
@[go_sem] theorem asrc_nil {H : AH} {s : Nat} : asrc H s (.slice none 0 0) = some ([], 0, []) := (rfl)
@[go_sem] theorem asrc_sl {H : AH} {s b off g n : Nat} : asrc H s (.slice (some ⟨b, off, some g⟩) n s) = asy s b off g n H[b]? := by
  simp only [asrc, if_true, asy]
  cases H[b]? <;> rfl
@[go_sem] theorem asy_some {s b off g n : Nat} {cells : List Value} {rw_ : Bool} (h0 : (n = 0) = False) (h1 : off + n * s - cells.length = 0) : asy s b off g n (some ⟨cells, g, rw_⟩) = some ((cells.drop off).take (n * s), n, [b]) := by
  have : ¬ n = 0 := fun e => by rw [h0] at e; exact e
  have h3 : off + n * s ≤ cells.length := by omega
  simp [asy, this, h3]
@[go_sem] theorem asy_zero {s b off g : Nat} {k : Option Blk} : asy s b off g 0 k = some ([], 0, []) := by cases k <;> rfl

/-! ### drawn regions -/
def isW : Op → Bool
  | .store .. => true
  | .call ⟨.builtin .append, _, _⟩ => true
  | _ => false
/-- No call of a region writes what was there. -/
def quietL : List Oper → List Foot → Prop
  | o :: os, F :: Fs => (isW o.op = true ∨ F.w = []) ∧ quietL os Fs
  | _, _ => True
/-- What writes has an order with all others; what only reckons has none to keep. -/
def isP : Op → Bool
  | .move _ | .assign _ | .pick .. | .alloc _ | .box .. | .build .. | .buildSlice .. | .nilCheck _ | .binOp .. | .unOp .. | .convert .. | .makeFunc .. | .makeSlice .. | .fieldAddr .. | .field .. | .indexAddr .. | .index .. | .extract .. => true
  | .call ⟨.builtin .len, _, _⟩ | .call ⟨.builtin .min, _, _⟩ | .call ⟨.builtin .max, _, _⟩ => true
  | _ => false

end Go.Proofs.Ythoclopeajkcpaa.E
