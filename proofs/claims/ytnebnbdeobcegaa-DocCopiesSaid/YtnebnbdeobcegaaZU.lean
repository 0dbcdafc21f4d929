/- Merged texts: DocF DocG. -/
import Derived.Test.YtnebnbdeobcegaaZT
/- Documents: the plain law on parents that lead on without end. -/
namespace Go.Proofs.Ytnebnbdeobcegaa
open Go Go.RowKit E
set_option linter.unusedSimpArgs false
set_option linter.unusedVariables false
def lyDs (ps : List Int) : List Ly := ps.map fun p => lyD p 1
theorem lyDs_parents (ps : List Int) : Ly.parents (lyDs ps) = ps := by
  unfold Ly.parents lyDs
  rw [List.map_map]
  have : ((fun x => Ly.parent x) ∘ fun p => lyD p 1) = id := rfl
  rw [this, List.map_id]
theorem lyDs_len (ps : List Int) : (lyDs ps).length = ps.length := by unfold lyDs; rw [List.length_map]
theorem layerB_D (p : Int) : layerB (lyD p 1) = true := rfl
theorem treeB_D {ps : List Int} {k : Nat} {p : Int} (hp : ps[k]? = some p) (hb : -1 ≤ p ∧ p < ps.length) : treeB [lyDs ps] 0 k (lyDs ps) (lyD p 1) = !ringsB ps k := by
  unfold treeB
  rw [lyDs_parents, lyDs_len]
  have h1 : (((lyD p 1).parent != -1) && !(decide (0 ≤ (lyD p 1).parent) && decide ((lyD p 1).parent < (ps.length : Int)))) = false := by
    show ((p != -1) && !(decide (0 ≤ p) && decide (p < (ps.length : Int)))) = false
    by_cases h : p = -1
    · rw [nt h]; rfl
    · rw [nf h, dt (show 0 ≤ p by omega), dt hb.2]; rfl
  have h2 : ((lyD p 1).matte != 0) = false := rfl
  have h3 : ((lyD p 1).kind == 1) = false := rfl
  rw [h1, h2, h3]; simp
theorem lysE_D {ps : List Int} (hb : ∀ p ∈ ps, -1 ≤ p ∧ p < ps.length) : ∀ (m k : Nat), k + m = ps.length → lysE [lyDs ps] 0 (lyDs ps) k ((lyDs ps).drop k) = if ((List.range m).any fun j => ringsB ps (k + j)) = true then 15 else 0
  | 0, k, h => by
    rw [List.drop_eq_nil_of_le (by rw [lyDs_len]; omega)]; rfl
  | m + 1, k, h => by
    obtain ⟨p, hp⟩ : ∃ p, ps[k]? = some p := ⟨_, List.getElem?_eq_getElem (by omega)⟩
    have hl : (lyDs ps)[k]? = some (lyD p 1) := by unfold lyDs; rw [List.getElem?_map, hp]; rfl
    rw [drop_at hl, lysE, layerB_D, if_neg (by decide), treeB_D hp (hb p (List.mem_of_getElem? hp)), lysE_D hb m (k + 1) (by omega)]
    have e : ((List.range (m + 1)).any fun j => ringsB ps (k + j)) = (ringsB ps k || (List.range m).any fun j => ringsB ps (k + 1 + j)) := by
      rw [List.range_succ_eq_map, List.any_cons, List.any_map]
      congr 1
      congr 1
      funext j
      show ringsB ps (k + (j + 1)) = ringsB ps (k + 1 + j)
      congr 1; omega
    rw [e]
    cases ringsB ps k
    · rw [Bool.not_false, if_neg (by decide), Bool.false_or]
    · rw [Bool.not_true, if_pos rfl, Bool.true_or, if_pos rfl]
theorem inn_D (r : List Int) (c n : Nat) (p : Int) : innF r c n (lyD p 1) = 0 := by
  unfold innF; rw [if_neg (fun h => absurd h.1 (by show ¬ (0 : Int) = 1; decide))]
theorem fold_dep (r : List Int) (c n : Nat) : ∀ (ps : List Int), (lyDs ps).foldl (fun n' l => depF n' l (innF r c n l)) 1 = 1
  | [] => rfl
  | p :: t => by
    show ((lyDs t).foldl (fun n' l => depF n' l (innF r c n l)) (depF 1 (lyD p 1) (innF r c n (lyD p 1)))) = 1
    rw [inn_D]; exact fold_dep r c n t
theorem fold_nod (r : List Int) (c n : Nat) : ∀ (ps : List Int) (z : Int), (lyDs ps).foldl (fun n' l => nodF n' l (innF r c n l)) z ≤ z + 2 * (ps.length : Int)
  | [], z => by show z ≤ z + 2 * 0; omega
  | p :: t, z => by
    show ((lyDs t).foldl (fun n' l => nodF n' l (innF r c n l)) (nodF z (lyD p 1) (innF r c n (lyD p 1)))) ≤ _
    have h := fold_nod r c n t (nodF z (lyD p 1) (innF r c n (lyD p 1)))
    have h2 : nodF z (lyD p 1) (innF r c n (lyD p 1)) ≤ z + 2 := by
      unfold nodF mnI
      rw [if_pos (show (lyD p 1).kind = 0 from rfl)]
      split <;> omega
    rw [List.length_cons]; omega
theorem parents_law (ps : List Int) (hl : ps.length ≤ 10) (hb : ∀ p ∈ ps, -1 ≤ p ∧ p < ps.length) : rightE ⟨0, 1, [lyDs ps]⟩ = if ((List.range ps.length).any fun j => decide (0 ≤ chn ps j (ps.length + 1))) = true then 15 else 0 := by
  have hs : sizeB [lyDs ps] = false := by
    unfold sizeB
    simp only [List.any_cons, List.any_nil, lyDs_len, Bool.or_false]
    rw [df (show ¬ (16 : Int) < (ps.length : Int) by omega)]; rfl
  have hly := lysE_D hb ps.length 0 (by omega)
  rw [List.drop_zero] at hly
  have hco : cosE [lyDs ps] 0 [lyDs ps] = lysE [lyDs ps] 0 (lyDs ps) 0 (lyDs ps) := by
    show (if ¬ lysE [lyDs ps] 0 (lyDs ps) 0 (lyDs ps) = 0 then lysE [lyDs ps] 0 (lyDs ps) 0 (lyDs ps) else 0) = _
    by_cases h : lysE [lyDs ps] 0 (lyDs ps) 0 (lyDs ps) = 0
    · rw [if_neg (fun hh => hh h), h]
    · rw [if_pos h]
  have hring : ((List.range ps.length).any fun j => ringsB ps (0 + j)) = ((List.range ps.length).any fun j => decide (0 ≤ chn ps j (ps.length + 1))) := by
    rw [Bool.eq_iff_iff, List.any_eq_true, List.any_eq_true]
    have hlaw := ring_law ps (fun p hp => (hb p hp).2)
    constructor
    · rintro ⟨k, hk, hr⟩
      rw [List.mem_range] at hk
      rw [Nat.zero_add] at hr
      obtain ⟨i, hi, hc⟩ := hlaw.2 ⟨k, hk, (ringsB_iff ps k hk).1 hr⟩
      exact ⟨i, List.mem_range.2 hi, decide_eq_true hc⟩
    · rintro ⟨i, hi, hc⟩
      rw [List.mem_range] at hi
      obtain ⟨k, hk, hr⟩ := hlaw.1 ⟨i, hi, of_decide_eq_true hc⟩
      exact ⟨k, List.mem_range.2 hk, by rw [Nat.zero_add]; exact (ringsB_iff ps k hk).2 hr⟩
  rw [hring] at hly
  unfold rightE
  show (if sizeB [lyDs ps] = true then _ else _) = _
  rw [hs, if_neg (by decide)]
  have ht : (!tickB 0 || !tickB 1 || decide ((1 : Int) ≤ 0)) = false := by decide
  show (if (!tickB 0 || !tickB 1 || decide ((1 : Int) ≤ 0)) = true then _ else _) = _
  rw [ht, if_neg (by decide)]
  show (if ¬ cosE [lyDs ps] 0 [lyDs ps] = 0 then cosE [lyDs ps] 0 [lyDs ps] else if 4 < deepE [lyDs ps] 0 ∨ 256 < nodesE [lyDs ps] 0 then 24 else 0) = _
  rw [hco, hly]
  cases ((List.range ps.length).any fun j => decide (0 ≤ chn ps j (ps.length + 1))) with
  | true => rw [if_pos rfl, if_pos (by decide)]
  | false =>
    have e0 : (if false = true then (15 : Int) else 0) = 0 := rfl
    rw [e0]
    have h1 : deepE [lyDs ps] 0 = 1 := by
      show (lyDs ps).foldl (fun n' l => depF n' l (innF [] 0 0 l)) 1 = 1
      exact fold_dep _ _ _ ps
    have h2 : nodesE [lyDs ps] 0 ≤ 20 := by
      have := fold_nod [] 0 0 ps 0
      show (lyDs ps).foldl (fun n' l => nodF n' l (innF [] 0 0 l)) 0 ≤ 20
      omega
    rw [if_neg (show ¬ ¬ (0 : Int) = 0 from fun h => h rfl), if_neg (by omega)]
end Go.Proofs.Ytnebnbdeobcegaa
/- Documents: the walk of the law on parents. -/
namespace Go.Proofs.Ytnebnbdeobcegaa
open Go Go.RowKit E
attribute [local irreducible] XRun XOps XCode XCal XLoop XQ SemCall
set_option linter.unusedSimpArgs false
set_option linter.unusedVariables false
abbrev ns : Value := .slice none 0 0
abbrev lyDC (p o : Int) : List Value := lyVs (lyD p o) ns ns ns ns ns ns ns ns ns ns ns ns ns ns ns ns ns ns
theorem tmod_b (a m : Int) (h : 0 < m) : -m < a.tmod m ∧ a.tmod m < m := by
  have h1 := Int.tmod_lt_of_pos a h
  have h2 : -m < a.tmod m := by
    have := Int.tmod_lt_of_pos (-a) h
    rw [Int.neg_tmod] at this; omega
  exact ⟨h2, h1⟩
theorem tmod_p (a m : Int) (h : 0 < m) (h0 : 0 ≤ a) : 0 ≤ a.tmod m ∧ a.tmod m < m := ⟨Int.tmod_nonneg m h0, Int.tmod_lt_of_pos a h⟩
set_option maxHeartbeats 4000000 in
theorem dparents (lv : Value) (ls : List Int) (t : Nat) (H : AH) (h : Ints H t lv ls) (hI : ∀ x ∈ ls, I64 x) : SemCall Try.prog 4 [lv] H (.bool true) H [] := by
  refine pure_of ?_ rfl
  have hlen := h.len
  obtain ⟨la, le, hlv⟩ := h.form
  subst hlv
  obtain ⟨n, hn, hnl, hn2⟩ : ∃ n : Nat, (n : Int) = (if 10 < (ls.length : Int) then 10 else (ls.length : Int)) ∧ n ≤ ls.length ∧ n ≤ 10 := by
    by_cases h : 10 < (ls.length : Int)
    · exact ⟨10, by rw [if_pos h]; rfl, by omega, by omega⟩
    · exact ⟨ls.length, by rw [if_neg h], by omega, by omega⟩
  refine XCal.of hm Try.func4 rfl (fun xs w => Try.call4 xs w) Try.ntmps4 Try.results4 rfl ?_
  simp only [go_sem, Nat.reduceEqDiff, Nat.reduceAdd, Nat.reduceSub, Nat.reduceMul, Nat.reduceLT, Nat.reduceLeDiff, Int.reducePow, Int.reduceBEq, Int.reduceBNe, Int.reduceDiv, Int.reduceMod, Int.reduceEq, Int.reduceLT, Int.reduceLE, Int.reduceAdd, Int.reduceSub, Int.reduceMul, Int.reduceNeg, Int.reduceToNat, Int.reduceTDiv, Int.reduceTMod, ↓reduceIte, ← hn]
  have g0 : (H ++ [(⟨[ns], 0, true⟩ : Blk)])[H.length]? = some ⟨[ns], 0, true⟩ := by rw [hget_app0]; rfl
  refine keep (fun r T K D => D = [] ∧ ∃ (i : Nat) (ps : List Int) (slv : Value), i + r = n ∧ ps.length = i ∧ (∀ p ∈ ps, -1 ≤ p ∧ p < (n : Int)) ∧ Old H K ∧ H.length + 1 ≤ K.length ∧ K[H.length]? = some ⟨[slv], 0, true⟩ ∧ MkRow 50 LyE (H.length + 1) K slv (lyDs ps) ∧ T 0 = .slice la ls.length le ∧ T 3 = .int .i64 (n : Int) ∧ T 4 = ap H.length 0 0 ∧ T 5 = .int .i64 (i : Int)) n
    ⟨rfl, 0, [], ns, by omega, rfl, (fun p hp => by cases hp), Old.app' _ _, by simp, g0, .inl ⟨rfl, rfl⟩, by (refine sg trivial ?_; try exact ⟨⟩), by (refine sg trivial ?_; try exact ⟨⟩), by (refine sg trivial ?_; try exact ⟨⟩), by (refine sg trivial ?_; try exact ⟨⟩) <;> rfl⟩ ?_
  clear g0
  rintro r T K D ⟨rfl, i, ps, slv, hir, hpl, hpb, hold, hKl, hs, hM, t0, t3, t4, t5⟩
  have kd : ∀ n, decide (K.length + n < H.length) = false := fun n => df (by omega)
  have kd0 : decide (K.length < H.length) = false := df (by omega)
  have kdh : decide (H.length < H.length) = false := df (by omega)
  by_cases hi : i < n
  · obtain ⟨b, g, rest, rw_, hve, _, hb, _⟩ := h.ne (fun e => by rw [e] at hnl; simp at hnl; omega)
    obtain ⟨x, hx⟩ : ∃ x, ls[i]? = some x := ⟨_, List.getElem?_eq_getElem (by omega)⟩
    have hxI := hI x (List.mem_of_getElem? hx)
    have kb := hold _ _ hb
    have hg : (intC ls ++ rest)[i]? = some (.int .i64 x) := by rw [List.getElem?_append_left (by rw [dintC_len]; omega)]; exact dint_get hx
    rw [hve] at t0
    have q0 : (0 : Int) ≤ (i : Int) := by omega
    have q1 : (i : Int) < (n : Int) := by omega
    have q2 : (i : Int) < (ls.length : Int) := by omega
    have w1 : IntKind.i64.wrap ((n : Int) + 1) = (n : Int) + 1 := wi (by omega) (by omega)
    have w2 : IntKind.i64.wrap ((i : Int) + 1) = ((i + 1 : Nat) : Int) := by rw [wi (by omega) (by omega)]; rfl
    have b1 := tmod_b x ((n : Int) + 1) (by omega)
    have w3 : IntKind.i64.wrap (x.tmod ((n : Int) + 1) + (n : Int)) = x.tmod ((n : Int) + 1) + (n : Int) := wi (by omega) (by omega)
    have w4 : IntKind.i64.wrap (x.tmod ((n : Int) + 1) + (n : Int) + 1) = x.tmod ((n : Int) + 1) + (n : Int) + 1 := wi (by omega) (by omega)
    have b2 := tmod_p (x.tmod ((n : Int) + 1) + (n : Int) + 1) ((n : Int) + 1) (by omega) (by omega)
    have w5 : IntKind.i64.wrap ((x.tmod ((n : Int) + 1) + (n : Int) + 1).tmod ((n : Int) + 1) - 1) = (x.tmod ((n : Int) + 1) + (n : Int) + 1).tmod ((n : Int) + 1) - 1 := wi (by omega) (by omega)
    have z0 : ((n : Int) + 1 = 0) = False := eq_false (by omega)
    (refine sg (et t0 (et t3 (et t4 (et t5 (et (dt q1) (et q0 (et q2 (et Int.toNat_natCast (et Nat.zero_add (et Nat.mul_one (et kb (et hg (et w1 (et z0 (et w3 (et w4 w5)))))))))))))))) ?_; try exact ⟨⟩)
    have b3 : -1 ≤ (x.tmod ((n : Int) + 1) + (n : Int) + 1).tmod ((n : Int) + 1) - 1 ∧ (x.tmod ((n : Int) + 1) + (n : Int) + 1).tmod ((n : Int) + 1) - 1 < (n : Int) := by omega
    clear w3 w4 w5 b1 b2
    generalize (x.tmod ((n : Int) + 1) + (n : Int) + 1).tmod ((n : Int) + 1) - 1 = P at *
    obtain ⟨P', hP, hPb⟩ : ∃ P' : Int, ((P = (i : Int) ∧ P' = -1) ∨ (¬ P = (i : Int) ∧ P' = P)) ∧ -1 ≤ P' ∧ P' < (n : Int) := by
      by_cases h : P = (i : Int)
      · exact ⟨-1, .inl ⟨h, rfl⟩, by omega, by omega⟩
      · exact ⟨P, .inr ⟨h, rfl⟩, by omega, by omega⟩
    have hps : ∀ p ∈ ps ++ [P'], -1 ≤ p ∧ p < (n : Int) := fun p hp => (List.mem_append.1 hp).elim (hpb p) (fun h => by rw [List.mem_singleton.1 h]; exact hPb)
    have hly : lyDs (ps ++ [P']) = lyDs ps ++ [lyD P' 1] := by unfold lyDs; rw [List.map_append]; rfl
    have hpl' : (ps ++ [P']).length = i + 1 := by rw [List.length_append, hpl]; rfl
    have hdl : (lyDs ps).length = i := by rw [lyDs_len, hpl]
    rcases hM with ⟨hm1, hm2⟩ | ⟨bo, go, cs, hbo, hsv, hkb, hcs, hel⟩
    · rw [hm2] at hs
      have hi0 : i = 0 := by rw [← hdl, hm1]; rfl
      have s2 : ∀ (X : Blk) L n, (K.set H.length X ++ L)[K.length + n]? = L[n]? := fun X L n => by rw [show K.length = (K.set H.length X).length by simp, hget_app]
      have fin : MkRow 50 LyE (H.length + 1) (K.set H.length ⟨[sl (K.length + 1) 0 0 1 50], 0, true⟩ ++ [⟨lyDC P' 1, 0, true⟩, ⟨lyDC P' 1, 0, true⟩]) (sl (K.length + 1) 0 0 1 50) (lyDs (ps ++ [P'])) := by
        rw [hly, hm1, List.nil_append]
        exact MkRow.first (c := lyDC P' 1) (fun J _ => lyD_E P' 1 J) rfl (by rw [s2]; rfl) (by omega)
      rcases hP with ⟨hP, rfl⟩ | ⟨hP, rfl⟩
      · (refine sg (et t0 (et t3 (et t4 (et t5 (et (bt hP) (et hs (et (old_get hs) (et (old_set hs) (et kd (et kd0 (et kdh w2))))))))))) ?_; try exact ⟨⟩)
        exact ⟨r - 1, by omega, i + 1, ps ++ [-1], _, by omega, hpl', hps, hold.set (Nat.le_refl _) _ _, by omega, old_sget hs _ _, fin, hve.symm, rfl⟩
      · (refine sg (et t0 (et t3 (et t4 (et t5 (et (bf hP) (et hs (et (old_get hs) (et (old_set hs) (et kd (et kd0 (et kdh w2))))))))))) ?_; try exact ⟨⟩)
        exact ⟨r - 1, by omega, i + 1, ps ++ [P'], _, by omega, hpl', hps, hold.set (Nat.le_refl _) _ _, by omega, old_sget hs _ _, fin, hve.symm, rfl⟩
    · rw [hsv, hdl] at hs
      rw [hdl] at hsv hcs
      have hlb := (List.getElem?_eq_some_iff.1 hkb).1
      have hlh := (List.getElem?_eq_some_iff.1 hs).1
      have hfl := flatten_len (RowOf.all (l := lyDs ps) (by rw [hcs, hdl]) hel)
      rw [hcs] at hfl
      have f1 : ∀ P L, (K.set bo P ++ L)[H.length]? = some ⟨[sl bo 0 go i 50], 0, true⟩ := fun P L => by
        refine old_get ?_ L
        rw [List.getElem?_set_ne (by omega)]; exact hs
      have f2 : ∀ P Y L, (K.set bo P ++ L).set H.length Y = (K.set bo P).set H.length Y ++ L := fun P Y L => List.set_append_left _ _ (by simpa using hlh)
      have db : decide (bo < H.length) = false := df (by omega)
      have hsm : ∀ B : Nat, B ≤ 10000 → (i + 1) * B - 140737488355328 = 0 := fun B hB => Nat.sub_eq_zero_of_le (Nat.le_trans (Nat.mul_le_mul (show i + 1 ≤ 11 by omega) hB) (by decide))
      have hsm2 : i + 1 - 140737488355328 = 0 := Nat.sub_eq_zero_of_le (Nat.le_trans (show i + 1 ≤ 11 by omega) (by decide))
      have fin : MkRow 50 LyE (H.length + 1) ((K.set bo ⟨cs.flatten ++ lyDC P' 1, go + 1, true⟩).set H.length ⟨[sl bo 0 (go + 1) (i + 1) 50], 0, true⟩ ++ [⟨lyDC P' 1, 0, true⟩]) (sl bo 0 (go + 1) (i + 1) 50) (lyDs (ps ++ [P'])) := by
        rw [hly, ← f2]
        have h1 := MkRow.next (n0 := H.length + 1) (K := K) (J := K.set bo ⟨cs.flatten ++ lyDC P' 1, go + 1, true⟩ ++ [⟨lyDC P' 1, 0, true⟩]) (g' := go + 1) (x := lyD P' 1) hbo (by rw [hcs, hdl]) hel (Olx.set1 _ _ _ _) (fun J _ => lyD_E P' 1 J) rfl (old_sget hkb _ _)
        rw [hdl] at h1
        exact h1.olt (Olx.set0 _ _ _) (Nat.lt_succ_self _)
      rcases hP with ⟨hP, rfl⟩ | ⟨hP, rfl⟩
      · (refine sg (et t0 (et t3 (et t4 (et t5 (et (bt hP) (et hs (et (old_get hs) (et (old_set hs) (et (old_get hkb) (et (old_set hkb) (et f1 (et f2 (et hfl (et (hsm 608 (by decide)) (et hsm2 (et db (et kd (et kd0 (et kdh w2))))))))))))))))))) ?_; try exact ⟨⟩)
        exact ⟨r - 1, by omega, i + 1, ps ++ [-1], _, by omega, hpl', hps, fun c k e => old_get (by have := (List.getElem?_eq_some_iff.1 e).1; rw [List.getElem?_set_ne (by omega), List.getElem?_set_ne (by omega)]; exact hold _ _ e) _, by omega, old_get (List.getElem?_set_self (by simpa using hlh)) _, fin, hve.symm, rfl⟩
      · (refine sg (et t0 (et t3 (et t4 (et t5 (et (bf hP) (et hs (et (old_get hs) (et (old_set hs) (et (old_get hkb) (et (old_set hkb) (et f1 (et f2 (et hfl (et (hsm 608 (by decide)) (et hsm2 (et db (et kd (et kd0 (et kdh w2))))))))))))))))))) ?_; try exact ⟨⟩)
        exact ⟨r - 1, by omega, i + 1, ps ++ [P'], _, by omega, hpl', hps, fun c k e => old_get (by have := (List.getElem?_eq_some_iff.1 e).1; rw [List.getElem?_set_ne (by omega), List.getElem?_set_ne (by omega)]; exact hold _ _ e) _, by omega, old_get (List.getElem?_set_self (by simpa using hlh)) _, fin, hve.symm, rfl⟩
  · have hin : i = n := by omega
    subst hin
    have hpn : ps.length = i := hpl
    have hLs : Lys K slv (lyDs ps) := (hM.dep (by rw [lyDs_len]; omega)).here
    have hdl : (lyDs ps).length = i := by rw [lyDs_len, hpl]
    have hpb' : ∀ p ∈ ps, -1 ≤ p ∧ p < (ps.length : Int) := fun p hp => by rw [hpl]; exact hpb p hp
    have hlaw := parents_law ps (by omega) hpb'
    (refine sg (et t0 (et t3 (et t4 (et t5 (df (show ¬ (i : Int) < (i : Int) by omega)))))) ?_; try exact ⟨⟩)
    have q0 : ∀ x : Nat, (0 : Int) ≤ (x : Int) := fun x => by omega
    have hany : ∀ m : Nat, ((List.range (m + 1)).any fun j => decide (0 ≤ chn ps j (i + 1))) = (((List.range m).any fun j => decide (0 ≤ chn ps j (i + 1))) || decide (0 ≤ chn ps m (i + 1))) := fun m => by
      rw [List.range_succ, List.any_append, List.any_cons, List.any_nil, Bool.or_false]
    refine keep (fun r T J D => D = [] ∧ K = J ∧ ∃ m : Nat, m + r = i ∧ T 3 = .int .i64 (i : Int) ∧ T 4 = ap H.length 0 0 ∧ T 7 = .bool ((List.range m).any fun j => decide (0 ≤ chn ps j (i + 1))) ∧ T 8 = .int .i64 (m : Int)) i
      ⟨rfl, rfl, 0, by omega, by (refine sg t3 ?_; try exact ⟨⟩), by (refine sg t4 ?_; try exact ⟨⟩), by (refine sg trivial ?_; try exact ⟨⟩) <;> rfl, by (refine sg trivial ?_; try exact ⟨⟩) <;> rfl⟩ ?_
    clear t0 t3 t4 t5
    rintro r T J D ⟨rfl, rfl, m, hmr, t3, t4, t7, t8⟩
    by_cases hm' : m < i
    · have w1 : IntKind.i64.wrap ((m : Int) + 1) = ((m + 1 : Nat) : Int) := by rw [wi (by omega) (by omega)]; rfl
      (refine sg (et t3 (et t4 (et t7 (et t8 (dt (show (m : Int) < (i : Int) by omega)))))) ?_; try exact ⟨⟩)
      have fin : ∀ (T : Env) (a : Int), T 3 = .int .i64 (i : Int) → True := fun _ _ _ => trivial
      clear fin
      obtain ⟨Q, hQ⟩ : ∃ Q, ((List.range m).any fun j => decide (0 ≤ chn ps j (i + 1))) = Q := ⟨_, rfl⟩
      have hany' := hany m
      rw [hQ] at t7 hany'
      refine keep (fun r' T J D => D = [] ∧ K = J ∧ ∃ k : Nat, k + r' = i + 1 ∧ T 3 = .int .i64 (i : Int) ∧ T 4 = ap H.length 0 0 ∧ T 7 = .bool Q ∧ T 8 = .int .i64 (m : Int) ∧ T 9 = .int .i64 (chn ps m k) ∧ T 10 = .int .i64 (k : Int)) (i + 1)
        ⟨rfl, rfl, 0, by omega, by (refine sg t3 ?_; try exact ⟨⟩), by (refine sg t4 ?_; try exact ⟨⟩), by (refine sg t7 ?_; try exact ⟨⟩), by (refine sg t8 ?_; try exact ⟨⟩), by (refine sg trivial ?_; try exact ⟨⟩) <;> rfl, by (refine sg trivial ?_; try exact ⟨⟩) <;> rfl⟩ ?_
      clear t3 t4 t7 t8
      rintro r' T J D ⟨rfl, rfl, k, hkr, t3, t4, t7, t8, t9, t10⟩
      have hchl := chn_lt (ps := ps) (fun p hp => (hpb' p hp).2) (i := (m : Int)) (by omega) k
      by_cases hk : k ≤ i
      · by_cases ha : 0 ≤ chn ps m k
        · have hstep : chn ps m (k + 1) = (ps[(chn ps m k).toNat]?).getD (-1) := by
            show (if 0 ≤ chn ps m k then _ else _) = _
            rw [if_pos ha]
          generalize chn ps m k = a at *
          obtain ⟨a', rfl⟩ : ∃ a' : Nat, a = (a' : Int) := ⟨a.toNat, by omega⟩
          obtain ⟨p, hp⟩ : ∃ p, ps[a']? = some p := ⟨_, List.getElem?_eq_getElem (by omega)⟩
          obtain ⟨b, g, cells, rw_, hve, hb, hcp, _⟩ := lys_cell hLs (i := a') (x := lyD p 1) (by unfold lyDs; rw [List.getElem?_map, hp]; rfl)
          rw [hdl] at hve
          rw [hve] at hs
          rw [Int.toNat_natCast, hp] at hstep
          have hcp : cells[a' * 50 + 1]? = some (.int .i64 p) := hcp
          have w2 : IntKind.i64.wrap ((k : Int) + 1) = ((k + 1 : Nat) : Int) := by rw [wi (by omega) (by omega)]; rfl
          have q3 : (a' : Int) < (i : Int) := by omega
          (refine sg (et t3 (et t4 (et t7 (et t8 (et t9 (et t10 (et (dt (show (k : Int) ≤ (i : Int) by omega)) (et (dt ha) (et hs (et q0 (et q3 (et Int.toNat_natCast (et Nat.zero_add (et hb (et hcp w2))))))))))))))) ?_; try exact ⟨⟩)
          exact ⟨r' - 1, by omega, k + 1, by omega, by rw [hstep]; rfl, rfl⟩
        · have hst : chn ps m (i + 1) = chn ps m k := by
            rw [show i + 1 = k + (i + 1 - k) by omega, chn_add, chn_neg (by omega)]
          rw [hst, df ha, Bool.or_false] at hany'
          cases Q
          all_goals
            (refine sg (et t3 (et t4 (et t7 (et t8 (et t9 (et t10 (et (dt (show (k : Int) ≤ (i : Int) by omega)) (et (df ha) w1)))))))) ?_; try exact ⟨⟩)
            exact ⟨r - 1, by omega, m + 1, by omega, by rw [hany'], rfl⟩
      · have hk1 : k = i + 1 := by omega
        subst hk1
        cases Q
        all_goals
          simp only [go_sem, Nat.reduceEqDiff, Nat.reduceAdd, Nat.reduceSub, Nat.reduceMul, Nat.reduceLT, Nat.reduceLeDiff, Int.reducePow, Int.reduceBEq, Int.reduceBNe, Int.reduceDiv, Int.reduceMod, Int.reduceEq, Int.reduceLT, Int.reduceLE, Int.reduceAdd, Int.reduceSub, Int.reduceMul, Int.reduceNeg, Int.reduceToNat, Int.reduceTDiv, Int.reduceTMod, ↓reduceIte, t3, t4, t7, t8, t9, t10, df (show ¬ ((i + 1 : Nat) : Int) ≤ (i : Int) by omega), w1]
          exact ⟨r - 1, by omega, m + 1, by omega, by rw [hany']; rfl, rfl⟩
    · have hm'' : m = i := by omega
      subst hm''
      simp only [go_sem, Nat.reduceEqDiff, Nat.reduceAdd, Nat.reduceSub, Nat.reduceMul, Nat.reduceLT, Nat.reduceLeDiff, Int.reducePow, Int.reduceBEq, Int.reduceBNe, Int.reduceDiv, Int.reduceMod, Int.reduceEq, Int.reduceLT, Int.reduceLE, Int.reduceAdd, Int.reduceSub, Int.reduceMul, Int.reduceNeg, Int.reduceToNat, Int.reduceTDiv, Int.reduceTMod, ↓reduceIte, t3, t4, t7, t8, df (show ¬ (m : Int) < (m : Int) by omega), hs]
      have hC : Cos (K ++ [(⟨[slv], 0, true⟩ : Blk)]) (sl K.length 0 0 1 1) [lyDs ps] := RowOf.one (c := [slv]) (by rw [hget_app0]; rfl) rfl ⟨_, rfl, hLs.old LyE.m (Old.app' _ _)⟩
      have c1 := dright_ ⟨0, 1, [lyDs ps]⟩ _ _ hC
      rw [hlaw, hpl] at c1
      generalize ((List.range m).any fun j => decide (0 ≤ chn ps j (m + 1))) = Q at *
      cases Q with
      | true =>
        rw [if_pos rfl] at c1
        refine c1.x ?_
        simp only [go_sem, Nat.reduceEqDiff, Nat.reduceAdd, Nat.reduceSub, Nat.reduceMul, Nat.reduceLT, Nat.reduceLeDiff, Int.reducePow, Int.reduceBEq, Int.reduceBNe, Int.reduceDiv, Int.reduceMod, Int.reduceEq, Int.reduceLT, Int.reduceLE, Int.reduceAdd, Int.reduceSub, Int.reduceMul, Int.reduceNeg, Int.reduceToNat, Int.reduceTDiv, Int.reduceTMod, ↓reduceIte, t3, t4, t7, t8, beq_self_eq_true]
        repeat ((first | refine (dknown_ _).x ?_ | refine drawnF ?_ (by decide +kernel)); simp only [go_sem, Nat.reduceEqDiff, Nat.reduceAdd, Nat.reduceSub, Nat.reduceMul, Nat.reduceLT, Nat.reduceLeDiff, Int.reducePow, Int.reduceBEq, Int.reduceBNe, Int.reduceDiv, Int.reduceMod, Int.reduceEq, Int.reduceLT, Int.reduceLE, Int.reduceAdd, Int.reduceSub, Int.reduceMul, Int.reduceNeg, Int.reduceToNat, Int.reduceTDiv, Int.reduceTMod, ↓reduceIte, t7, beq_self_eq_true])
      | false =>
        rw [if_neg (by decide)] at c1
        refine c1.x ?_
        simp only [go_sem, Nat.reduceEqDiff, Nat.reduceAdd, Nat.reduceSub, Nat.reduceMul, Nat.reduceLT, Nat.reduceLeDiff, Int.reducePow, Int.reduceBEq, Int.reduceBNe, Int.reduceDiv, Int.reduceMod, Int.reduceEq, Int.reduceLT, Int.reduceLE, Int.reduceAdd, Int.reduceSub, Int.reduceMul, Int.reduceNeg, Int.reduceToNat, Int.reduceTDiv, Int.reduceTMod, ↓reduceIte, t3, t4, t7, t8, beq_self_eq_true]
        repeat ((first | refine (dknown_ _).x ?_ | refine drawnF ?_ (by decide +kernel)); simp only [go_sem, Nat.reduceEqDiff, Nat.reduceAdd, Nat.reduceSub, Nat.reduceMul, Nat.reduceLT, Nat.reduceLeDiff, Int.reducePow, Int.reduceBEq, Int.reduceBNe, Int.reduceDiv, Int.reduceMod, Int.reduceEq, Int.reduceLT, Int.reduceLE, Int.reduceAdd, Int.reduceSub, Int.reduceMul, Int.reduceNeg, Int.reduceToNat, Int.reduceTDiv, Int.reduceTMod, ↓reduceIte, t7, beq_self_eq_true])
end Go.Proofs.Ytnebnbdeobcegaa
