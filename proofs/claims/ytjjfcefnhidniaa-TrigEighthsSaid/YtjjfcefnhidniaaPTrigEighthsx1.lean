-- PRINTED BY print.sh 35421559b90ae4d0a3588c463048766b98c2df88dd9212a6774a882060cdf62d: not written by this session
import Derived.Test.YtjjfcefnhidniaaPTrigEighthsx0
namespace Go.Proofs.Ytjjfcefnhidniaa.PTrigEighths
open Go.RowKit Go.Proofs.YtjjfcefnhidniaaW.PrintWords Go.Proofs.YtjjfcefnhidniaaW.PrintLast Go.Proofs.YtjjfcefnhidniaaW.PrintMore
attribute [local go_sem] max2_int min2_int max_two min_two max_three min_three max_four min_four   -- for this text's walks alone
set_option linter.unusedVariables false
set_option linter.unusedSimpArgs false

/-! ### trig_Turn: function 11 -/
def trig_Turn.f (a0 : Int) : Option (Int) := if (Int.tmod a0 23592960) < 0 then (some (wrap64 ((Int.tmod a0 23592960) + 23592960))) else (some (Int.tmod a0 23592960))
set_option maxHeartbeats 8000000 in
set_option maxRecDepth 100000 in
theorem trig_Turn.calls (a0 : Int) (r : Int) (w : World) (h : trig_Turn.f a0 = some r) :
    Calls Try.prog 11 #[.int .i64 a0] w fun e w' => e = .returned (.int .i64 r) ∧ Drawn0 w w' := by
  have H : (if (Int.tmod a0 23592960) < 0 then (some (wrap64 ((Int.tmod a0 23592960) + 23592960))) else (some (Int.tmod a0 23592960))) = some r := h
  clear h
  by_cases c2 : (Int.tmod a0 23592960) < 0
  · rw [if_pos c2] at H
    have c2b0 : decide ((Int.tmod a0 23592960) < 0) = true := decide_eq_true c2
    clear c2
    obtain rfl := Option.some.inj H
    go_enter Try.func11, Try.ntmps11
    go_wp2
    go_ret
    exact ⟨by first | rfl | (simp; done) | (simp [*]; done), by repeat (first | exact Drawn0.refl _ | apply Drawn0.step)⟩
  · rw [if_neg c2] at H
    have c2b0 : decide ((Int.tmod a0 23592960) < 0) = false := decide_eq_false c2
    clear c2
    obtain rfl := Option.some.inj H
    go_enter Try.func11, Try.ntmps11
    go_wp2
    go_ret
    exact ⟨by first | rfl | (simp; done) | (simp [*]; done), by repeat (first | exact Drawn0.refl _ | apply Drawn0.step)⟩

/-! ### trig_Sin: function 9 -/
def trig_Sin.f : Nat → Int → Option (Int)
  | 0, _ => none
  | k + 1, a0 => (trig_Turn.f a0).bind fun t101 => (if t101 ≥ 11796480 then ((trig_Sin.f k (wrap64 (t101 - 11796480))).bind fun t102 => (some (wrap64 (-t102)))) else (if (wrap64 (2654208000 - (wrap64 (Int.tdiv (wrap64 (t101 * (wrap64 (11796480 - t101)))) 65536)))) = 0 then (none) else (some (wrap64 (Int.tdiv (wrap64 ((wrap64 (4 * (wrap64 (Int.tdiv (wrap64 (t101 * (wrap64 (11796480 - t101)))) 65536)))) * 65536)) (wrap64 (2654208000 - (wrap64 (Int.tdiv (wrap64 (t101 * (wrap64 (11796480 - t101)))) 65536)))))))))
theorem trig_Sin.mono_l : ∀ k, (∀ y0, LeO (trig_Sin.f k y0) (trig_Sin.f (k + 1) y0))
  | 0 => fun _ r h => by simp [trig_Sin.f] at h
  | k + 1 => by
    have ih0 := trig_Sin.mono_l k
    · intro y0
      unfold trig_Sin.f
      repeat' first
      | (with_reducible exact ih0 _)
      | (with_reducible exact LeO.refl _)
      | (with_reducible exact LeO.none _)
      | (with_reducible refine LeO.ite ?_ ?_)
      | (with_reducible refine LeO.bind ?_ (fun _ => ?_))
      | exact ih0 _
      | exact LeO.none _
      | refine LeO.ite ?_ ?_
      | refine LeO.bind ?_ (fun _ => ?_)
theorem trig_Sin.mono : ∀ a0 k, LeO (trig_Sin.f k a0) (trig_Sin.f (k + 1) a0) := by
  intro a0 k
  have ih0 := trig_Sin.mono_l k
  exact ih0 a0
set_option maxHeartbeats 8000000 in
set_option maxRecDepth 100000 in
theorem trig_Sin.calls (k : Nat) : ∀ (a0 : Int) (r : Int) (w : World) (h : trig_Sin.f k a0 = some r),
    Calls Try.prog 9 #[.int .i64 a0] w fun e w' => e = .returned (.int .i64 r) ∧ Drawn0 w w' := by
  induction k using Nat.strongRecOn with
  | _ k ih =>
  intro a0 r w h
  cases k with
  | zero => exact absurd h (by simp [trig_Sin.f])
  | succ k =>
  simp only [trig_Sin.f] at h
  have H : ((trig_Turn.f a0).bind fun t101 => (if t101 ≥ 11796480 then ((trig_Sin.f k (wrap64 (t101 - 11796480))).bind fun t102 => (some (wrap64 (-t102)))) else (if (wrap64 (2654208000 - (wrap64 (Int.tdiv (wrap64 (t101 * (wrap64 (11796480 - t101)))) 65536)))) = 0 then (none) else (some (wrap64 (Int.tdiv (wrap64 ((wrap64 (4 * (wrap64 (Int.tdiv (wrap64 (t101 * (wrap64 (11796480 - t101)))) 65536)))) * 65536)) (wrap64 (2654208000 - (wrap64 (Int.tdiv (wrap64 (t101 * (wrap64 (11796480 - t101)))) 65536)))))))))) = some r := h
  clear h
  replace H := Option.bind_eq_some_iff.mp H
  obtain ⟨t101, A20, H⟩ := H
  replace H : (if t101 ≥ 11796480 then ((trig_Sin.f k (wrap64 (t101 - 11796480))).bind fun t102 => (some (wrap64 (-t102)))) else (if (wrap64 (2654208000 - (wrap64 (Int.tdiv (wrap64 (t101 * (wrap64 (11796480 - t101)))) 65536)))) = 0 then (none) else (some (wrap64 (Int.tdiv (wrap64 ((wrap64 (4 * (wrap64 (Int.tdiv (wrap64 (t101 * (wrap64 (11796480 - t101)))) 65536)))) * 65536)) (wrap64 (2654208000 - (wrap64 (Int.tdiv (wrap64 (t101 * (wrap64 (11796480 - t101)))) 65536))))))))) = some r := H
  have A2 := Aside0.mk A20
  clear A20
  by_cases c3 : t101 ≥ 11796480
  · rw [if_pos c3] at H
    have c3b0 : decide (11796480 ≤ t101) = true := decide_eq_true c3
    clear c3
    replace H := Option.bind_eq_some_iff.mp H
    obtain ⟨t102, A40, H⟩ := H
    replace H : (some (wrap64 (-t102))) = some r := H
    have A4 := Aside0.mk A40
    clear A40
    obtain rfl := Option.some.inj H
    go_enter Try.func9, Try.ntmps9
    go_wp2_with (first | ((with_reducible refine gate_callee (f := 11) rfl ?_); refine goesL_ (some 6) rfl rfl Try.func11 (by kernel_rfl) rfl #[.int .i64 a0] rfl (by (try simp only [List.map_toArray, List.map_cons, List.map_nil]); first | done | rfl | (simp only [List.length_drop, List.length_take]; rfl)) ?_; (with_reducible refine (trig_Turn.calls a0 t101 _ A2.out).mono ?_); rintro e w' ⟨rfl, ⟨nd, rfl⟩⟩; refine ⟨_, rfl, ?_⟩) | ((with_reducible refine gate_callee (f := 9) rfl ?_); refine goesL_ (some 11) rfl rfl Try.func9 (by kernel_rfl) rfl #[.int .i64 (wrap64 (t101 - 11796480))] rfl (by (try simp only [List.map_toArray, List.map_cons, List.map_nil]); first | done | rfl | (simp only [List.length_drop, List.length_take]; rfl)) ?_; (with_reducible refine (ih k (by omega) (wrap64 (t101 - 11796480)) t102 _ A4.out).mono ?_); rintro e w' ⟨rfl, ⟨nd, rfl⟩⟩; refine ⟨_, rfl, ?_⟩))
    go_ret
    exact ⟨by first | rfl | (simp; done) | (simp [*]; done), by repeat (first | exact Drawn0.refl _ | apply Drawn0.step)⟩
  · rw [if_neg c3] at H
    have c3b0 : decide (11796480 ≤ t101) = false := decide_eq_false c3
    clear c3
    by_cases c5 : (wrap64 (2654208000 - (wrap64 (Int.tdiv (wrap64 (t101 * (wrap64 (11796480 - t101)))) 65536)))) = 0
    · rw [if_pos c5] at H
      exact absurd H (by simp)
    · rw [if_neg c5] at H
      have c5b0 : ((wrap64 (2654208000 - (wrap64 (Int.tdiv (wrap64 (t101 * (wrap64 (11796480 - t101)))) 65536)))) == 0) = false := beq_eq_false_iff_ne.mpr c5
      have c5b1 : ((wrap64 (2654208000 - (wrap64 (Int.tdiv (wrap64 (t101 * (wrap64 (11796480 - t101)))) 65536)))) != 0) = true := bne_iff_ne.mpr c5
      obtain rfl := Option.some.inj H
      go_enter Try.func9, Try.ntmps9
      go_wp2_with (first | ((with_reducible refine gate_callee (f := 11) rfl ?_); refine goesL_ (some 6) rfl rfl Try.func11 (by kernel_rfl) rfl #[.int .i64 a0] rfl (by (try simp only [List.map_toArray, List.map_cons, List.map_nil]); first | done | rfl | (simp only [List.length_drop, List.length_take]; rfl)) ?_; (with_reducible refine (trig_Turn.calls a0 t101 _ A2.out).mono ?_); rintro e w' ⟨rfl, ⟨nd, rfl⟩⟩; refine ⟨_, rfl, ?_⟩))
      go_ret
      exact ⟨by first | rfl | (simp; done) | (simp [*]; done), by repeat (first | exact Drawn0.refl _ | apply Drawn0.step)⟩

/-! ### trig_Cos: function 10 -/
def trig_Cos.f (k : Nat) (a0 : Int) : Option (Int) := (trig_Turn.f a0).bind fun t103 => ((trig_Sin.f k (wrap64 (t103 + 5898240))).bind fun t104 => (some t104))
theorem trig_Cos.mono : ∀ a0 k, LeO (trig_Cos.f k a0) (trig_Cos.f (k + 1) a0) := by
  intro a0 k
  unfold trig_Cos.f
  repeat' first
      | (with_reducible exact trig_Sin.mono _ _)
      | (with_reducible exact LeO.refl _)
      | (with_reducible exact LeO.none _)
      | (with_reducible refine LeO.ite ?_ ?_)
      | (with_reducible refine LeO.bind ?_ (fun _ => ?_))
      | exact trig_Sin.mono _ _
      | exact LeO.none _
      | refine LeO.ite ?_ ?_
      | refine LeO.bind ?_ (fun _ => ?_)
set_option maxHeartbeats 8000000 in
set_option maxRecDepth 100000 in
theorem trig_Cos.calls (k : Nat) (a0 : Int) (r : Int) (w : World) (h : trig_Cos.f k a0 = some r) :
    Calls Try.prog 10 #[.int .i64 a0] w fun e w' => e = .returned (.int .i64 r) ∧ Drawn0 w w' := by
  have H : ((trig_Turn.f a0).bind fun t103 => ((trig_Sin.f k (wrap64 (t103 + 5898240))).bind fun t104 => (some t104))) = some r := h
  clear h
  replace H := Option.bind_eq_some_iff.mp H
  obtain ⟨t103, A20, H⟩ := H
  replace H : ((trig_Sin.f k (wrap64 (t103 + 5898240))).bind fun t104 => (some t104)) = some r := H
  have A2 := Aside0.mk A20
  clear A20
  replace H := Option.bind_eq_some_iff.mp H
  obtain ⟨t104, A30, H⟩ := H
  replace H : (some t104) = some r := H
  have A3 := Aside0.mk A30
  clear A30
  obtain rfl := Option.some.inj H
  go_enter Try.func10, Try.ntmps10
  go_wp2_with (first | ((with_reducible refine gate_callee (f := 11) rfl ?_); refine goesL_ (some 4) rfl rfl Try.func11 (by kernel_rfl) rfl #[.int .i64 a0] rfl (by (try simp only [List.map_toArray, List.map_cons, List.map_nil]); first | done | rfl | (simp only [List.length_drop, List.length_take]; rfl)) ?_; (with_reducible refine (trig_Turn.calls a0 t103 _ A2.out).mono ?_); rintro e w' ⟨rfl, ⟨nd, rfl⟩⟩; refine ⟨_, rfl, ?_⟩) | ((with_reducible refine gate_callee (f := 9) rfl ?_); refine goesL_ (some 6) rfl rfl Try.func9 (by kernel_rfl) rfl #[.int .i64 (wrap64 (t103 + 5898240))] rfl (by (try simp only [List.map_toArray, List.map_cons, List.map_nil]); first | done | rfl | (simp only [List.length_drop, List.length_take]; rfl)) ?_; (with_reducible refine (trig_Sin.calls k (wrap64 (t103 + 5898240)) t104 _ A3.out).mono ?_); rintro e w' ⟨rfl, ⟨nd, rfl⟩⟩; refine ⟨_, rfl, ?_⟩))
  go_ret
  exact ⟨by first | rfl | (simp; done) | (simp [*]; done), by repeat (first | exact Drawn0.refl _ | apply Drawn0.step)⟩

/-! ### mutoscopelaw2_known: function 8 -/
def mutoscopelaw2_known.f (k : Nat)  : Option (Bool) := (trig_Sin.f k 5898240).bind fun t105 => (if t105 = 65536 then ((trig_Sin.f k 0).bind fun t106 => (if t106 = 0 then ((trig_Cos.f k 11796480).bind fun t107 => (if t107 = (-65536) then ((trig_Turn.f (-1)).bind fun t108 => (some (t108 == 23592959))) else (some false))) else (some false))) else (some false))
theorem mutoscopelaw2_known.mono : ∀ k, LeO (mutoscopelaw2_known.f k ) (mutoscopelaw2_known.f (k + 1) ) := by
  intro  k
  unfold mutoscopelaw2_known.f
  repeat' first
      | (with_reducible exact trig_Cos.mono _ _)
      | (with_reducible exact trig_Sin.mono _ _)
      | (with_reducible exact LeO.refl _)
      | (with_reducible exact LeO.none _)
      | (with_reducible refine LeO.ite ?_ ?_)
      | (with_reducible refine LeO.bind ?_ (fun _ => ?_))
      | exact trig_Cos.mono _ _
      | exact trig_Sin.mono _ _
      | exact LeO.none _
      | refine LeO.ite ?_ ?_
      | refine LeO.bind ?_ (fun _ => ?_)
set_option maxHeartbeats 8000000 in
set_option maxRecDepth 100000 in
theorem mutoscopelaw2_known.calls (k : Nat)  (r : Bool) (w : World) (h : mutoscopelaw2_known.f k  = some r) :
    Calls Try.prog 8 #[] w fun e w' => e = .returned (.bool r) ∧ Drawn0 w w' := by
  have H : ((trig_Sin.f k 5898240).bind fun t105 => (if t105 = 65536 then ((trig_Sin.f k 0).bind fun t106 => (if t106 = 0 then ((trig_Cos.f k 11796480).bind fun t107 => (if t107 = (-65536) then ((trig_Turn.f (-1)).bind fun t108 => (some (t108 == 23592959))) else (some false))) else (some false))) else (some false))) = some r := h
  clear h
  replace H := Option.bind_eq_some_iff.mp H
  obtain ⟨t105, A10, H⟩ := H
  replace H : (if t105 = 65536 then ((trig_Sin.f k 0).bind fun t106 => (if t106 = 0 then ((trig_Cos.f k 11796480).bind fun t107 => (if t107 = (-65536) then ((trig_Turn.f (-1)).bind fun t108 => (some (t108 == 23592959))) else (some false))) else (some false))) else (some false)) = some r := H
  have A1 := Aside0.mk A10
  clear A10
  by_cases c2 : t105 = 65536
  · rw [if_pos c2] at H
    have c2b0 : (t105 == 65536) = true := beq_iff_eq.mpr c2
    have c2b1 : (t105 != 65536) = false := bne_eq_false_iff_eq.mpr c2
    clear c2
    replace H := Option.bind_eq_some_iff.mp H
    obtain ⟨t106, A30, H⟩ := H
    replace H : (if t106 = 0 then ((trig_Cos.f k 11796480).bind fun t107 => (if t107 = (-65536) then ((trig_Turn.f (-1)).bind fun t108 => (some (t108 == 23592959))) else (some false))) else (some false)) = some r := H
    have A3 := Aside0.mk A30
    clear A30
    by_cases c4 : t106 = 0
    · rw [if_pos c4] at H
      have c4b0 : (t106 == 0) = true := beq_iff_eq.mpr c4
      have c4b1 : (t106 != 0) = false := bne_eq_false_iff_eq.mpr c4
      clear c4
      replace H := Option.bind_eq_some_iff.mp H
      obtain ⟨t107, A50, H⟩ := H
      replace H : (if t107 = (-65536) then ((trig_Turn.f (-1)).bind fun t108 => (some (t108 == 23592959))) else (some false)) = some r := H
      have A5 := Aside0.mk A50
      clear A50
      by_cases c6 : t107 = (-65536)
      · rw [if_pos c6] at H
        have c6b0 : (t107 == (-65536)) = true := beq_iff_eq.mpr c6
        have c6b1 : (t107 != (-65536)) = false := bne_eq_false_iff_eq.mpr c6
        clear c6
        replace H := Option.bind_eq_some_iff.mp H
        obtain ⟨t108, A70, H⟩ := H
        replace H : (some (t108 == 23592959)) = some r := H
        have A7 := Aside0.mk A70
        clear A70
        obtain rfl := Option.some.inj H
        go_enter Try.func8, Try.ntmps8
        go_wp2_with (first | ((with_reducible refine gate_callee (f := 9) rfl ?_); refine goesL_ (some 1) rfl rfl Try.func9 (by kernel_rfl) rfl #[.int .i64 5898240] rfl (by (try simp only [List.map_toArray, List.map_cons, List.map_nil]); first | done | rfl | (simp only [List.length_drop, List.length_take]; rfl)) ?_; (with_reducible refine (trig_Sin.calls k 5898240 t105 _ A1.out).mono ?_); rintro e w' ⟨rfl, ⟨nd, rfl⟩⟩; refine ⟨_, rfl, ?_⟩) | (go_at_call 9; (with_reducible refine (trig_Sin.calls k 0 t106 _ A3.out).mono ?_); rintro e w' ⟨rfl, ⟨nd, rfl⟩⟩) | (go_at_call 10; (with_reducible refine (trig_Cos.calls k 11796480 t107 _ A5.out).mono ?_); rintro e w' ⟨rfl, ⟨nd, rfl⟩⟩) | (go_at_call 11; (with_reducible refine (trig_Turn.calls (-1) t108 _ A7.out).mono ?_); rintro e w' ⟨rfl, ⟨nd, rfl⟩⟩))
        go_ret
        exact ⟨by first | rfl | (simp; done) | (simp [*]; done), by repeat (first | exact Drawn0.refl _ | apply Drawn0.step)⟩
      · rw [if_neg c6] at H
        have c6b0 : (t107 == (-65536)) = false := beq_eq_false_iff_ne.mpr c6
        have c6b1 : (t107 != (-65536)) = true := bne_iff_ne.mpr c6
        obtain rfl := Option.some.inj H
        go_enter Try.func8, Try.ntmps8
        go_wp2_with (first | ((with_reducible refine gate_callee (f := 9) rfl ?_); refine goesL_ (some 1) rfl rfl Try.func9 (by kernel_rfl) rfl #[.int .i64 5898240] rfl (by (try simp only [List.map_toArray, List.map_cons, List.map_nil]); first | done | rfl | (simp only [List.length_drop, List.length_take]; rfl)) ?_; (with_reducible refine (trig_Sin.calls k 5898240 t105 _ A1.out).mono ?_); rintro e w' ⟨rfl, ⟨nd, rfl⟩⟩; refine ⟨_, rfl, ?_⟩) | (go_at_call 9; (with_reducible refine (trig_Sin.calls k 0 t106 _ A3.out).mono ?_); rintro e w' ⟨rfl, ⟨nd, rfl⟩⟩) | (go_at_call 10; (with_reducible refine (trig_Cos.calls k 11796480 t107 _ A5.out).mono ?_); rintro e w' ⟨rfl, ⟨nd, rfl⟩⟩))
        go_ret
        exact ⟨by first | rfl | (simp; done) | (simp [*]; done), by repeat (first | exact Drawn0.refl _ | apply Drawn0.step)⟩
    · rw [if_neg c4] at H
      have c4b0 : (t106 == 0) = false := beq_eq_false_iff_ne.mpr c4
      have c4b1 : (t106 != 0) = true := bne_iff_ne.mpr c4
      obtain rfl := Option.some.inj H
      go_enter Try.func8, Try.ntmps8
      go_wp2_with (first | ((with_reducible refine gate_callee (f := 9) rfl ?_); refine goesL_ (some 1) rfl rfl Try.func9 (by kernel_rfl) rfl #[.int .i64 5898240] rfl (by (try simp only [List.map_toArray, List.map_cons, List.map_nil]); first | done | rfl | (simp only [List.length_drop, List.length_take]; rfl)) ?_; (with_reducible refine (trig_Sin.calls k 5898240 t105 _ A1.out).mono ?_); rintro e w' ⟨rfl, ⟨nd, rfl⟩⟩; refine ⟨_, rfl, ?_⟩) | (go_at_call 9; (with_reducible refine (trig_Sin.calls k 0 t106 _ A3.out).mono ?_); rintro e w' ⟨rfl, ⟨nd, rfl⟩⟩))
      go_ret
      exact ⟨by first | rfl | (simp; done) | (simp [*]; done), by repeat (first | exact Drawn0.refl _ | apply Drawn0.step)⟩
  · rw [if_neg c2] at H
    have c2b0 : (t105 == 65536) = false := beq_eq_false_iff_ne.mpr c2
    have c2b1 : (t105 != 65536) = true := bne_iff_ne.mpr c2
    obtain rfl := Option.some.inj H
    go_enter Try.func8, Try.ntmps8
    go_wp2_with (first | ((with_reducible refine gate_callee (f := 9) rfl ?_); refine goesL_ (some 1) rfl rfl Try.func9 (by kernel_rfl) rfl #[.int .i64 5898240] rfl (by (try simp only [List.map_toArray, List.map_cons, List.map_nil]); first | done | rfl | (simp only [List.length_drop, List.length_take]; rfl)) ?_; (with_reducible refine (trig_Sin.calls k 5898240 t105 _ A1.out).mono ?_); rintro e w' ⟨rfl, ⟨nd, rfl⟩⟩; refine ⟨_, rfl, ?_⟩))
    go_ret
    exact ⟨by first | rfl | (simp; done) | (simp [*]; done), by repeat (first | exact Drawn0.refl _ | apply Drawn0.step)⟩

/-! ### mutoscopelaw2_TrigEighths: function 6 -/
mutual
def mutoscopelaw2_TrigEighths.j0 : Nat → Int → Int → Int → Option (Bool)
  | 0, _, _, _ => none
  | k + 1, x0, x5, x6 => if x6 < 0 then (mutoscopelaw2_TrigEighths.j1 k x0 x5 (wrap64 (-x6))) else (mutoscopelaw2_TrigEighths.j1 k x0 x5 x6)
def mutoscopelaw2_TrigEighths.j1 : Nat → Int → Int → Int → Option (Bool)
  | 0, _, _, _ => none
  | k + 1, x0, x5, x6 => (trig_Sin.f k (mn x5 x6)).bind fun t109 => ((trig_Sin.f k (mx x5 x6)).bind fun t110 => (if t109 ≤ (wrap64 (t110 + 2)) then ((trig_Sin.f k (wrap64 (5898240 + (mn x5 x6)))).bind fun t111 => ((trig_Sin.f k (wrap64 (5898240 + (mx x5 x6)))).bind fun t112 => (if (wrap64 (t111 + 2)) ≥ t112 then ((trig_Cos.f k x0).bind fun t113 => ((trig_Turn.f x0).bind fun t114 => ((trig_Sin.f k (wrap64 (t114 + 5898240))).bind fun t115 => (if t113 = t115 then ((trig_Sin.f k (wrap64 (11796480 - x5))).bind fun t116 => ((trig_Sin.f k x5).bind fun t117 => (if t116 = t117 then ((mutoscopelaw2_known.f k).bind fun t118 => (some t118)) else (some false)))) else (some false))))) else (some false)))) else (some false)))
end
def mutoscopelaw2_TrigEighths.f (k : Nat) (a0 : Int) (a1 : Int) : Option (Bool) := if (Int.tmod a0 5898240) < 0 then (mutoscopelaw2_TrigEighths.j0 k a0 (wrap64 (-(Int.tmod a0 5898240))) (Int.tmod a1 5898240)) else (mutoscopelaw2_TrigEighths.j0 k a0 (Int.tmod a0 5898240) (Int.tmod a1 5898240))
theorem mutoscopelaw2_TrigEighths.mono_l : ∀ k, (∀ y0 y1 y2, LeO (mutoscopelaw2_TrigEighths.j0 k y0 y1 y2) (mutoscopelaw2_TrigEighths.j0 (k + 1) y0 y1 y2)) ∧ (∀ y0 y1 y2, LeO (mutoscopelaw2_TrigEighths.j1 k y0 y1 y2) (mutoscopelaw2_TrigEighths.j1 (k + 1) y0 y1 y2))
  | 0 => ⟨fun _ _ _ r h => by simp [mutoscopelaw2_TrigEighths.j0] at h, fun _ _ _ r h => by simp [mutoscopelaw2_TrigEighths.j1] at h⟩
  | k + 1 => by
    obtain ⟨ih0, ih1⟩ := mutoscopelaw2_TrigEighths.mono_l k
    refine ⟨?_, ?_⟩
    · intro y0 y1 y2
      unfold mutoscopelaw2_TrigEighths.j0
      repeat' first
      | (with_reducible exact ih0 _ _ _)
      | (with_reducible exact ih1 _ _ _)
      | (with_reducible exact mutoscopelaw2_known.mono _)
      | (with_reducible exact trig_Cos.mono _ _)
      | (with_reducible exact trig_Sin.mono _ _)
      | (with_reducible exact LeO.refl _)
      | (with_reducible exact LeO.none _)
      | (with_reducible refine LeO.ite ?_ ?_)
      | (with_reducible refine LeO.bind ?_ (fun _ => ?_))
      | exact ih0 _ _ _
      | exact ih1 _ _ _
      | exact mutoscopelaw2_known.mono _
      | exact trig_Cos.mono _ _
      | exact trig_Sin.mono _ _
      | exact LeO.none _
      | refine LeO.ite ?_ ?_
      | refine LeO.bind ?_ (fun _ => ?_)
    · intro y0 y1 y2
      unfold mutoscopelaw2_TrigEighths.j1
      repeat' first
      | (with_reducible exact ih0 _ _ _)
      | (with_reducible exact ih1 _ _ _)
      | (with_reducible exact mutoscopelaw2_known.mono _)
      | (with_reducible exact trig_Cos.mono _ _)
      | (with_reducible exact trig_Sin.mono _ _)
      | (with_reducible exact LeO.refl _)
      | (with_reducible exact LeO.none _)
      | (with_reducible refine LeO.ite ?_ ?_)
      | (with_reducible refine LeO.bind ?_ (fun _ => ?_))
      | exact ih0 _ _ _
      | exact ih1 _ _ _
      | exact mutoscopelaw2_known.mono _
      | exact trig_Cos.mono _ _
      | exact trig_Sin.mono _ _
      | exact LeO.none _
      | refine LeO.ite ?_ ?_
      | refine LeO.bind ?_ (fun _ => ?_)
theorem mutoscopelaw2_TrigEighths.mono : ∀ a0 a1 k, LeO (mutoscopelaw2_TrigEighths.f k a0 a1) (mutoscopelaw2_TrigEighths.f (k + 1) a0 a1) := by
  intro a0 a1 k
  obtain ⟨ih0, ih1⟩ := mutoscopelaw2_TrigEighths.mono_l k
  unfold mutoscopelaw2_TrigEighths.f
  repeat' first
      | (with_reducible exact ih0 _ _ _)
      | (with_reducible exact ih1 _ _ _)
      | (with_reducible exact mutoscopelaw2_known.mono _)
      | (with_reducible exact trig_Cos.mono _ _)
      | (with_reducible exact trig_Sin.mono _ _)
      | (with_reducible exact LeO.refl _)
      | (with_reducible exact LeO.none _)
      | (with_reducible refine LeO.ite ?_ ?_)
      | (with_reducible refine LeO.bind ?_ (fun _ => ?_))
      | exact ih0 _ _ _
      | exact ih1 _ _ _
      | exact mutoscopelaw2_known.mono _
      | exact trig_Cos.mono _ _
      | exact trig_Sin.mono _ _
      | exact LeO.none _
      | refine LeO.ite ?_ ?_
      | refine LeO.bind ?_ (fun _ => ?_)
set_option maxHeartbeats 8000000 in
set_option maxRecDepth 100000 in
theorem mutoscopelaw2_TrigEighths.calls (k : Nat) (a0 : Int) (a1 : Int) (r : Bool) (w : World) (h : mutoscopelaw2_TrigEighths.f k a0 a1 = some r) :
    Calls Try.prog 6 #[.int .i64 a0, .int .i64 a1] w fun e w' => e = .returned (.bool r) ∧ Below w.heap.size w w' := by
  have HB := Aside0.mk (Below.refl w.heap.size w)
  have H : (if (Int.tmod a0 5898240) < 0 then (mutoscopelaw2_TrigEighths.j0 k a0 (wrap64 (-(Int.tmod a0 5898240))) (Int.tmod a1 5898240)) else (mutoscopelaw2_TrigEighths.j0 k a0 (Int.tmod a0 5898240) (Int.tmod a1 5898240))) = some r := h
  clear h
  have HC3 := Aside0.mk H
  clear H
  go_enter Try.func6, Try.ntmps6
  go_upto_if 14 with (fail)
  go_cut [5] (fun v5 wc => ∃ (kq : Nat) (x5_2 : Int), v5 = .int .i64 x5_2 ∧ Aside0 (mutoscopelaw2_TrigEighths.j0 kq a0 x5_2 (Int.tmod a1 5898240) = some r) ∧ Aside0 (kq ≤ k) ∧ Aside0 (Below w.heap.size w wc))
  case first =>
    have H := HC3.out
    clear HC3
    by_cases c4 : (Int.tmod a0 5898240) < 0
    · rw [if_pos c4] at H
      have c4b0 : decide ((Int.tmod a0 5898240) < 0) = true := decide_eq_true c4
      clear c4
      (first | rw [c4b0] | (simp only [i64_w, i32_w]; rw [c4b0]) | skip)
      have H' := Aside0.mk H
      clear H
      go_wp2
      go_meet
      case rel => exact ⟨_, (wrap64 (-(Int.tmod a0 5898240))), (by first | rfl | (simp; done) | (simp [*]; done)), H', ⟨by first | omega | exact Nat.le_refl _⟩, ⟨by repeat (first | (with_reducible first | exact HB.out | apply below_alloc | apply pw_below_drewN | apply below_drew1) | exact HB.out)⟩⟩
    · rw [if_neg c4] at H
      have c4b0 : decide ((Int.tmod a0 5898240) < 0) = false := decide_eq_false c4
      clear c4
      (first | rw [c4b0] | (simp only [i64_w, i32_w]; rw [c4b0]) | skip)
      have H' := Aside0.mk H
      clear H
      go_wp2
      go_meet
      case rel => exact ⟨_, (Int.tmod a0 5898240), (by first | rfl | (simp; done) | (simp [*]; done)), H', ⟨by first | omega | exact Nat.le_refl _⟩, ⟨by repeat (first | (with_reducible first | exact HB.out | apply below_alloc | apply pw_below_drewN | apply below_drew1) | exact HB.out)⟩⟩
  case rest =>
    clear HC3
    try clear p2
    try clear c4
    try clear c4b0
    obtain ⟨kq, x5_2, rfl, HA, HJ2, HB⟩ := hcut
    cases kq with
    | zero => exact absurd HA.out (by simp [mutoscopelaw2_TrigEighths.j0])
    | succ kj2 =>
      have H := HA.out
      clear HA
      simp only [mutoscopelaw2_TrigEighths.j0] at H
      have HC5 := Aside0.mk H
      clear H
      go_upto_if 18 with (fail)
      go_cut [6] (fun v6 wc => ∃ (kq : Nat) (x6_4 : Int), v6 = .int .i64 x6_4 ∧ Aside0 (mutoscopelaw2_TrigEighths.j1 kq a0 x5_2 x6_4 = some r) ∧ Aside0 (kq ≤ kj2) ∧ Aside0 (Below w.heap.size w wc))
      case first =>
        have H := HC5.out
        clear HC5
        by_cases c6 : (Int.tmod a1 5898240) < 0
        · rw [if_pos c6] at H
          have c6b0 : decide ((Int.tmod a1 5898240) < 0) = true := decide_eq_true c6
          clear c6
          (first | rw [c6b0] | (simp only [i64_w, i32_w]; rw [c6b0]) | skip)
          have H' := Aside0.mk H
          clear H
          go_wp2
          go_meet
          case rel => exact ⟨_, (wrap64 (-(Int.tmod a1 5898240))), (by first | rfl | (simp; done) | (simp [*]; done)), H', ⟨by have := HJ2.out; first | omega | exact Nat.le_refl _⟩, ⟨by repeat (first | (with_reducible first | exact HB.out | apply below_alloc | apply pw_below_drewN | apply below_drew1) | exact HB.out)⟩⟩
        · rw [if_neg c6] at H
          have c6b0 : decide ((Int.tmod a1 5898240) < 0) = false := decide_eq_false c6
          clear c6
          (first | rw [c6b0] | (simp only [i64_w, i32_w]; rw [c6b0]) | skip)
          have H' := Aside0.mk H
          clear H
          go_wp2
          go_meet
          case rel => exact ⟨_, ((Int.tmod a1 5898240)), (by first | rfl | (simp; done) | (simp [*]; done)), H', ⟨by have := HJ2.out; first | omega | exact Nat.le_refl _⟩, ⟨by repeat (first | (with_reducible first | exact HB.out | apply below_alloc | apply pw_below_drewN | apply below_drew1) | exact HB.out)⟩⟩
      case rest =>
        clear HC5
        try clear p2
        try clear c4
        try clear c4b0
        try clear c6
        try clear c6b0
        try clear p6
        try clear p2
        obtain ⟨kq, x6_4, rfl, HA, HJ4, HB⟩ := hcut
        cases kq with
        | zero => exact absurd HA.out (by simp [mutoscopelaw2_TrigEighths.j1])
        | succ kj4 =>
          have H := HA.out
          clear HA
          simp only [mutoscopelaw2_TrigEighths.j1] at H
          obtain ⟨ji7, hji7⟩ : ∃ j_ : Int, (mn x5_2 x6_4) = j_ := ⟨_, rfl⟩
          replace H : ((trig_Sin.f kj4 (ji7)).bind fun t109 => ((trig_Sin.f kj4 (mx x5_2 x6_4)).bind fun t110 => (if t109 ≤ (wrap64 (t110 + 2)) then ((trig_Sin.f kj4 (wrap64 (5898240 + (ji7)))).bind fun t111 => ((trig_Sin.f kj4 (wrap64 (5898240 + (mx x5_2 x6_4)))).bind fun t112 => (if (wrap64 (t111 + 2)) ≥ t112 then ((trig_Cos.f kj4 a0).bind fun t113 => ((trig_Turn.f a0).bind fun t114 => ((trig_Sin.f kj4 (wrap64 (t114 + 5898240))).bind fun t115 => (if t113 = t115 then ((trig_Sin.f kj4 (wrap64 (11796480 - x5_2))).bind fun t116 => ((trig_Sin.f kj4 x5_2).bind fun t117 => (if t116 = t117 then ((mutoscopelaw2_known.f kj4).bind fun t118 => (some t118)) else (some false)))) else (some false))))) else (some false)))) else (some false)))) = some r := by first | (rw [hji7] at H; exact H) | (simp only [hji7] at H ⊢; exact H)
          have hji7_ : (if x6_4 < x5_2 then x6_4 else x5_2) = ji7 := hji7
          obtain ⟨ji8, hji8⟩ : ∃ j_ : Int, (mx x5_2 x6_4) = j_ := ⟨_, rfl⟩
          replace H : ((trig_Sin.f kj4 (ji7)).bind fun t109 => ((trig_Sin.f kj4 (ji8)).bind fun t110 => (if t109 ≤ (wrap64 (t110 + 2)) then ((trig_Sin.f kj4 (wrap64 (5898240 + (ji7)))).bind fun t111 => ((trig_Sin.f kj4 (wrap64 (5898240 + (ji8)))).bind fun t112 => (if (wrap64 (t111 + 2)) ≥ t112 then ((trig_Cos.f kj4 a0).bind fun t113 => ((trig_Turn.f a0).bind fun t114 => ((trig_Sin.f kj4 (wrap64 (t114 + 5898240))).bind fun t115 => (if t113 = t115 then ((trig_Sin.f kj4 (wrap64 (11796480 - x5_2))).bind fun t116 => ((trig_Sin.f kj4 x5_2).bind fun t117 => (if t116 = t117 then ((mutoscopelaw2_known.f kj4).bind fun t118 => (some t118)) else (some false)))) else (some false))))) else (some false)))) else (some false)))) = some r := by first | (rw [hji8] at H; exact H) | (simp only [hji8] at H ⊢; exact H)
          have hji8_ : (if x5_2 < x6_4 then x6_4 else x5_2) = ji8 := hji8
          replace H := Option.bind_eq_some_iff.mp H
          obtain ⟨t109, A90, H⟩ := H
          replace H : ((trig_Sin.f kj4 (ji8)).bind fun t110 => (if t109 ≤ (wrap64 (t110 + 2)) then ((trig_Sin.f kj4 (wrap64 (5898240 + (ji7)))).bind fun t111 => ((trig_Sin.f kj4 (wrap64 (5898240 + (ji8)))).bind fun t112 => (if (wrap64 (t111 + 2)) ≥ t112 then ((trig_Cos.f kj4 a0).bind fun t113 => ((trig_Turn.f a0).bind fun t114 => ((trig_Sin.f kj4 (wrap64 (t114 + 5898240))).bind fun t115 => (if t113 = t115 then ((trig_Sin.f kj4 (wrap64 (11796480 - x5_2))).bind fun t116 => ((trig_Sin.f kj4 x5_2).bind fun t117 => (if t116 = t117 then ((mutoscopelaw2_known.f kj4).bind fun t118 => (some t118)) else (some false)))) else (some false))))) else (some false)))) else (some false))) = some r := H
          have A9 := Aside0.mk A90
          clear A90
          replace H := Option.bind_eq_some_iff.mp H
          obtain ⟨t110, A100, H⟩ := H
          replace H : (if t109 ≤ (wrap64 (t110 + 2)) then ((trig_Sin.f kj4 (wrap64 (5898240 + (ji7)))).bind fun t111 => ((trig_Sin.f kj4 (wrap64 (5898240 + (ji8)))).bind fun t112 => (if (wrap64 (t111 + 2)) ≥ t112 then ((trig_Cos.f kj4 a0).bind fun t113 => ((trig_Turn.f a0).bind fun t114 => ((trig_Sin.f kj4 (wrap64 (t114 + 5898240))).bind fun t115 => (if t113 = t115 then ((trig_Sin.f kj4 (wrap64 (11796480 - x5_2))).bind fun t116 => ((trig_Sin.f kj4 x5_2).bind fun t117 => (if t116 = t117 then ((mutoscopelaw2_known.f kj4).bind fun t118 => (some t118)) else (some false)))) else (some false))))) else (some false)))) else (some false)) = some r := H
          have A10 := Aside0.mk A100
          clear A100
          by_cases c11 : t109 ≤ (wrap64 (t110 + 2))
          · rw [if_pos c11] at H
            have c11b0 : decide (t109 ≤ (wrap64 (t110 + 2))) = true := decide_eq_true c11
            clear c11
            replace H := Option.bind_eq_some_iff.mp H
            obtain ⟨t111, A120, H⟩ := H
            replace H : ((trig_Sin.f kj4 (wrap64 (5898240 + (ji8)))).bind fun t112 => (if (wrap64 (t111 + 2)) ≥ t112 then ((trig_Cos.f kj4 a0).bind fun t113 => ((trig_Turn.f a0).bind fun t114 => ((trig_Sin.f kj4 (wrap64 (t114 + 5898240))).bind fun t115 => (if t113 = t115 then ((trig_Sin.f kj4 (wrap64 (11796480 - x5_2))).bind fun t116 => ((trig_Sin.f kj4 x5_2).bind fun t117 => (if t116 = t117 then ((mutoscopelaw2_known.f kj4).bind fun t118 => (some t118)) else (some false)))) else (some false))))) else (some false))) = some r := H
            have A12 := Aside0.mk A120
            clear A120
            replace H := Option.bind_eq_some_iff.mp H
            obtain ⟨t112, A130, H⟩ := H
            replace H : (if (wrap64 (t111 + 2)) ≥ t112 then ((trig_Cos.f kj4 a0).bind fun t113 => ((trig_Turn.f a0).bind fun t114 => ((trig_Sin.f kj4 (wrap64 (t114 + 5898240))).bind fun t115 => (if t113 = t115 then ((trig_Sin.f kj4 (wrap64 (11796480 - x5_2))).bind fun t116 => ((trig_Sin.f kj4 x5_2).bind fun t117 => (if t116 = t117 then ((mutoscopelaw2_known.f kj4).bind fun t118 => (some t118)) else (some false)))) else (some false))))) else (some false)) = some r := H
            have A13 := Aside0.mk A130
            clear A130
            by_cases c14 : (wrap64 (t111 + 2)) ≥ t112
            · rw [if_pos c14] at H
              have c14b0 : decide (t112 ≤ (wrap64 (t111 + 2))) = true := decide_eq_true c14
              clear c14
              replace H := Option.bind_eq_some_iff.mp H
              obtain ⟨t113, A150, H⟩ := H
              replace H : ((trig_Turn.f a0).bind fun t114 => ((trig_Sin.f kj4 (wrap64 (t114 + 5898240))).bind fun t115 => (if t113 = t115 then ((trig_Sin.f kj4 (wrap64 (11796480 - x5_2))).bind fun t116 => ((trig_Sin.f kj4 x5_2).bind fun t117 => (if t116 = t117 then ((mutoscopelaw2_known.f kj4).bind fun t118 => (some t118)) else (some false)))) else (some false)))) = some r := H
              have A15 := Aside0.mk A150
              clear A150
              replace H := Option.bind_eq_some_iff.mp H
              obtain ⟨t114, A160, H⟩ := H
              replace H : ((trig_Sin.f kj4 (wrap64 (t114 + 5898240))).bind fun t115 => (if t113 = t115 then ((trig_Sin.f kj4 (wrap64 (11796480 - x5_2))).bind fun t116 => ((trig_Sin.f kj4 x5_2).bind fun t117 => (if t116 = t117 then ((mutoscopelaw2_known.f kj4).bind fun t118 => (some t118)) else (some false)))) else (some false))) = some r := H
              have A16 := Aside0.mk A160
              clear A160
              replace H := Option.bind_eq_some_iff.mp H
              obtain ⟨t115, A170, H⟩ := H
              replace H : (if t113 = t115 then ((trig_Sin.f kj4 (wrap64 (11796480 - x5_2))).bind fun t116 => ((trig_Sin.f kj4 x5_2).bind fun t117 => (if t116 = t117 then ((mutoscopelaw2_known.f kj4).bind fun t118 => (some t118)) else (some false)))) else (some false)) = some r := H
              have A17 := Aside0.mk A170
              clear A170
              by_cases c18 : t113 = t115
              · rw [if_pos c18] at H
                have c18b0 : (t113 == t115) = true := beq_iff_eq.mpr c18
                have c18b1 : (t113 != t115) = false := bne_eq_false_iff_eq.mpr c18
                clear c18
                replace H := Option.bind_eq_some_iff.mp H
                obtain ⟨t116, A190, H⟩ := H
                replace H : ((trig_Sin.f kj4 x5_2).bind fun t117 => (if t116 = t117 then ((mutoscopelaw2_known.f kj4).bind fun t118 => (some t118)) else (some false))) = some r := H
                have A19 := Aside0.mk A190
                clear A190
                replace H := Option.bind_eq_some_iff.mp H
                obtain ⟨t117, A200, H⟩ := H
                replace H : (if t116 = t117 then ((mutoscopelaw2_known.f kj4).bind fun t118 => (some t118)) else (some false)) = some r := H
                have A20 := Aside0.mk A200
                clear A200
                by_cases c21 : t116 = t117
                · rw [if_pos c21] at H
                  have c21b0 : (t116 == t117) = true := beq_iff_eq.mpr c21
                  have c21b1 : (t116 != t117) = false := bne_eq_false_iff_eq.mpr c21
                  clear c21
                  replace H := Option.bind_eq_some_iff.mp H
                  obtain ⟨t118, A220, H⟩ := H
                  replace H : (some t118) = some r := H
                  have A22 := Aside0.mk A220
                  clear A220
                  obtain rfl := Option.some.inj H
                  go_wp2_with (first | ((with_reducible refine gate_callee (f := 9) rfl ?_); refine goesL_ (some 28) rfl rfl Try.func9 (by kernel_rfl) rfl #[.int .i64 ji7] rfl (by (try simp only [List.map_toArray, List.map_cons, List.map_nil]); first | done | (simp only [hji7]; rfl) | rfl | (simp only [List.length_drop, List.length_take]; rfl)) ?_; (with_reducible refine (trig_Sin.calls kj4 ji7 t109 _ A9.out).mono ?_); rintro e w' ⟨rfl, ⟨nd, rfl⟩⟩; refine ⟨_, rfl, ?_⟩) | ((with_reducible refine gate_callee (f := 9) rfl ?_); refine goesL_ (some 30) rfl rfl Try.func9 (by kernel_rfl) rfl #[.int .i64 ji8] rfl (by (try simp only [List.map_toArray, List.map_cons, List.map_nil]); first | done | (simp only [hji8]; rfl) | rfl | (simp only [List.length_drop, List.length_take]; rfl)) ?_; (with_reducible refine (trig_Sin.calls kj4 ji8 t110 _ A10.out).mono ?_); rintro e w' ⟨rfl, ⟨nd, rfl⟩⟩; refine ⟨_, rfl, ?_⟩) | (go_at_call 9; (with_reducible refine (trig_Sin.calls kj4 (wrap64 (5898240 + (ji7))) t111 _ A12.out).mono ?_); rintro e w' ⟨rfl, ⟨nd, rfl⟩⟩) | (go_at_call 9; (with_reducible refine (trig_Sin.calls kj4 (wrap64 (5898240 + (ji8))) t112 _ A13.out).mono ?_); rintro e w' ⟨rfl, ⟨nd, rfl⟩⟩) | (go_at_call 10; (with_reducible refine (trig_Cos.calls kj4 a0 t113 _ A15.out).mono ?_); rintro e w' ⟨rfl, ⟨nd, rfl⟩⟩) | (go_at_call 11; (with_reducible refine (trig_Turn.calls a0 t114 _ A16.out).mono ?_); rintro e w' ⟨rfl, ⟨nd, rfl⟩⟩) | (go_at_call 9; (with_reducible refine (trig_Sin.calls kj4 (wrap64 (t114 + 5898240)) t115 _ A17.out).mono ?_); rintro e w' ⟨rfl, ⟨nd, rfl⟩⟩) | (go_at_call 9; (with_reducible refine (trig_Sin.calls kj4 (wrap64 (11796480 - x5_2)) t116 _ A19.out).mono ?_); rintro e w' ⟨rfl, ⟨nd, rfl⟩⟩) | (go_at_call 9; (with_reducible refine (trig_Sin.calls kj4 x5_2 t117 _ A20.out).mono ?_); rintro e w' ⟨rfl, ⟨nd, rfl⟩⟩) | (go_at_call 8; (with_reducible refine (mutoscopelaw2_known.calls kj4  t118 _ A22.out).mono ?_); rintro e w' ⟨rfl, ⟨nd, rfl⟩⟩))
                  go_ret
                  exact ⟨by first | rfl | (simp [errW_none, errW_some] <;> rfl) | (simp only [← hji7, ← hji8]; first | rfl | (simp [errW_none, errW_some] <;> rfl)) | (simp [*, errW_none, errW_some] <;> rfl), by repeat (first | (with_reducible first | exact HB.out | apply below_alloc | apply pw_below_drewN | apply below_drew1) | exact HB.out)⟩
                · rw [if_neg c21] at H
                  have c21b0 : (t116 == t117) = false := beq_eq_false_iff_ne.mpr c21
                  have c21b1 : (t116 != t117) = true := bne_iff_ne.mpr c21
                  obtain rfl := Option.some.inj H
                  go_wp2_with (first | ((with_reducible refine gate_callee (f := 9) rfl ?_); refine goesL_ (some 28) rfl rfl Try.func9 (by kernel_rfl) rfl #[.int .i64 ji7] rfl (by (try simp only [List.map_toArray, List.map_cons, List.map_nil]); first | done | (simp only [hji7]; rfl) | rfl | (simp only [List.length_drop, List.length_take]; rfl)) ?_; (with_reducible refine (trig_Sin.calls kj4 ji7 t109 _ A9.out).mono ?_); rintro e w' ⟨rfl, ⟨nd, rfl⟩⟩; refine ⟨_, rfl, ?_⟩) | ((with_reducible refine gate_callee (f := 9) rfl ?_); refine goesL_ (some 30) rfl rfl Try.func9 (by kernel_rfl) rfl #[.int .i64 ji8] rfl (by (try simp only [List.map_toArray, List.map_cons, List.map_nil]); first | done | (simp only [hji8]; rfl) | rfl | (simp only [List.length_drop, List.length_take]; rfl)) ?_; (with_reducible refine (trig_Sin.calls kj4 ji8 t110 _ A10.out).mono ?_); rintro e w' ⟨rfl, ⟨nd, rfl⟩⟩; refine ⟨_, rfl, ?_⟩) | (go_at_call 9; (with_reducible refine (trig_Sin.calls kj4 (wrap64 (5898240 + (ji7))) t111 _ A12.out).mono ?_); rintro e w' ⟨rfl, ⟨nd, rfl⟩⟩) | (go_at_call 9; (with_reducible refine (trig_Sin.calls kj4 (wrap64 (5898240 + (ji8))) t112 _ A13.out).mono ?_); rintro e w' ⟨rfl, ⟨nd, rfl⟩⟩) | (go_at_call 10; (with_reducible refine (trig_Cos.calls kj4 a0 t113 _ A15.out).mono ?_); rintro e w' ⟨rfl, ⟨nd, rfl⟩⟩) | (go_at_call 11; (with_reducible refine (trig_Turn.calls a0 t114 _ A16.out).mono ?_); rintro e w' ⟨rfl, ⟨nd, rfl⟩⟩) | (go_at_call 9; (with_reducible refine (trig_Sin.calls kj4 (wrap64 (t114 + 5898240)) t115 _ A17.out).mono ?_); rintro e w' ⟨rfl, ⟨nd, rfl⟩⟩) | (go_at_call 9; (with_reducible refine (trig_Sin.calls kj4 (wrap64 (11796480 - x5_2)) t116 _ A19.out).mono ?_); rintro e w' ⟨rfl, ⟨nd, rfl⟩⟩) | (go_at_call 9; (with_reducible refine (trig_Sin.calls kj4 x5_2 t117 _ A20.out).mono ?_); rintro e w' ⟨rfl, ⟨nd, rfl⟩⟩))
                  go_ret
                  exact ⟨by first | rfl | (simp [errW_none, errW_some] <;> rfl) | (simp only [← hji7, ← hji8]; first | rfl | (simp [errW_none, errW_some] <;> rfl)) | (simp [*, errW_none, errW_some] <;> rfl), by repeat (first | (with_reducible first | exact HB.out | apply below_alloc | apply pw_below_drewN | apply below_drew1) | exact HB.out)⟩
              · rw [if_neg c18] at H
                have c18b0 : (t113 == t115) = false := beq_eq_false_iff_ne.mpr c18
                have c18b1 : (t113 != t115) = true := bne_iff_ne.mpr c18
                obtain rfl := Option.some.inj H
                go_wp2_with (first | ((with_reducible refine gate_callee (f := 9) rfl ?_); refine goesL_ (some 28) rfl rfl Try.func9 (by kernel_rfl) rfl #[.int .i64 ji7] rfl (by (try simp only [List.map_toArray, List.map_cons, List.map_nil]); first | done | (simp only [hji7]; rfl) | rfl | (simp only [List.length_drop, List.length_take]; rfl)) ?_; (with_reducible refine (trig_Sin.calls kj4 ji7 t109 _ A9.out).mono ?_); rintro e w' ⟨rfl, ⟨nd, rfl⟩⟩; refine ⟨_, rfl, ?_⟩) | ((with_reducible refine gate_callee (f := 9) rfl ?_); refine goesL_ (some 30) rfl rfl Try.func9 (by kernel_rfl) rfl #[.int .i64 ji8] rfl (by (try simp only [List.map_toArray, List.map_cons, List.map_nil]); first | done | (simp only [hji8]; rfl) | rfl | (simp only [List.length_drop, List.length_take]; rfl)) ?_; (with_reducible refine (trig_Sin.calls kj4 ji8 t110 _ A10.out).mono ?_); rintro e w' ⟨rfl, ⟨nd, rfl⟩⟩; refine ⟨_, rfl, ?_⟩) | (go_at_call 9; (with_reducible refine (trig_Sin.calls kj4 (wrap64 (5898240 + (ji7))) t111 _ A12.out).mono ?_); rintro e w' ⟨rfl, ⟨nd, rfl⟩⟩) | (go_at_call 9; (with_reducible refine (trig_Sin.calls kj4 (wrap64 (5898240 + (ji8))) t112 _ A13.out).mono ?_); rintro e w' ⟨rfl, ⟨nd, rfl⟩⟩) | (go_at_call 10; (with_reducible refine (trig_Cos.calls kj4 a0 t113 _ A15.out).mono ?_); rintro e w' ⟨rfl, ⟨nd, rfl⟩⟩) | (go_at_call 11; (with_reducible refine (trig_Turn.calls a0 t114 _ A16.out).mono ?_); rintro e w' ⟨rfl, ⟨nd, rfl⟩⟩) | (go_at_call 9; (with_reducible refine (trig_Sin.calls kj4 (wrap64 (t114 + 5898240)) t115 _ A17.out).mono ?_); rintro e w' ⟨rfl, ⟨nd, rfl⟩⟩))
                go_ret
                exact ⟨by first | rfl | (simp [errW_none, errW_some] <;> rfl) | (simp only [← hji7, ← hji8]; first | rfl | (simp [errW_none, errW_some] <;> rfl)) | (simp [*, errW_none, errW_some] <;> rfl), by repeat (first | (with_reducible first | exact HB.out | apply below_alloc | apply pw_below_drewN | apply below_drew1) | exact HB.out)⟩
            · rw [if_neg c14] at H
              have c14b0 : decide (t112 ≤ (wrap64 (t111 + 2))) = false := decide_eq_false c14
              clear c14
              obtain rfl := Option.some.inj H
              go_wp2_with (first | ((with_reducible refine gate_callee (f := 9) rfl ?_); refine goesL_ (some 28) rfl rfl Try.func9 (by kernel_rfl) rfl #[.int .i64 ji7] rfl (by (try simp only [List.map_toArray, List.map_cons, List.map_nil]); first | done | (simp only [hji7]; rfl) | rfl | (simp only [List.length_drop, List.length_take]; rfl)) ?_; (with_reducible refine (trig_Sin.calls kj4 ji7 t109 _ A9.out).mono ?_); rintro e w' ⟨rfl, ⟨nd, rfl⟩⟩; refine ⟨_, rfl, ?_⟩) | ((with_reducible refine gate_callee (f := 9) rfl ?_); refine goesL_ (some 30) rfl rfl Try.func9 (by kernel_rfl) rfl #[.int .i64 ji8] rfl (by (try simp only [List.map_toArray, List.map_cons, List.map_nil]); first | done | (simp only [hji8]; rfl) | rfl | (simp only [List.length_drop, List.length_take]; rfl)) ?_; (with_reducible refine (trig_Sin.calls kj4 ji8 t110 _ A10.out).mono ?_); rintro e w' ⟨rfl, ⟨nd, rfl⟩⟩; refine ⟨_, rfl, ?_⟩) | (go_at_call 9; (with_reducible refine (trig_Sin.calls kj4 (wrap64 (5898240 + (ji7))) t111 _ A12.out).mono ?_); rintro e w' ⟨rfl, ⟨nd, rfl⟩⟩) | (go_at_call 9; (with_reducible refine (trig_Sin.calls kj4 (wrap64 (5898240 + (ji8))) t112 _ A13.out).mono ?_); rintro e w' ⟨rfl, ⟨nd, rfl⟩⟩))
              go_ret
              exact ⟨by first | rfl | (simp [errW_none, errW_some] <;> rfl) | (simp only [← hji7, ← hji8]; first | rfl | (simp [errW_none, errW_some] <;> rfl)) | (simp [*, errW_none, errW_some] <;> rfl), by repeat (first | (with_reducible first | exact HB.out | apply below_alloc | apply pw_below_drewN | apply below_drew1) | exact HB.out)⟩
          · rw [if_neg c11] at H
            have c11b0 : decide (t109 ≤ (wrap64 (t110 + 2))) = false := decide_eq_false c11
            clear c11
            obtain rfl := Option.some.inj H
            go_wp2_with (first | ((with_reducible refine gate_callee (f := 9) rfl ?_); refine goesL_ (some 28) rfl rfl Try.func9 (by kernel_rfl) rfl #[.int .i64 ji7] rfl (by (try simp only [List.map_toArray, List.map_cons, List.map_nil]); first | done | (simp only [hji7]; rfl) | rfl | (simp only [List.length_drop, List.length_take]; rfl)) ?_; (with_reducible refine (trig_Sin.calls kj4 ji7 t109 _ A9.out).mono ?_); rintro e w' ⟨rfl, ⟨nd, rfl⟩⟩; refine ⟨_, rfl, ?_⟩) | ((with_reducible refine gate_callee (f := 9) rfl ?_); refine goesL_ (some 30) rfl rfl Try.func9 (by kernel_rfl) rfl #[.int .i64 ji8] rfl (by (try simp only [List.map_toArray, List.map_cons, List.map_nil]); first | done | (simp only [hji8]; rfl) | rfl | (simp only [List.length_drop, List.length_take]; rfl)) ?_; (with_reducible refine (trig_Sin.calls kj4 ji8 t110 _ A10.out).mono ?_); rintro e w' ⟨rfl, ⟨nd, rfl⟩⟩; refine ⟨_, rfl, ?_⟩))
            go_ret
            exact ⟨by first | rfl | (simp [errW_none, errW_some] <;> rfl) | (simp only [← hji7, ← hji8]; first | rfl | (simp [errW_none, errW_some] <;> rfl)) | (simp [*, errW_none, errW_some] <;> rfl), by repeat (first | (with_reducible first | exact HB.out | apply below_alloc | apply pw_below_drewN | apply below_drew1) | exact HB.out)⟩

/-- THE ONE PURE STATEMENT of mutoscopelaw2_TrigEighths: yours. -/
def mutoscopelaw2_TrigEighths.Pure : Prop := ∀ (a0 : Int) (a1 : Int), (Lit.int .i64 a0).wf = true → (Lit.int .i64 a1).wf = true → ∃ k, mutoscopelaw2_TrigEighths.f k a0 a1 = some true
theorem mutoscopelaw2_TrigEighths.walk (P : mutoscopelaw2_TrigEighths.Pure) (a0 : Int) (a1 : Int) (w : World) (w0 : (Lit.int .i64 a0).wf = true) (w1 : (Lit.int .i64 a1).wf = true) :
    Calls Try.prog 6 #[.int .i64 a0, .int .i64 a1] w fun e w' => e = .returned (.bool true) ∧ Below w.heap.size w w' := by
  obtain ⟨k, h⟩ := P a0 a1 w0 w1
  refine (mutoscopelaw2_TrigEighths.calls k a0 a1 true w h).mono ?_
  rintro e w' ⟨rfl, hd⟩
  exact ⟨rfl, hd⟩

end Go.Proofs.Ytjjfcefnhidniaa.PTrigEighths
