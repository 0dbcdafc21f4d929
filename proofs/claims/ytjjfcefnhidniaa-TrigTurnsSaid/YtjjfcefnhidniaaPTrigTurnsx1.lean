-- PRINTED BY print.sh 35421559b90ae4d0a3588c463048766b98c2df88dd9212a6774a882060cdf62d: not written by this session
import Derived.Test.YtjjfcefnhidniaaPTrigTurnsx0
namespace Go.Proofs.Ytjjfcefnhidniaa.PTrigTurns
open Go.RowKit Go.Proofs.YtjjfcefnhidniaaW.PrintWords Go.Proofs.YtjjfcefnhidniaaW.PrintLast Go.Proofs.YtjjfcefnhidniaaW.PrintMore
attribute [local go_sem] max2_int min2_int max_two min_two max_three min_three max_four min_four   -- for this text's walks alone
set_option linter.unusedVariables false
set_option linter.unusedSimpArgs false

/-! ### trig_Turn: function 11 -/
def trig_Turn.f (a0 : Int) : Option (Int) := if (Int.tmod a0 23592960) < 0 then (some (wrap64 ((Int.tmod a0 23592960) + 23592960))) else (some (Int.tmod a0 23592960))
set_option maxHeartbeats 8000000 in
set_option maxRecDepth 100000 in
theorem trig_Turn.calls (a0 : Int) (r : Int) (w : World) (h : trig_Turn.f a0 = some r) :
    Calls Try.prog 11 #[.int .i64 a0] w fun e w' => e = .returned (.int .i64 r) ∧ Drawn0 w w' := by
  have H : (if (Int.tmod a0 23592960) < 0 then (some (wrap64 ((Int.tmod a0 23592960) + 23592960))) else (some (Int.tmod a0 23592960))) = some r := h
  clear h
  by_cases c2 : (Int.tmod a0 23592960) < 0
  · rw [if_pos c2] at H
    have c2b0 : decide ((Int.tmod a0 23592960) < 0) = true := decide_eq_true c2
    clear c2
    obtain rfl := Option.some.inj H
    go_enter Try.func11, Try.ntmps11
    go_wp2
    go_ret
    exact ⟨by first | rfl | (simp; done) | (simp [*]; done), by repeat (first | exact Drawn0.refl _ | apply Drawn0.step)⟩
  · rw [if_neg c2] at H
    have c2b0 : decide ((Int.tmod a0 23592960) < 0) = false := decide_eq_false c2
    clear c2
    obtain rfl := Option.some.inj H
    go_enter Try.func11, Try.ntmps11
    go_wp2
    go_ret
    exact ⟨by first | rfl | (simp; done) | (simp [*]; done), by repeat (first | exact Drawn0.refl _ | apply Drawn0.step)⟩

/-! ### trig_Sin: function 9 -/
def trig_Sin.f : Nat → Int → Option (Int)
  | 0, _ => none
  | k + 1, a0 => (trig_Turn.f a0).bind fun t101 => (if t101 ≥ 11796480 then ((trig_Sin.f k (wrap64 (t101 - 11796480))).bind fun t102 => (some (wrap64 (-t102)))) else (if (wrap64 (2654208000 - (wrap64 (Int.tdiv (wrap64 (t101 * (wrap64 (11796480 - t101)))) 65536)))) = 0 then (none) else (some (wrap64 (Int.tdiv (wrap64 ((wrap64 (4 * (wrap64 (Int.tdiv (wrap64 (t101 * (wrap64 (11796480 - t101)))) 65536)))) * 65536)) (wrap64 (2654208000 - (wrap64 (Int.tdiv (wrap64 (t101 * (wrap64 (11796480 - t101)))) 65536)))))))))
theorem trig_Sin.mono_l : ∀ k, (∀ y0, LeO (trig_Sin.f k y0) (trig_Sin.f (k + 1) y0))
  | 0 => fun _ r h => by simp [trig_Sin.f] at h
  | k + 1 => by
    have ih0 := trig_Sin.mono_l k
    · intro y0
      unfold trig_Sin.f
      repeat' first
      | (with_reducible exact ih0 _)
      | (with_reducible exact LeO.refl _)
      | (with_reducible exact LeO.none _)
      | (with_reducible refine LeO.ite ?_ ?_)
      | (with_reducible refine LeO.bind ?_ (fun _ => ?_))
      | exact ih0 _
      | exact LeO.none _
      | refine LeO.ite ?_ ?_
      | refine LeO.bind ?_ (fun _ => ?_)
theorem trig_Sin.mono : ∀ a0 k, LeO (trig_Sin.f k a0) (trig_Sin.f (k + 1) a0) := by
  intro a0 k
  have ih0 := trig_Sin.mono_l k
  exact ih0 a0
set_option maxHeartbeats 8000000 in
set_option maxRecDepth 100000 in
theorem trig_Sin.calls (k : Nat) : ∀ (a0 : Int) (r : Int) (w : World) (h : trig_Sin.f k a0 = some r),
    Calls Try.prog 9 #[.int .i64 a0] w fun e w' => e = .returned (.int .i64 r) ∧ Drawn0 w w' := by
  induction k using Nat.strongRecOn with
  | _ k ih =>
  intro a0 r w h
  cases k with
  | zero => exact absurd h (by simp [trig_Sin.f])
  | succ k =>
  simp only [trig_Sin.f] at h
  have H : ((trig_Turn.f a0).bind fun t101 => (if t101 ≥ 11796480 then ((trig_Sin.f k (wrap64 (t101 - 11796480))).bind fun t102 => (some (wrap64 (-t102)))) else (if (wrap64 (2654208000 - (wrap64 (Int.tdiv (wrap64 (t101 * (wrap64 (11796480 - t101)))) 65536)))) = 0 then (none) else (some (wrap64 (Int.tdiv (wrap64 ((wrap64 (4 * (wrap64 (Int.tdiv (wrap64 (t101 * (wrap64 (11796480 - t101)))) 65536)))) * 65536)) (wrap64 (2654208000 - (wrap64 (Int.tdiv (wrap64 (t101 * (wrap64 (11796480 - t101)))) 65536)))))))))) = some r := h
  clear h
  replace H := Option.bind_eq_some_iff.mp H
  obtain ⟨t101, A20, H⟩ := H
  replace H : (if t101 ≥ 11796480 then ((trig_Sin.f k (wrap64 (t101 - 11796480))).bind fun t102 => (some (wrap64 (-t102)))) else (if (wrap64 (2654208000 - (wrap64 (Int.tdiv (wrap64 (t101 * (wrap64 (11796480 - t101)))) 65536)))) = 0 then (none) else (some (wrap64 (Int.tdiv (wrap64 ((wrap64 (4 * (wrap64 (Int.tdiv (wrap64 (t101 * (wrap64 (11796480 - t101)))) 65536)))) * 65536)) (wrap64 (2654208000 - (wrap64 (Int.tdiv (wrap64 (t101 * (wrap64 (11796480 - t101)))) 65536))))))))) = some r := H
  have A2 := Aside0.mk A20
  clear A20
  by_cases c3 : t101 ≥ 11796480
  · rw [if_pos c3] at H
    have c3b0 : decide (11796480 ≤ t101) = true := decide_eq_true c3
    clear c3
    replace H := Option.bind_eq_some_iff.mp H
    obtain ⟨t102, A40, H⟩ := H
    replace H : (some (wrap64 (-t102))) = some r := H
    have A4 := Aside0.mk A40
    clear A40
    obtain rfl := Option.some.inj H
    go_enter Try.func9, Try.ntmps9
    go_wp2_with (first | ((with_reducible refine gate_callee (f := 11) rfl ?_); refine goesL_ (some 6) rfl rfl Try.func11 (by kernel_rfl) rfl #[.int .i64 a0] rfl (by (try simp only [List.map_toArray, List.map_cons, List.map_nil]); first | done | rfl | (simp only [List.length_drop, List.length_take]; rfl)) ?_; (with_reducible refine (trig_Turn.calls a0 t101 _ A2.out).mono ?_); rintro e w' ⟨rfl, ⟨nd, rfl⟩⟩; refine ⟨_, rfl, ?_⟩) | ((with_reducible refine gate_callee (f := 9) rfl ?_); refine goesL_ (some 11) rfl rfl Try.func9 (by kernel_rfl) rfl #[.int .i64 (wrap64 (t101 - 11796480))] rfl (by (try simp only [List.map_toArray, List.map_cons, List.map_nil]); first | done | rfl | (simp only [List.length_drop, List.length_take]; rfl)) ?_; (with_reducible refine (ih k (by omega) (wrap64 (t101 - 11796480)) t102 _ A4.out).mono ?_); rintro e w' ⟨rfl, ⟨nd, rfl⟩⟩; refine ⟨_, rfl, ?_⟩))
    go_ret
    exact ⟨by first | rfl | (simp; done) | (simp [*]; done), by repeat (first | exact Drawn0.refl _ | apply Drawn0.step)⟩
  · rw [if_neg c3] at H
    have c3b0 : decide (11796480 ≤ t101) = false := decide_eq_false c3
    clear c3
    by_cases c5 : (wrap64 (2654208000 - (wrap64 (Int.tdiv (wrap64 (t101 * (wrap64 (11796480 - t101)))) 65536)))) = 0
    · rw [if_pos c5] at H
      exact absurd H (by simp)
    · rw [if_neg c5] at H
      have c5b0 : ((wrap64 (2654208000 - (wrap64 (Int.tdiv (wrap64 (t101 * (wrap64 (11796480 - t101)))) 65536)))) == 0) = false := beq_eq_false_iff_ne.mpr c5
      have c5b1 : ((wrap64 (2654208000 - (wrap64 (Int.tdiv (wrap64 (t101 * (wrap64 (11796480 - t101)))) 65536)))) != 0) = true := bne_iff_ne.mpr c5
      obtain rfl := Option.some.inj H
      go_enter Try.func9, Try.ntmps9
      go_wp2_with (first | ((with_reducible refine gate_callee (f := 11) rfl ?_); refine goesL_ (some 6) rfl rfl Try.func11 (by kernel_rfl) rfl #[.int .i64 a0] rfl (by (try simp only [List.map_toArray, List.map_cons, List.map_nil]); first | done | rfl | (simp only [List.length_drop, List.length_take]; rfl)) ?_; (with_reducible refine (trig_Turn.calls a0 t101 _ A2.out).mono ?_); rintro e w' ⟨rfl, ⟨nd, rfl⟩⟩; refine ⟨_, rfl, ?_⟩))
      go_ret
      exact ⟨by first | rfl | (simp; done) | (simp [*]; done), by repeat (first | exact Drawn0.refl _ | apply Drawn0.step)⟩

/-! ### trig_Cos: function 10 -/
def trig_Cos.f (k : Nat) (a0 : Int) : Option (Int) := (trig_Turn.f a0).bind fun t103 => ((trig_Sin.f k (wrap64 (t103 + 5898240))).bind fun t104 => (some t104))
theorem trig_Cos.mono : ∀ a0 k, LeO (trig_Cos.f k a0) (trig_Cos.f (k + 1) a0) := by
  intro a0 k
  unfold trig_Cos.f
  repeat' first
      | (with_reducible exact trig_Sin.mono _ _)
      | (with_reducible exact LeO.refl _)
      | (with_reducible exact LeO.none _)
      | (with_reducible refine LeO.ite ?_ ?_)
      | (with_reducible refine LeO.bind ?_ (fun _ => ?_))
      | exact trig_Sin.mono _ _
      | exact LeO.none _
      | refine LeO.ite ?_ ?_
      | refine LeO.bind ?_ (fun _ => ?_)
set_option maxHeartbeats 8000000 in
set_option maxRecDepth 100000 in
theorem trig_Cos.calls (k : Nat) (a0 : Int) (r : Int) (w : World) (h : trig_Cos.f k a0 = some r) :
    Calls Try.prog 10 #[.int .i64 a0] w fun e w' => e = .returned (.int .i64 r) ∧ Drawn0 w w' := by
  have H : ((trig_Turn.f a0).bind fun t103 => ((trig_Sin.f k (wrap64 (t103 + 5898240))).bind fun t104 => (some t104))) = some r := h
  clear h
  replace H := Option.bind_eq_some_iff.mp H
  obtain ⟨t103, A20, H⟩ := H
  replace H : ((trig_Sin.f k (wrap64 (t103 + 5898240))).bind fun t104 => (some t104)) = some r := H
  have A2 := Aside0.mk A20
  clear A20
  replace H := Option.bind_eq_some_iff.mp H
  obtain ⟨t104, A30, H⟩ := H
  replace H : (some t104) = some r := H
  have A3 := Aside0.mk A30
  clear A30
  obtain rfl := Option.some.inj H
  go_enter Try.func10, Try.ntmps10
  go_wp2_with (first | ((with_reducible refine gate_callee (f := 11) rfl ?_); refine goesL_ (some 4) rfl rfl Try.func11 (by kernel_rfl) rfl #[.int .i64 a0] rfl (by (try simp only [List.map_toArray, List.map_cons, List.map_nil]); first | done | rfl | (simp only [List.length_drop, List.length_take]; rfl)) ?_; (with_reducible refine (trig_Turn.calls a0 t103 _ A2.out).mono ?_); rintro e w' ⟨rfl, ⟨nd, rfl⟩⟩; refine ⟨_, rfl, ?_⟩) | ((with_reducible refine gate_callee (f := 9) rfl ?_); refine goesL_ (some 6) rfl rfl Try.func9 (by kernel_rfl) rfl #[.int .i64 (wrap64 (t103 + 5898240))] rfl (by (try simp only [List.map_toArray, List.map_cons, List.map_nil]); first | done | rfl | (simp only [List.length_drop, List.length_take]; rfl)) ?_; (with_reducible refine (trig_Sin.calls k (wrap64 (t103 + 5898240)) t104 _ A3.out).mono ?_); rintro e w' ⟨rfl, ⟨nd, rfl⟩⟩; refine ⟨_, rfl, ?_⟩))
  go_ret
  exact ⟨by first | rfl | (simp; done) | (simp [*]; done), by repeat (first | exact Drawn0.refl _ | apply Drawn0.step)⟩

/-! ### mutoscopelaw2_known: function 8 -/
def mutoscopelaw2_known.f (k : Nat)  : Option (Bool) := (trig_Sin.f k 5898240).bind fun t105 => (if t105 = 65536 then ((trig_Sin.f k 0).bind fun t106 => (if t106 = 0 then ((trig_Cos.f k 11796480).bind fun t107 => (if t107 = (-65536) then ((trig_Turn.f (-1)).bind fun t108 => (some (t108 == 23592959))) else (some false))) else (some false))) else (some false))
theorem mutoscopelaw2_known.mono : ∀ k, LeO (mutoscopelaw2_known.f k ) (mutoscopelaw2_known.f (k + 1) ) := by
  intro  k
  unfold mutoscopelaw2_known.f
  repeat' first
      | (with_reducible exact trig_Cos.mono _ _)
      | (with_reducible exact trig_Sin.mono _ _)
      | (with_reducible exact LeO.refl _)
      | (with_reducible exact LeO.none _)
      | (with_reducible refine LeO.ite ?_ ?_)
      | (with_reducible refine LeO.bind ?_ (fun _ => ?_))
      | exact trig_Cos.mono _ _
      | exact trig_Sin.mono _ _
      | exact LeO.none _
      | refine LeO.ite ?_ ?_
      | refine LeO.bind ?_ (fun _ => ?_)
set_option maxHeartbeats 8000000 in
set_option maxRecDepth 100000 in
theorem mutoscopelaw2_known.calls (k : Nat)  (r : Bool) (w : World) (h : mutoscopelaw2_known.f k  = some r) :
    Calls Try.prog 8 #[] w fun e w' => e = .returned (.bool r) ∧ Drawn0 w w' := by
  have H : ((trig_Sin.f k 5898240).bind fun t105 => (if t105 = 65536 then ((trig_Sin.f k 0).bind fun t106 => (if t106 = 0 then ((trig_Cos.f k 11796480).bind fun t107 => (if t107 = (-65536) then ((trig_Turn.f (-1)).bind fun t108 => (some (t108 == 23592959))) else (some false))) else (some false))) else (some false))) = some r := h
  clear h
  replace H := Option.bind_eq_some_iff.mp H
  obtain ⟨t105, A10, H⟩ := H
  replace H : (if t105 = 65536 then ((trig_Sin.f k 0).bind fun t106 => (if t106 = 0 then ((trig_Cos.f k 11796480).bind fun t107 => (if t107 = (-65536) then ((trig_Turn.f (-1)).bind fun t108 => (some (t108 == 23592959))) else (some false))) else (some false))) else (some false)) = some r := H
  have A1 := Aside0.mk A10
  clear A10
  by_cases c2 : t105 = 65536
  · rw [if_pos c2] at H
    have c2b0 : (t105 == 65536) = true := beq_iff_eq.mpr c2
    have c2b1 : (t105 != 65536) = false := bne_eq_false_iff_eq.mpr c2
    clear c2
    replace H := Option.bind_eq_some_iff.mp H
    obtain ⟨t106, A30, H⟩ := H
    replace H : (if t106 = 0 then ((trig_Cos.f k 11796480).bind fun t107 => (if t107 = (-65536) then ((trig_Turn.f (-1)).bind fun t108 => (some (t108 == 23592959))) else (some false))) else (some false)) = some r := H
    have A3 := Aside0.mk A30
    clear A30
    by_cases c4 : t106 = 0
    · rw [if_pos c4] at H
      have c4b0 : (t106 == 0) = true := beq_iff_eq.mpr c4
      have c4b1 : (t106 != 0) = false := bne_eq_false_iff_eq.mpr c4
      clear c4
      replace H := Option.bind_eq_some_iff.mp H
      obtain ⟨t107, A50, H⟩ := H
      replace H : (if t107 = (-65536) then ((trig_Turn.f (-1)).bind fun t108 => (some (t108 == 23592959))) else (some false)) = some r := H
      have A5 := Aside0.mk A50
      clear A50
      by_cases c6 : t107 = (-65536)
      · rw [if_pos c6] at H
        have c6b0 : (t107 == (-65536)) = true := beq_iff_eq.mpr c6
        have c6b1 : (t107 != (-65536)) = false := bne_eq_false_iff_eq.mpr c6
        clear c6
        replace H := Option.bind_eq_some_iff.mp H
        obtain ⟨t108, A70, H⟩ := H
        replace H : (some (t108 == 23592959)) = some r := H
        have A7 := Aside0.mk A70
        clear A70
        obtain rfl := Option.some.inj H
        go_enter Try.func8, Try.ntmps8
        go_wp2_with (first | ((with_reducible refine gate_callee (f := 9) rfl ?_); refine goesL_ (some 1) rfl rfl Try.func9 (by kernel_rfl) rfl #[.int .i64 5898240] rfl (by (try simp only [List.map_toArray, List.map_cons, List.map_nil]); first | done | rfl | (simp only [List.length_drop, List.length_take]; rfl)) ?_; (with_reducible refine (trig_Sin.calls k 5898240 t105 _ A1.out).mono ?_); rintro e w' ⟨rfl, ⟨nd, rfl⟩⟩; refine ⟨_, rfl, ?_⟩) | (go_at_call 9; (with_reducible refine (trig_Sin.calls k 0 t106 _ A3.out).mono ?_); rintro e w' ⟨rfl, ⟨nd, rfl⟩⟩) | (go_at_call 10; (with_reducible refine (trig_Cos.calls k 11796480 t107 _ A5.out).mono ?_); rintro e w' ⟨rfl, ⟨nd, rfl⟩⟩) | (go_at_call 11; (with_reducible refine (trig_Turn.calls (-1) t108 _ A7.out).mono ?_); rintro e w' ⟨rfl, ⟨nd, rfl⟩⟩))
        go_ret
        exact ⟨by first | rfl | (simp; done) | (simp [*]; done), by repeat (first | exact Drawn0.refl _ | apply Drawn0.step)⟩
      · rw [if_neg c6] at H
        have c6b0 : (t107 == (-65536)) = false := beq_eq_false_iff_ne.mpr c6
        have c6b1 : (t107 != (-65536)) = true := bne_iff_ne.mpr c6
        obtain rfl := Option.some.inj H
        go_enter Try.func8, Try.ntmps8
        go_wp2_with (first | ((with_reducible refine gate_callee (f := 9) rfl ?_); refine goesL_ (some 1) rfl rfl Try.func9 (by kernel_rfl) rfl #[.int .i64 5898240] rfl (by (try simp only [List.map_toArray, List.map_cons, List.map_nil]); first | done | rfl | (simp only [List.length_drop, List.length_take]; rfl)) ?_; (with_reducible refine (trig_Sin.calls k 5898240 t105 _ A1.out).mono ?_); rintro e w' ⟨rfl, ⟨nd, rfl⟩⟩; refine ⟨_, rfl, ?_⟩) | (go_at_call 9; (with_reducible refine (trig_Sin.calls k 0 t106 _ A3.out).mono ?_); rintro e w' ⟨rfl, ⟨nd, rfl⟩⟩) | (go_at_call 10; (with_reducible refine (trig_Cos.calls k 11796480 t107 _ A5.out).mono ?_); rintro e w' ⟨rfl, ⟨nd, rfl⟩⟩))
        go_ret
        exact ⟨by first | rfl | (simp; done) | (simp [*]; done), by repeat (first | exact Drawn0.refl _ | apply Drawn0.step)⟩
    · rw [if_neg c4] at H
      have c4b0 : (t106 == 0) = false := beq_eq_false_iff_ne.mpr c4
      have c4b1 : (t106 != 0) = true := bne_iff_ne.mpr c4
      obtain rfl := Option.some.inj H
      go_enter Try.func8, Try.ntmps8
      go_wp2_with (first | ((with_reducible refine gate_callee (f := 9) rfl ?_); refine goesL_ (some 1) rfl rfl Try.func9 (by kernel_rfl) rfl #[.int .i64 5898240] rfl (by (try simp only [List.map_toArray, List.map_cons, List.map_nil]); first | done | rfl | (simp only [List.length_drop, List.length_take]; rfl)) ?_; (with_reducible refine (trig_Sin.calls k 5898240 t105 _ A1.out).mono ?_); rintro e w' ⟨rfl, ⟨nd, rfl⟩⟩; refine ⟨_, rfl, ?_⟩) | (go_at_call 9; (with_reducible refine (trig_Sin.calls k 0 t106 _ A3.out).mono ?_); rintro e w' ⟨rfl, ⟨nd, rfl⟩⟩))
      go_ret
      exact ⟨by first | rfl | (simp; done) | (simp [*]; done), by repeat (first | exact Drawn0.refl _ | apply Drawn0.step)⟩
  · rw [if_neg c2] at H
    have c2b0 : (t105 == 65536) = false := beq_eq_false_iff_ne.mpr c2
    have c2b1 : (t105 != 65536) = true := bne_iff_ne.mpr c2
    obtain rfl := Option.some.inj H
    go_enter Try.func8, Try.ntmps8
    go_wp2_with (first | ((with_reducible refine gate_callee (f := 9) rfl ?_); refine goesL_ (some 1) rfl rfl Try.func9 (by kernel_rfl) rfl #[.int .i64 5898240] rfl (by (try simp only [List.map_toArray, List.map_cons, List.map_nil]); first | done | rfl | (simp only [List.length_drop, List.length_take]; rfl)) ?_; (with_reducible refine (trig_Sin.calls k 5898240 t105 _ A1.out).mono ?_); rintro e w' ⟨rfl, ⟨nd, rfl⟩⟩; refine ⟨_, rfl, ?_⟩))
    go_ret
    exact ⟨by first | rfl | (simp; done) | (simp [*]; done), by repeat (first | exact Drawn0.refl _ | apply Drawn0.step)⟩

/-! ### mutoscopelaw2_TrigTurns: function 5 -/
def mutoscopelaw2_TrigTurns.f (k : Nat) (a0 : Int) : Option (Bool) := (trig_Sin.f k (Int.tmod a0 1099511627776)).bind fun t109 => ((trig_Cos.f k (Int.tmod a0 1099511627776)).bind fun t110 => ((trig_Sin.f k (wrap64 ((Int.tmod a0 1099511627776) + 23592960))).bind fun t111 => (if t111 = t109 then ((trig_Cos.f k (wrap64 ((Int.tmod a0 1099511627776) + 23592960))).bind fun t112 => (if t112 = t110 then ((trig_Sin.f k (wrap64 ((Int.tmod a0 1099511627776) + 11796480))).bind fun t113 => (if t113 = (wrap64 (-t109)) then (if t109 > 65536 then (some false) else (if t109 < (-65536) then (some false) else (if t110 > 65536 then (some false) else (if t110 < (-65536) then (some false) else (if (wrap64 (Int.tdiv (wrap64 ((wrap64 (t109 * t109)) + (wrap64 (t110 * t110)))) 65536)) > 64880 then (if (wrap64 (Int.tdiv (wrap64 ((wrap64 (t109 * t109)) + (wrap64 (t110 * t110)))) 65536)) < 66191 then ((mutoscopelaw2_known.f k).bind fun t114 => (some t114)) else (some false)) else (some false)))))) else (some false))) else (some false))) else (some false))))
theorem mutoscopelaw2_TrigTurns.mono : ∀ a0 k, LeO (mutoscopelaw2_TrigTurns.f k a0) (mutoscopelaw2_TrigTurns.f (k + 1) a0) := by
  intro a0 k
  unfold mutoscopelaw2_TrigTurns.f
  repeat' first
      | (with_reducible exact mutoscopelaw2_known.mono _)
      | (with_reducible exact trig_Cos.mono _ _)
      | (with_reducible exact trig_Sin.mono _ _)
      | (with_reducible exact LeO.refl _)
      | (with_reducible exact LeO.none _)
      | (with_reducible refine LeO.ite ?_ ?_)
      | (with_reducible refine LeO.bind ?_ (fun _ => ?_))
      | exact mutoscopelaw2_known.mono _
      | exact trig_Cos.mono _ _
      | exact trig_Sin.mono _ _
      | exact LeO.none _
      | refine LeO.ite ?_ ?_
      | refine LeO.bind ?_ (fun _ => ?_)
set_option maxHeartbeats 8000000 in
set_option maxRecDepth 100000 in
theorem mutoscopelaw2_TrigTurns.calls (k : Nat) (a0 : Int) (r : Bool) (w : World) (h : mutoscopelaw2_TrigTurns.f k a0 = some r) :
    Calls Try.prog 5 #[.int .i64 a0] w fun e w' => e = .returned (.bool r) ∧ Drawn0 w w' := by
  have H : ((trig_Sin.f k (Int.tmod a0 1099511627776)).bind fun t109 => ((trig_Cos.f k (Int.tmod a0 1099511627776)).bind fun t110 => ((trig_Sin.f k (wrap64 ((Int.tmod a0 1099511627776) + 23592960))).bind fun t111 => (if t111 = t109 then ((trig_Cos.f k (wrap64 ((Int.tmod a0 1099511627776) + 23592960))).bind fun t112 => (if t112 = t110 then ((trig_Sin.f k (wrap64 ((Int.tmod a0 1099511627776) + 11796480))).bind fun t113 => (if t113 = (wrap64 (-t109)) then (if t109 > 65536 then (some false) else (if t109 < (-65536) then (some false) else (if t110 > 65536 then (some false) else (if t110 < (-65536) then (some false) else (if (wrap64 (Int.tdiv (wrap64 ((wrap64 (t109 * t109)) + (wrap64 (t110 * t110)))) 65536)) > 64880 then (if (wrap64 (Int.tdiv (wrap64 ((wrap64 (t109 * t109)) + (wrap64 (t110 * t110)))) 65536)) < 66191 then ((mutoscopelaw2_known.f k).bind fun t114 => (some t114)) else (some false)) else (some false)))))) else (some false))) else (some false))) else (some false))))) = some r := h
  clear h
  replace H := Option.bind_eq_some_iff.mp H
  obtain ⟨t109, A20, H⟩ := H
  replace H : ((trig_Cos.f k (Int.tmod a0 1099511627776)).bind fun t110 => ((trig_Sin.f k (wrap64 ((Int.tmod a0 1099511627776) + 23592960))).bind fun t111 => (if t111 = t109 then ((trig_Cos.f k (wrap64 ((Int.tmod a0 1099511627776) + 23592960))).bind fun t112 => (if t112 = t110 then ((trig_Sin.f k (wrap64 ((Int.tmod a0 1099511627776) + 11796480))).bind fun t113 => (if t113 = (wrap64 (-t109)) then (if t109 > 65536 then (some false) else (if t109 < (-65536) then (some false) else (if t110 > 65536 then (some false) else (if t110 < (-65536) then (some false) else (if (wrap64 (Int.tdiv (wrap64 ((wrap64 (t109 * t109)) + (wrap64 (t110 * t110)))) 65536)) > 64880 then (if (wrap64 (Int.tdiv (wrap64 ((wrap64 (t109 * t109)) + (wrap64 (t110 * t110)))) 65536)) < 66191 then ((mutoscopelaw2_known.f k).bind fun t114 => (some t114)) else (some false)) else (some false)))))) else (some false))) else (some false))) else (some false)))) = some r := H
  have A2 := Aside0.mk A20
  clear A20
  replace H := Option.bind_eq_some_iff.mp H
  obtain ⟨t110, A30, H⟩ := H
  replace H : ((trig_Sin.f k (wrap64 ((Int.tmod a0 1099511627776) + 23592960))).bind fun t111 => (if t111 = t109 then ((trig_Cos.f k (wrap64 ((Int.tmod a0 1099511627776) + 23592960))).bind fun t112 => (if t112 = t110 then ((trig_Sin.f k (wrap64 ((Int.tmod a0 1099511627776) + 11796480))).bind fun t113 => (if t113 = (wrap64 (-t109)) then (if t109 > 65536 then (some false) else (if t109 < (-65536) then (some false) else (if t110 > 65536 then (some false) else (if t110 < (-65536) then (some false) else (if (wrap64 (Int.tdiv (wrap64 ((wrap64 (t109 * t109)) + (wrap64 (t110 * t110)))) 65536)) > 64880 then (if (wrap64 (Int.tdiv (wrap64 ((wrap64 (t109 * t109)) + (wrap64 (t110 * t110)))) 65536)) < 66191 then ((mutoscopelaw2_known.f k).bind fun t114 => (some t114)) else (some false)) else (some false)))))) else (some false))) else (some false))) else (some false))) = some r := H
  have A3 := Aside0.mk A30
  clear A30
  replace H := Option.bind_eq_some_iff.mp H
  obtain ⟨t111, A40, H⟩ := H
  replace H : (if t111 = t109 then ((trig_Cos.f k (wrap64 ((Int.tmod a0 1099511627776) + 23592960))).bind fun t112 => (if t112 = t110 then ((trig_Sin.f k (wrap64 ((Int.tmod a0 1099511627776) + 11796480))).bind fun t113 => (if t113 = (wrap64 (-t109)) then (if t109 > 65536 then (some false) else (if t109 < (-65536) then (some false) else (if t110 > 65536 then (some false) else (if t110 < (-65536) then (some false) else (if (wrap64 (Int.tdiv (wrap64 ((wrap64 (t109 * t109)) + (wrap64 (t110 * t110)))) 65536)) > 64880 then (if (wrap64 (Int.tdiv (wrap64 ((wrap64 (t109 * t109)) + (wrap64 (t110 * t110)))) 65536)) < 66191 then ((mutoscopelaw2_known.f k).bind fun t114 => (some t114)) else (some false)) else (some false)))))) else (some false))) else (some false))) else (some false)) = some r := H
  have A4 := Aside0.mk A40
  clear A40
  by_cases c5 : t111 = t109
  · rw [if_pos c5] at H
    have c5b0 : (t111 == t109) = true := beq_iff_eq.mpr c5
    have c5b1 : (t111 != t109) = false := bne_eq_false_iff_eq.mpr c5
    clear c5
    replace H := Option.bind_eq_some_iff.mp H
    obtain ⟨t112, A60, H⟩ := H
    replace H : (if t112 = t110 then ((trig_Sin.f k (wrap64 ((Int.tmod a0 1099511627776) + 11796480))).bind fun t113 => (if t113 = (wrap64 (-t109)) then (if t109 > 65536 then (some false) else (if t109 < (-65536) then (some false) else (if t110 > 65536 then (some false) else (if t110 < (-65536) then (some false) else (if (wrap64 (Int.tdiv (wrap64 ((wrap64 (t109 * t109)) + (wrap64 (t110 * t110)))) 65536)) > 64880 then (if (wrap64 (Int.tdiv (wrap64 ((wrap64 (t109 * t109)) + (wrap64 (t110 * t110)))) 65536)) < 66191 then ((mutoscopelaw2_known.f k).bind fun t114 => (some t114)) else (some false)) else (some false)))))) else (some false))) else (some false)) = some r := H
    have A6 := Aside0.mk A60
    clear A60
    by_cases c7 : t112 = t110
    · rw [if_pos c7] at H
      have c7b0 : (t112 == t110) = true := beq_iff_eq.mpr c7
      have c7b1 : (t112 != t110) = false := bne_eq_false_iff_eq.mpr c7
      clear c7
      replace H := Option.bind_eq_some_iff.mp H
      obtain ⟨t113, A80, H⟩ := H
      replace H : (if t113 = (wrap64 (-t109)) then (if t109 > 65536 then (some false) else (if t109 < (-65536) then (some false) else (if t110 > 65536 then (some false) else (if t110 < (-65536) then (some false) else (if (wrap64 (Int.tdiv (wrap64 ((wrap64 (t109 * t109)) + (wrap64 (t110 * t110)))) 65536)) > 64880 then (if (wrap64 (Int.tdiv (wrap64 ((wrap64 (t109 * t109)) + (wrap64 (t110 * t110)))) 65536)) < 66191 then ((mutoscopelaw2_known.f k).bind fun t114 => (some t114)) else (some false)) else (some false)))))) else (some false)) = some r := H
      have A8 := Aside0.mk A80
      clear A80
      by_cases c9 : t113 = (wrap64 (-t109))
      · rw [if_pos c9] at H
        have c9b0 : (t113 == (wrap64 (-t109))) = true := beq_iff_eq.mpr c9
        have c9b1 : (t113 != (wrap64 (-t109))) = false := bne_eq_false_iff_eq.mpr c9
        clear c9
        by_cases c10 : t109 > 65536
        · rw [if_pos c10] at H
          have c10b0 : decide (65536 < t109) = true := decide_eq_true c10
          clear c10
          obtain rfl := Option.some.inj H
          go_enter Try.func5, Try.ntmps5
          go_wp2_with (first | ((with_reducible refine gate_callee (f := 9) rfl ?_); refine goesL_ (some 10) rfl rfl Try.func9 (by kernel_rfl) rfl #[.int .i64 (Int.tmod a0 1099511627776)] rfl (by (try simp only [List.map_toArray, List.map_cons, List.map_nil]); first | done | rfl | (simp only [List.length_drop, List.length_take]; rfl)) ?_; (with_reducible refine (trig_Sin.calls k (Int.tmod a0 1099511627776) t109 _ A2.out).mono ?_); rintro e w' ⟨rfl, ⟨nd, rfl⟩⟩; refine ⟨_, rfl, ?_⟩) | ((with_reducible refine gate_callee (f := 10) rfl ?_); refine goesL_ (some 12) rfl rfl Try.func10 (by kernel_rfl) rfl #[.int .i64 (Int.tmod a0 1099511627776)] rfl (by (try simp only [List.map_toArray, List.map_cons, List.map_nil]); first | done | rfl | (simp only [List.length_drop, List.length_take]; rfl)) ?_; (with_reducible refine (trig_Cos.calls k (Int.tmod a0 1099511627776) t110 _ A3.out).mono ?_); rintro e w' ⟨rfl, ⟨nd, rfl⟩⟩; refine ⟨_, rfl, ?_⟩) | ((with_reducible refine gate_callee (f := 9) rfl ?_); refine goesL_ (some 15) rfl rfl Try.func9 (by kernel_rfl) rfl #[.int .i64 (wrap64 ((Int.tmod a0 1099511627776) + 23592960))] rfl (by (try simp only [List.map_toArray, List.map_cons, List.map_nil]); first | done | rfl | (simp only [List.length_drop, List.length_take]; rfl)) ?_; (with_reducible refine (trig_Sin.calls k (wrap64 ((Int.tmod a0 1099511627776) + 23592960)) t111 _ A4.out).mono ?_); rintro e w' ⟨rfl, ⟨nd, rfl⟩⟩; refine ⟨_, rfl, ?_⟩) | (go_at_call 10; (with_reducible refine (trig_Cos.calls k (wrap64 ((Int.tmod a0 1099511627776) + 23592960)) t112 _ A6.out).mono ?_); rintro e w' ⟨rfl, ⟨nd, rfl⟩⟩) | (go_at_call 9; (with_reducible refine (trig_Sin.calls k (wrap64 ((Int.tmod a0 1099511627776) + 11796480)) t113 _ A8.out).mono ?_); rintro e w' ⟨rfl, ⟨nd, rfl⟩⟩))
          go_ret
          exact ⟨by first | rfl | (simp; done) | (simp [*]; done), by repeat (first | exact Drawn0.refl _ | apply Drawn0.step)⟩
        · rw [if_neg c10] at H
          have c10b0 : decide (65536 < t109) = false := decide_eq_false c10
          clear c10
          by_cases c11 : t109 < (-65536)
          · rw [if_pos c11] at H
            have c11b0 : decide (t109 < (-65536)) = true := decide_eq_true c11
            clear c11
            obtain rfl := Option.some.inj H
            go_enter Try.func5, Try.ntmps5
            go_wp2_with (first | ((with_reducible refine gate_callee (f := 9) rfl ?_); refine goesL_ (some 10) rfl rfl Try.func9 (by kernel_rfl) rfl #[.int .i64 (Int.tmod a0 1099511627776)] rfl (by (try simp only [List.map_toArray, List.map_cons, List.map_nil]); first | done | rfl | (simp only [List.length_drop, List.length_take]; rfl)) ?_; (with_reducible refine (trig_Sin.calls k (Int.tmod a0 1099511627776) t109 _ A2.out).mono ?_); rintro e w' ⟨rfl, ⟨nd, rfl⟩⟩; refine ⟨_, rfl, ?_⟩) | ((with_reducible refine gate_callee (f := 10) rfl ?_); refine goesL_ (some 12) rfl rfl Try.func10 (by kernel_rfl) rfl #[.int .i64 (Int.tmod a0 1099511627776)] rfl (by (try simp only [List.map_toArray, List.map_cons, List.map_nil]); first | done | rfl | (simp only [List.length_drop, List.length_take]; rfl)) ?_; (with_reducible refine (trig_Cos.calls k (Int.tmod a0 1099511627776) t110 _ A3.out).mono ?_); rintro e w' ⟨rfl, ⟨nd, rfl⟩⟩; refine ⟨_, rfl, ?_⟩) | ((with_reducible refine gate_callee (f := 9) rfl ?_); refine goesL_ (some 15) rfl rfl Try.func9 (by kernel_rfl) rfl #[.int .i64 (wrap64 ((Int.tmod a0 1099511627776) + 23592960))] rfl (by (try simp only [List.map_toArray, List.map_cons, List.map_nil]); first | done | rfl | (simp only [List.length_drop, List.length_take]; rfl)) ?_; (with_reducible refine (trig_Sin.calls k (wrap64 ((Int.tmod a0 1099511627776) + 23592960)) t111 _ A4.out).mono ?_); rintro e w' ⟨rfl, ⟨nd, rfl⟩⟩; refine ⟨_, rfl, ?_⟩) | (go_at_call 10; (with_reducible refine (trig_Cos.calls k (wrap64 ((Int.tmod a0 1099511627776) + 23592960)) t112 _ A6.out).mono ?_); rintro e w' ⟨rfl, ⟨nd, rfl⟩⟩) | (go_at_call 9; (with_reducible refine (trig_Sin.calls k (wrap64 ((Int.tmod a0 1099511627776) + 11796480)) t113 _ A8.out).mono ?_); rintro e w' ⟨rfl, ⟨nd, rfl⟩⟩))
            go_ret
            exact ⟨by first | rfl | (simp; done) | (simp [*]; done), by repeat (first | exact Drawn0.refl _ | apply Drawn0.step)⟩
          · rw [if_neg c11] at H
            have c11b0 : decide (t109 < (-65536)) = false := decide_eq_false c11
            clear c11
            by_cases c12 : t110 > 65536
            · rw [if_pos c12] at H
              have c12b0 : decide (65536 < t110) = true := decide_eq_true c12
              clear c12
              obtain rfl := Option.some.inj H
              go_enter Try.func5, Try.ntmps5
              go_wp2_with (first | ((with_reducible refine gate_callee (f := 9) rfl ?_); refine goesL_ (some 10) rfl rfl Try.func9 (by kernel_rfl) rfl #[.int .i64 (Int.tmod a0 1099511627776)] rfl (by (try simp only [List.map_toArray, List.map_cons, List.map_nil]); first | done | rfl | (simp only [List.length_drop, List.length_take]; rfl)) ?_; (with_reducible refine (trig_Sin.calls k (Int.tmod a0 1099511627776) t109 _ A2.out).mono ?_); rintro e w' ⟨rfl, ⟨nd, rfl⟩⟩; refine ⟨_, rfl, ?_⟩) | ((with_reducible refine gate_callee (f := 10) rfl ?_); refine goesL_ (some 12) rfl rfl Try.func10 (by kernel_rfl) rfl #[.int .i64 (Int.tmod a0 1099511627776)] rfl (by (try simp only [List.map_toArray, List.map_cons, List.map_nil]); first | done | rfl | (simp only [List.length_drop, List.length_take]; rfl)) ?_; (with_reducible refine (trig_Cos.calls k (Int.tmod a0 1099511627776) t110 _ A3.out).mono ?_); rintro e w' ⟨rfl, ⟨nd, rfl⟩⟩; refine ⟨_, rfl, ?_⟩) | ((with_reducible refine gate_callee (f := 9) rfl ?_); refine goesL_ (some 15) rfl rfl Try.func9 (by kernel_rfl) rfl #[.int .i64 (wrap64 ((Int.tmod a0 1099511627776) + 23592960))] rfl (by (try simp only [List.map_toArray, List.map_cons, List.map_nil]); first | done | rfl | (simp only [List.length_drop, List.length_take]; rfl)) ?_; (with_reducible refine (trig_Sin.calls k (wrap64 ((Int.tmod a0 1099511627776) + 23592960)) t111 _ A4.out).mono ?_); rintro e w' ⟨rfl, ⟨nd, rfl⟩⟩; refine ⟨_, rfl, ?_⟩) | (go_at_call 10; (with_reducible refine (trig_Cos.calls k (wrap64 ((Int.tmod a0 1099511627776) + 23592960)) t112 _ A6.out).mono ?_); rintro e w' ⟨rfl, ⟨nd, rfl⟩⟩) | (go_at_call 9; (with_reducible refine (trig_Sin.calls k (wrap64 ((Int.tmod a0 1099511627776) + 11796480)) t113 _ A8.out).mono ?_); rintro e w' ⟨rfl, ⟨nd, rfl⟩⟩))
              go_ret
              exact ⟨by first | rfl | (simp; done) | (simp [*]; done), by repeat (first | exact Drawn0.refl _ | apply Drawn0.step)⟩
            · rw [if_neg c12] at H
              have c12b0 : decide (65536 < t110) = false := decide_eq_false c12
              clear c12
              by_cases c13 : t110 < (-65536)
              · rw [if_pos c13] at H
                have c13b0 : decide (t110 < (-65536)) = true := decide_eq_true c13
                clear c13
                obtain rfl := Option.some.inj H
                go_enter Try.func5, Try.ntmps5
                go_wp2_with (first | ((with_reducible refine gate_callee (f := 9) rfl ?_); refine goesL_ (some 10) rfl rfl Try.func9 (by kernel_rfl) rfl #[.int .i64 (Int.tmod a0 1099511627776)] rfl (by (try simp only [List.map_toArray, List.map_cons, List.map_nil]); first | done | rfl | (simp only [List.length_drop, List.length_take]; rfl)) ?_; (with_reducible refine (trig_Sin.calls k (Int.tmod a0 1099511627776) t109 _ A2.out).mono ?_); rintro e w' ⟨rfl, ⟨nd, rfl⟩⟩; refine ⟨_, rfl, ?_⟩) | ((with_reducible refine gate_callee (f := 10) rfl ?_); refine goesL_ (some 12) rfl rfl Try.func10 (by kernel_rfl) rfl #[.int .i64 (Int.tmod a0 1099511627776)] rfl (by (try simp only [List.map_toArray, List.map_cons, List.map_nil]); first | done | rfl | (simp only [List.length_drop, List.length_take]; rfl)) ?_; (with_reducible refine (trig_Cos.calls k (Int.tmod a0 1099511627776) t110 _ A3.out).mono ?_); rintro e w' ⟨rfl, ⟨nd, rfl⟩⟩; refine ⟨_, rfl, ?_⟩) | ((with_reducible refine gate_callee (f := 9) rfl ?_); refine goesL_ (some 15) rfl rfl Try.func9 (by kernel_rfl) rfl #[.int .i64 (wrap64 ((Int.tmod a0 1099511627776) + 23592960))] rfl (by (try simp only [List.map_toArray, List.map_cons, List.map_nil]); first | done | rfl | (simp only [List.length_drop, List.length_take]; rfl)) ?_; (with_reducible refine (trig_Sin.calls k (wrap64 ((Int.tmod a0 1099511627776) + 23592960)) t111 _ A4.out).mono ?_); rintro e w' ⟨rfl, ⟨nd, rfl⟩⟩; refine ⟨_, rfl, ?_⟩) | (go_at_call 10; (with_reducible refine (trig_Cos.calls k (wrap64 ((Int.tmod a0 1099511627776) + 23592960)) t112 _ A6.out).mono ?_); rintro e w' ⟨rfl, ⟨nd, rfl⟩⟩) | (go_at_call 9; (with_reducible refine (trig_Sin.calls k (wrap64 ((Int.tmod a0 1099511627776) + 11796480)) t113 _ A8.out).mono ?_); rintro e w' ⟨rfl, ⟨nd, rfl⟩⟩))
                go_ret
                exact ⟨by first | rfl | (simp; done) | (simp [*]; done), by repeat (first | exact Drawn0.refl _ | apply Drawn0.step)⟩
              · rw [if_neg c13] at H
                have c13b0 : decide (t110 < (-65536)) = false := decide_eq_false c13
                clear c13
                by_cases c14 : (wrap64 (Int.tdiv (wrap64 ((wrap64 (t109 * t109)) + (wrap64 (t110 * t110)))) 65536)) > 64880
                · rw [if_pos c14] at H
                  have c14b0 : decide (64880 < (wrap64 (Int.tdiv (wrap64 ((wrap64 (t109 * t109)) + (wrap64 (t110 * t110)))) 65536))) = true := decide_eq_true c14
                  clear c14
                  by_cases c15 : (wrap64 (Int.tdiv (wrap64 ((wrap64 (t109 * t109)) + (wrap64 (t110 * t110)))) 65536)) < 66191
                  · rw [if_pos c15] at H
                    have c15b0 : decide ((wrap64 (Int.tdiv (wrap64 ((wrap64 (t109 * t109)) + (wrap64 (t110 * t110)))) 65536)) < 66191) = true := decide_eq_true c15
                    clear c15
                    replace H := Option.bind_eq_some_iff.mp H
                    obtain ⟨t114, A160, H⟩ := H
                    replace H : (some t114) = some r := H
                    have A16 := Aside0.mk A160
                    clear A160
                    obtain rfl := Option.some.inj H
                    go_enter Try.func5, Try.ntmps5
                    go_wp2_with (first | ((with_reducible refine gate_callee (f := 9) rfl ?_); refine goesL_ (some 10) rfl rfl Try.func9 (by kernel_rfl) rfl #[.int .i64 (Int.tmod a0 1099511627776)] rfl (by (try simp only [List.map_toArray, List.map_cons, List.map_nil]); first | done | rfl | (simp only [List.length_drop, List.length_take]; rfl)) ?_; (with_reducible refine (trig_Sin.calls k (Int.tmod a0 1099511627776) t109 _ A2.out).mono ?_); rintro e w' ⟨rfl, ⟨nd, rfl⟩⟩; refine ⟨_, rfl, ?_⟩) | ((with_reducible refine gate_callee (f := 10) rfl ?_); refine goesL_ (some 12) rfl rfl Try.func10 (by kernel_rfl) rfl #[.int .i64 (Int.tmod a0 1099511627776)] rfl (by (try simp only [List.map_toArray, List.map_cons, List.map_nil]); first | done | rfl | (simp only [List.length_drop, List.length_take]; rfl)) ?_; (with_reducible refine (trig_Cos.calls k (Int.tmod a0 1099511627776) t110 _ A3.out).mono ?_); rintro e w' ⟨rfl, ⟨nd, rfl⟩⟩; refine ⟨_, rfl, ?_⟩) | ((with_reducible refine gate_callee (f := 9) rfl ?_); refine goesL_ (some 15) rfl rfl Try.func9 (by kernel_rfl) rfl #[.int .i64 (wrap64 ((Int.tmod a0 1099511627776) + 23592960))] rfl (by (try simp only [List.map_toArray, List.map_cons, List.map_nil]); first | done | rfl | (simp only [List.length_drop, List.length_take]; rfl)) ?_; (with_reducible refine (trig_Sin.calls k (wrap64 ((Int.tmod a0 1099511627776) + 23592960)) t111 _ A4.out).mono ?_); rintro e w' ⟨rfl, ⟨nd, rfl⟩⟩; refine ⟨_, rfl, ?_⟩) | (go_at_call 10; (with_reducible refine (trig_Cos.calls k (wrap64 ((Int.tmod a0 1099511627776) + 23592960)) t112 _ A6.out).mono ?_); rintro e w' ⟨rfl, ⟨nd, rfl⟩⟩) | (go_at_call 9; (with_reducible refine (trig_Sin.calls k (wrap64 ((Int.tmod a0 1099511627776) + 11796480)) t113 _ A8.out).mono ?_); rintro e w' ⟨rfl, ⟨nd, rfl⟩⟩) | (go_at_call 8; (with_reducible refine (mutoscopelaw2_known.calls k  t114 _ A16.out).mono ?_); rintro e w' ⟨rfl, ⟨nd, rfl⟩⟩))
                    go_ret
                    exact ⟨by first | rfl | (simp; done) | (simp [*]; done), by repeat (first | exact Drawn0.refl _ | apply Drawn0.step)⟩
                  · rw [if_neg c15] at H
                    have c15b0 : decide ((wrap64 (Int.tdiv (wrap64 ((wrap64 (t109 * t109)) + (wrap64 (t110 * t110)))) 65536)) < 66191) = false := decide_eq_false c15
                    clear c15
                    obtain rfl := Option.some.inj H
                    go_enter Try.func5, Try.ntmps5
                    go_wp2_with (first | ((with_reducible refine gate_callee (f := 9) rfl ?_); refine goesL_ (some 10) rfl rfl Try.func9 (by kernel_rfl) rfl #[.int .i64 (Int.tmod a0 1099511627776)] rfl (by (try simp only [List.map_toArray, List.map_cons, List.map_nil]); first | done | rfl | (simp only [List.length_drop, List.length_take]; rfl)) ?_; (with_reducible refine (trig_Sin.calls k (Int.tmod a0 1099511627776) t109 _ A2.out).mono ?_); rintro e w' ⟨rfl, ⟨nd, rfl⟩⟩; refine ⟨_, rfl, ?_⟩) | ((with_reducible refine gate_callee (f := 10) rfl ?_); refine goesL_ (some 12) rfl rfl Try.func10 (by kernel_rfl) rfl #[.int .i64 (Int.tmod a0 1099511627776)] rfl (by (try simp only [List.map_toArray, List.map_cons, List.map_nil]); first | done | rfl | (simp only [List.length_drop, List.length_take]; rfl)) ?_; (with_reducible refine (trig_Cos.calls k (Int.tmod a0 1099511627776) t110 _ A3.out).mono ?_); rintro e w' ⟨rfl, ⟨nd, rfl⟩⟩; refine ⟨_, rfl, ?_⟩) | ((with_reducible refine gate_callee (f := 9) rfl ?_); refine goesL_ (some 15) rfl rfl Try.func9 (by kernel_rfl) rfl #[.int .i64 (wrap64 ((Int.tmod a0 1099511627776) + 23592960))] rfl (by (try simp only [List.map_toArray, List.map_cons, List.map_nil]); first | done | rfl | (simp only [List.length_drop, List.length_take]; rfl)) ?_; (with_reducible refine (trig_Sin.calls k (wrap64 ((Int.tmod a0 1099511627776) + 23592960)) t111 _ A4.out).mono ?_); rintro e w' ⟨rfl, ⟨nd, rfl⟩⟩; refine ⟨_, rfl, ?_⟩) | (go_at_call 10; (with_reducible refine (trig_Cos.calls k (wrap64 ((Int.tmod a0 1099511627776) + 23592960)) t112 _ A6.out).mono ?_); rintro e w' ⟨rfl, ⟨nd, rfl⟩⟩) | (go_at_call 9; (with_reducible refine (trig_Sin.calls k (wrap64 ((Int.tmod a0 1099511627776) + 11796480)) t113 _ A8.out).mono ?_); rintro e w' ⟨rfl, ⟨nd, rfl⟩⟩))
                    go_ret
                    exact ⟨by first | rfl | (simp; done) | (simp [*]; done), by repeat (first | exact Drawn0.refl _ | apply Drawn0.step)⟩
                · rw [if_neg c14] at H
                  have c14b0 : decide (64880 < (wrap64 (Int.tdiv (wrap64 ((wrap64 (t109 * t109)) + (wrap64 (t110 * t110)))) 65536))) = false := decide_eq_false c14
                  clear c14
                  obtain rfl := Option.some.inj H
                  go_enter Try.func5, Try.ntmps5
                  go_wp2_with (first | ((with_reducible refine gate_callee (f := 9) rfl ?_); refine goesL_ (some 10) rfl rfl Try.func9 (by kernel_rfl) rfl #[.int .i64 (Int.tmod a0 1099511627776)] rfl (by (try simp only [List.map_toArray, List.map_cons, List.map_nil]); first | done | rfl | (simp only [List.length_drop, List.length_take]; rfl)) ?_; (with_reducible refine (trig_Sin.calls k (Int.tmod a0 1099511627776) t109 _ A2.out).mono ?_); rintro e w' ⟨rfl, ⟨nd, rfl⟩⟩; refine ⟨_, rfl, ?_⟩) | ((with_reducible refine gate_callee (f := 10) rfl ?_); refine goesL_ (some 12) rfl rfl Try.func10 (by kernel_rfl) rfl #[.int .i64 (Int.tmod a0 1099511627776)] rfl (by (try simp only [List.map_toArray, List.map_cons, List.map_nil]); first | done | rfl | (simp only [List.length_drop, List.length_take]; rfl)) ?_; (with_reducible refine (trig_Cos.calls k (Int.tmod a0 1099511627776) t110 _ A3.out).mono ?_); rintro e w' ⟨rfl, ⟨nd, rfl⟩⟩; refine ⟨_, rfl, ?_⟩) | ((with_reducible refine gate_callee (f := 9) rfl ?_); refine goesL_ (some 15) rfl rfl Try.func9 (by kernel_rfl) rfl #[.int .i64 (wrap64 ((Int.tmod a0 1099511627776) + 23592960))] rfl (by (try simp only [List.map_toArray, List.map_cons, List.map_nil]); first | done | rfl | (simp only [List.length_drop, List.length_take]; rfl)) ?_; (with_reducible refine (trig_Sin.calls k (wrap64 ((Int.tmod a0 1099511627776) + 23592960)) t111 _ A4.out).mono ?_); rintro e w' ⟨rfl, ⟨nd, rfl⟩⟩; refine ⟨_, rfl, ?_⟩) | (go_at_call 10; (with_reducible refine (trig_Cos.calls k (wrap64 ((Int.tmod a0 1099511627776) + 23592960)) t112 _ A6.out).mono ?_); rintro e w' ⟨rfl, ⟨nd, rfl⟩⟩) | (go_at_call 9; (with_reducible refine (trig_Sin.calls k (wrap64 ((Int.tmod a0 1099511627776) + 11796480)) t113 _ A8.out).mono ?_); rintro e w' ⟨rfl, ⟨nd, rfl⟩⟩))
                  go_ret
                  exact ⟨by first | rfl | (simp; done) | (simp [*]; done), by repeat (first | exact Drawn0.refl _ | apply Drawn0.step)⟩
      · rw [if_neg c9] at H
        have c9b0 : (t113 == (wrap64 (-t109))) = false := beq_eq_false_iff_ne.mpr c9
        have c9b1 : (t113 != (wrap64 (-t109))) = true := bne_iff_ne.mpr c9
        obtain rfl := Option.some.inj H
        go_enter Try.func5, Try.ntmps5
        go_wp2_with (first | ((with_reducible refine gate_callee (f := 9) rfl ?_); refine goesL_ (some 10) rfl rfl Try.func9 (by kernel_rfl) rfl #[.int .i64 (Int.tmod a0 1099511627776)] rfl (by (try simp only [List.map_toArray, List.map_cons, List.map_nil]); first | done | rfl | (simp only [List.length_drop, List.length_take]; rfl)) ?_; (with_reducible refine (trig_Sin.calls k (Int.tmod a0 1099511627776) t109 _ A2.out).mono ?_); rintro e w' ⟨rfl, ⟨nd, rfl⟩⟩; refine ⟨_, rfl, ?_⟩) | ((with_reducible refine gate_callee (f := 10) rfl ?_); refine goesL_ (some 12) rfl rfl Try.func10 (by kernel_rfl) rfl #[.int .i64 (Int.tmod a0 1099511627776)] rfl (by (try simp only [List.map_toArray, List.map_cons, List.map_nil]); first | done | rfl | (simp only [List.length_drop, List.length_take]; rfl)) ?_; (with_reducible refine (trig_Cos.calls k (Int.tmod a0 1099511627776) t110 _ A3.out).mono ?_); rintro e w' ⟨rfl, ⟨nd, rfl⟩⟩; refine ⟨_, rfl, ?_⟩) | ((with_reducible refine gate_callee (f := 9) rfl ?_); refine goesL_ (some 15) rfl rfl Try.func9 (by kernel_rfl) rfl #[.int .i64 (wrap64 ((Int.tmod a0 1099511627776) + 23592960))] rfl (by (try simp only [List.map_toArray, List.map_cons, List.map_nil]); first | done | rfl | (simp only [List.length_drop, List.length_take]; rfl)) ?_; (with_reducible refine (trig_Sin.calls k (wrap64 ((Int.tmod a0 1099511627776) + 23592960)) t111 _ A4.out).mono ?_); rintro e w' ⟨rfl, ⟨nd, rfl⟩⟩; refine ⟨_, rfl, ?_⟩) | (go_at_call 10; (with_reducible refine (trig_Cos.calls k (wrap64 ((Int.tmod a0 1099511627776) + 23592960)) t112 _ A6.out).mono ?_); rintro e w' ⟨rfl, ⟨nd, rfl⟩⟩) | (go_at_call 9; (with_reducible refine (trig_Sin.calls k (wrap64 ((Int.tmod a0 1099511627776) + 11796480)) t113 _ A8.out).mono ?_); rintro e w' ⟨rfl, ⟨nd, rfl⟩⟩))
        go_ret
        exact ⟨by first | rfl | (simp; done) | (simp [*]; done), by repeat (first | exact Drawn0.refl _ | apply Drawn0.step)⟩
    · rw [if_neg c7] at H
      have c7b0 : (t112 == t110) = false := beq_eq_false_iff_ne.mpr c7
      have c7b1 : (t112 != t110) = true := bne_iff_ne.mpr c7
      obtain rfl := Option.some.inj H
      go_enter Try.func5, Try.ntmps5
      go_wp2_with (first | ((with_reducible refine gate_callee (f := 9) rfl ?_); refine goesL_ (some 10) rfl rfl Try.func9 (by kernel_rfl) rfl #[.int .i64 (Int.tmod a0 1099511627776)] rfl (by (try simp only [List.map_toArray, List.map_cons, List.map_nil]); first | done | rfl | (simp only [List.length_drop, List.length_take]; rfl)) ?_; (with_reducible refine (trig_Sin.calls k (Int.tmod a0 1099511627776) t109 _ A2.out).mono ?_); rintro e w' ⟨rfl, ⟨nd, rfl⟩⟩; refine ⟨_, rfl, ?_⟩) | ((with_reducible refine gate_callee (f := 10) rfl ?_); refine goesL_ (some 12) rfl rfl Try.func10 (by kernel_rfl) rfl #[.int .i64 (Int.tmod a0 1099511627776)] rfl (by (try simp only [List.map_toArray, List.map_cons, List.map_nil]); first | done | rfl | (simp only [List.length_drop, List.length_take]; rfl)) ?_; (with_reducible refine (trig_Cos.calls k (Int.tmod a0 1099511627776) t110 _ A3.out).mono ?_); rintro e w' ⟨rfl, ⟨nd, rfl⟩⟩; refine ⟨_, rfl, ?_⟩) | ((with_reducible refine gate_callee (f := 9) rfl ?_); refine goesL_ (some 15) rfl rfl Try.func9 (by kernel_rfl) rfl #[.int .i64 (wrap64 ((Int.tmod a0 1099511627776) + 23592960))] rfl (by (try simp only [List.map_toArray, List.map_cons, List.map_nil]); first | done | rfl | (simp only [List.length_drop, List.length_take]; rfl)) ?_; (with_reducible refine (trig_Sin.calls k (wrap64 ((Int.tmod a0 1099511627776) + 23592960)) t111 _ A4.out).mono ?_); rintro e w' ⟨rfl, ⟨nd, rfl⟩⟩; refine ⟨_, rfl, ?_⟩) | (go_at_call 10; (with_reducible refine (trig_Cos.calls k (wrap64 ((Int.tmod a0 1099511627776) + 23592960)) t112 _ A6.out).mono ?_); rintro e w' ⟨rfl, ⟨nd, rfl⟩⟩))
      go_ret
      exact ⟨by first | rfl | (simp; done) | (simp [*]; done), by repeat (first | exact Drawn0.refl _ | apply Drawn0.step)⟩
  · rw [if_neg c5] at H
    have c5b0 : (t111 == t109) = false := beq_eq_false_iff_ne.mpr c5
    have c5b1 : (t111 != t109) = true := bne_iff_ne.mpr c5
    obtain rfl := Option.some.inj H
    go_enter Try.func5, Try.ntmps5
    go_wp2_with (first | ((with_reducible refine gate_callee (f := 9) rfl ?_); refine goesL_ (some 10) rfl rfl Try.func9 (by kernel_rfl) rfl #[.int .i64 (Int.tmod a0 1099511627776)] rfl (by (try simp only [List.map_toArray, List.map_cons, List.map_nil]); first | done | rfl | (simp only [List.length_drop, List.length_take]; rfl)) ?_; (with_reducible refine (trig_Sin.calls k (Int.tmod a0 1099511627776) t109 _ A2.out).mono ?_); rintro e w' ⟨rfl, ⟨nd, rfl⟩⟩; refine ⟨_, rfl, ?_⟩) | ((with_reducible refine gate_callee (f := 10) rfl ?_); refine goesL_ (some 12) rfl rfl Try.func10 (by kernel_rfl) rfl #[.int .i64 (Int.tmod a0 1099511627776)] rfl (by (try simp only [List.map_toArray, List.map_cons, List.map_nil]); first | done | rfl | (simp only [List.length_drop, List.length_take]; rfl)) ?_; (with_reducible refine (trig_Cos.calls k (Int.tmod a0 1099511627776) t110 _ A3.out).mono ?_); rintro e w' ⟨rfl, ⟨nd, rfl⟩⟩; refine ⟨_, rfl, ?_⟩) | ((with_reducible refine gate_callee (f := 9) rfl ?_); refine goesL_ (some 15) rfl rfl Try.func9 (by kernel_rfl) rfl #[.int .i64 (wrap64 ((Int.tmod a0 1099511627776) + 23592960))] rfl (by (try simp only [List.map_toArray, List.map_cons, List.map_nil]); first | done | rfl | (simp only [List.length_drop, List.length_take]; rfl)) ?_; (with_reducible refine (trig_Sin.calls k (wrap64 ((Int.tmod a0 1099511627776) + 23592960)) t111 _ A4.out).mono ?_); rintro e w' ⟨rfl, ⟨nd, rfl⟩⟩; refine ⟨_, rfl, ?_⟩))
    go_ret
    exact ⟨by first | rfl | (simp; done) | (simp [*]; done), by repeat (first | exact Drawn0.refl _ | apply Drawn0.step)⟩

/-- THE ONE PURE STATEMENT of mutoscopelaw2_TrigTurns: yours. -/
def mutoscopelaw2_TrigTurns.Pure : Prop := ∀ (a0 : Int), (Lit.int .i64 a0).wf = true → ∃ k, mutoscopelaw2_TrigTurns.f k a0 = some true
theorem mutoscopelaw2_TrigTurns.walk (P : mutoscopelaw2_TrigTurns.Pure) (a0 : Int) (w : World) (w0 : (Lit.int .i64 a0).wf = true) :
    Calls Try.prog 5 #[.int .i64 a0] w fun e w' => e = .returned (.bool true) ∧ Below w.heap.size w w' := by
  obtain ⟨k, h⟩ := P a0 w0
  refine (mutoscopelaw2_TrigTurns.calls k a0 true w h).mono ?_
  rintro e w' ⟨rfl, hd⟩
  exact ⟨rfl, hd.below⟩

end Go.Proofs.Ytjjfcefnhidniaa.PTrigTurns
