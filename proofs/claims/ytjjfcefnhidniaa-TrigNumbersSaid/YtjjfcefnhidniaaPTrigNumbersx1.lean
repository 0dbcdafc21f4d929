-- PRINTED BY print.sh 35421559b90ae4d0a3588c463048766b98c2df88dd9212a6774a882060cdf62d: not written by this session
import Derived.Test.YtjjfcefnhidniaaPTrigNumbersx0
namespace Go.Proofs.Ytjjfcefnhidniaa.PTrigNumbers
open Go.RowKit Go.Proofs.YtjjfcefnhidniaaW.PrintWords Go.Proofs.YtjjfcefnhidniaaW.PrintLast Go.Proofs.YtjjfcefnhidniaaW.PrintMore
attribute [local go_sem] max2_int min2_int max_two min_two max_three min_three max_four min_four   -- for this text's walks alone
set_option linter.unusedVariables false
set_option linter.unusedSimpArgs false

/-! ### trig_Turn: function 11 -/
def trig_Turn.f (a0 : Int) : Option (Int) := if (Int.tmod a0 23592960) < 0 then (some (wrap64 ((Int.tmod a0 23592960) + 23592960))) else (some (Int.tmod a0 23592960))
set_option maxHeartbeats 8000000 in
set_option maxRecDepth 100000 in
theorem trig_Turn.calls (a0 : Int) (r : Int) (w : World) (h : trig_Turn.f a0 = some r) :
    Calls Try.prog 11 #[.int .i64 a0] w fun e w' => e = .returned (.int .i64 r) ∧ Drawn0 w w' := by
  have H : (if (Int.tmod a0 23592960) < 0 then (some (wrap64 ((Int.tmod a0 23592960) + 23592960))) else (some (Int.tmod a0 23592960))) = some r := h
  clear h
  by_cases c2 : (Int.tmod a0 23592960) < 0
  · rw [if_pos c2] at H
    have c2b0 : decide ((Int.tmod a0 23592960) < 0) = true := decide_eq_true c2
    clear c2
    obtain rfl := Option.some.inj H
    go_enter Try.func11, Try.ntmps11
    go_wp2
    go_ret
    exact ⟨by first | rfl | (simp; done) | (simp [*]; done), by repeat (first | exact Drawn0.refl _ | apply Drawn0.step)⟩
  · rw [if_neg c2] at H
    have c2b0 : decide ((Int.tmod a0 23592960) < 0) = false := decide_eq_false c2
    clear c2
    obtain rfl := Option.some.inj H
    go_enter Try.func11, Try.ntmps11
    go_wp2
    go_ret
    exact ⟨by first | rfl | (simp; done) | (simp [*]; done), by repeat (first | exact Drawn0.refl _ | apply Drawn0.step)⟩

/-! ### trig_Sin: function 9 -/
def trig_Sin.f : Nat → Int → Option (Int)
  | 0, _ => none
  | k + 1, a0 => (trig_Turn.f a0).bind fun t101 => (if t101 ≥ 11796480 then ((trig_Sin.f k (wrap64 (t101 - 11796480))).bind fun t102 => (some (wrap64 (-t102)))) else (if (wrap64 (2654208000 - (wrap64 (Int.tdiv (wrap64 (t101 * (wrap64 (11796480 - t101)))) 65536)))) = 0 then (none) else (some (wrap64 (Int.tdiv (wrap64 ((wrap64 (4 * (wrap64 (Int.tdiv (wrap64 (t101 * (wrap64 (11796480 - t101)))) 65536)))) * 65536)) (wrap64 (2654208000 - (wrap64 (Int.tdiv (wrap64 (t101 * (wrap64 (11796480 - t101)))) 65536)))))))))
theorem trig_Sin.mono_l : ∀ k, (∀ y0, LeO (trig_Sin.f k y0) (trig_Sin.f (k + 1) y0))
  | 0 => fun _ r h => by simp [trig_Sin.f] at h
  | k + 1 => by
    have ih0 := trig_Sin.mono_l k
    · intro y0
      unfold trig_Sin.f
      repeat' first
      | (with_reducible exact ih0 _)
      | (with_reducible exact LeO.refl _)
      | (with_reducible exact LeO.none _)
      | (with_reducible refine LeO.ite ?_ ?_)
      | (with_reducible refine LeO.bind ?_ (fun _ => ?_))
      | exact ih0 _
      | exact LeO.none _
      | refine LeO.ite ?_ ?_
      | refine LeO.bind ?_ (fun _ => ?_)
theorem trig_Sin.mono : ∀ a0 k, LeO (trig_Sin.f k a0) (trig_Sin.f (k + 1) a0) := by
  intro a0 k
  have ih0 := trig_Sin.mono_l k
  exact ih0 a0
set_option maxHeartbeats 8000000 in
set_option maxRecDepth 100000 in
theorem trig_Sin.calls (k : Nat) : ∀ (a0 : Int) (r : Int) (w : World) (h : trig_Sin.f k a0 = some r),
    Calls Try.prog 9 #[.int .i64 a0] w fun e w' => e = .returned (.int .i64 r) ∧ Drawn0 w w' := by
  induction k using Nat.strongRecOn with
  | _ k ih =>
  intro a0 r w h
  cases k with
  | zero => exact absurd h (by simp [trig_Sin.f])
  | succ k =>
  simp only [trig_Sin.f] at h
  have H : ((trig_Turn.f a0).bind fun t101 => (if t101 ≥ 11796480 then ((trig_Sin.f k (wrap64 (t101 - 11796480))).bind fun t102 => (some (wrap64 (-t102)))) else (if (wrap64 (2654208000 - (wrap64 (Int.tdiv (wrap64 (t101 * (wrap64 (11796480 - t101)))) 65536)))) = 0 then (none) else (some (wrap64 (Int.tdiv (wrap64 ((wrap64 (4 * (wrap64 (Int.tdiv (wrap64 (t101 * (wrap64 (11796480 - t101)))) 65536)))) * 65536)) (wrap64 (2654208000 - (wrap64 (Int.tdiv (wrap64 (t101 * (wrap64 (11796480 - t101)))) 65536)))))))))) = some r := h
  clear h
  replace H := Option.bind_eq_some_iff.mp H
  obtain ⟨t101, A20, H⟩ := H
  replace H : (if t101 ≥ 11796480 then ((trig_Sin.f k (wrap64 (t101 - 11796480))).bind fun t102 => (some (wrap64 (-t102)))) else (if (wrap64 (2654208000 - (wrap64 (Int.tdiv (wrap64 (t101 * (wrap64 (11796480 - t101)))) 65536)))) = 0 then (none) else (some (wrap64 (Int.tdiv (wrap64 ((wrap64 (4 * (wrap64 (Int.tdiv (wrap64 (t101 * (wrap64 (11796480 - t101)))) 65536)))) * 65536)) (wrap64 (2654208000 - (wrap64 (Int.tdiv (wrap64 (t101 * (wrap64 (11796480 - t101)))) 65536))))))))) = some r := H
  have A2 := Aside0.mk A20
  clear A20
  by_cases c3 : t101 ≥ 11796480
  · rw [if_pos c3] at H
    have c3b0 : decide (11796480 ≤ t101) = true := decide_eq_true c3
    clear c3
    replace H := Option.bind_eq_some_iff.mp H
    obtain ⟨t102, A40, H⟩ := H
    replace H : (some (wrap64 (-t102))) = some r := H
    have A4 := Aside0.mk A40
    clear A40
    obtain rfl := Option.some.inj H
    go_enter Try.func9, Try.ntmps9
    go_wp2_with (first | ((with_reducible refine gate_callee (f := 11) rfl ?_); refine goesL_ (some 6) rfl rfl Try.func11 (by kernel_rfl) rfl #[.int .i64 a0] rfl (by (try simp only [List.map_toArray, List.map_cons, List.map_nil]); first | done | rfl | (simp only [List.length_drop, List.length_take]; rfl)) ?_; (with_reducible refine (trig_Turn.calls a0 t101 _ A2.out).mono ?_); rintro e w' ⟨rfl, ⟨nd, rfl⟩⟩; refine ⟨_, rfl, ?_⟩) | ((with_reducible refine gate_callee (f := 9) rfl ?_); refine goesL_ (some 11) rfl rfl Try.func9 (by kernel_rfl) rfl #[.int .i64 (wrap64 (t101 - 11796480))] rfl (by (try simp only [List.map_toArray, List.map_cons, List.map_nil]); first | done | rfl | (simp only [List.length_drop, List.length_take]; rfl)) ?_; (with_reducible refine (ih k (by omega) (wrap64 (t101 - 11796480)) t102 _ A4.out).mono ?_); rintro e w' ⟨rfl, ⟨nd, rfl⟩⟩; refine ⟨_, rfl, ?_⟩))
    go_ret
    exact ⟨by first | rfl | (simp; done) | (simp [*]; done), by repeat (first | exact Drawn0.refl _ | apply Drawn0.step)⟩
  · rw [if_neg c3] at H
    have c3b0 : decide (11796480 ≤ t101) = false := decide_eq_false c3
    clear c3
    by_cases c5 : (wrap64 (2654208000 - (wrap64 (Int.tdiv (wrap64 (t101 * (wrap64 (11796480 - t101)))) 65536)))) = 0
    · rw [if_pos c5] at H
      exact absurd H (by simp)
    · rw [if_neg c5] at H
      have c5b0 : ((wrap64 (2654208000 - (wrap64 (Int.tdiv (wrap64 (t101 * (wrap64 (11796480 - t101)))) 65536)))) == 0) = false := beq_eq_false_iff_ne.mpr c5
      have c5b1 : ((wrap64 (2654208000 - (wrap64 (Int.tdiv (wrap64 (t101 * (wrap64 (11796480 - t101)))) 65536)))) != 0) = true := bne_iff_ne.mpr c5
      obtain rfl := Option.some.inj H
      go_enter Try.func9, Try.ntmps9
      go_wp2_with (first | ((with_reducible refine gate_callee (f := 11) rfl ?_); refine goesL_ (some 6) rfl rfl Try.func11 (by kernel_rfl) rfl #[.int .i64 a0] rfl (by (try simp only [List.map_toArray, List.map_cons, List.map_nil]); first | done | rfl | (simp only [List.length_drop, List.length_take]; rfl)) ?_; (with_reducible refine (trig_Turn.calls a0 t101 _ A2.out).mono ?_); rintro e w' ⟨rfl, ⟨nd, rfl⟩⟩; refine ⟨_, rfl, ?_⟩))
      go_ret
      exact ⟨by first | rfl | (simp; done) | (simp [*]; done), by repeat (first | exact Drawn0.refl _ | apply Drawn0.step)⟩

/-! ### trig_Cos: function 10 -/
def trig_Cos.f (k : Nat) (a0 : Int) : Option (Int) := (trig_Turn.f a0).bind fun t103 => ((trig_Sin.f k (wrap64 (t103 + 5898240))).bind fun t104 => (some t104))
theorem trig_Cos.mono : ∀ a0 k, LeO (trig_Cos.f k a0) (trig_Cos.f (k + 1) a0) := by
  intro a0 k
  unfold trig_Cos.f
  repeat' first
      | (with_reducible exact trig_Sin.mono _ _)
      | (with_reducible exact LeO.refl _)
      | (with_reducible exact LeO.none _)
      | (with_reducible refine LeO.ite ?_ ?_)
      | (with_reducible refine LeO.bind ?_ (fun _ => ?_))
      | exact trig_Sin.mono _ _
      | exact LeO.none _
      | refine LeO.ite ?_ ?_
      | refine LeO.bind ?_ (fun _ => ?_)
set_option maxHeartbeats 8000000 in
set_option maxRecDepth 100000 in
theorem trig_Cos.calls (k : Nat) (a0 : Int) (r : Int) (w : World) (h : trig_Cos.f k a0 = some r) :
    Calls Try.prog 10 #[.int .i64 a0] w fun e w' => e = .returned (.int .i64 r) ∧ Drawn0 w w' := by
  have H : ((trig_Turn.f a0).bind fun t103 => ((trig_Sin.f k (wrap64 (t103 + 5898240))).bind fun t104 => (some t104))) = some r := h
  clear h
  replace H := Option.bind_eq_some_iff.mp H
  obtain ⟨t103, A20, H⟩ := H
  replace H : ((trig_Sin.f k (wrap64 (t103 + 5898240))).bind fun t104 => (some t104)) = some r := H
  have A2 := Aside0.mk A20
  clear A20
  replace H := Option.bind_eq_some_iff.mp H
  obtain ⟨t104, A30, H⟩ := H
  replace H : (some t104) = some r := H
  have A3 := Aside0.mk A30
  clear A30
  obtain rfl := Option.some.inj H
  go_enter Try.func10, Try.ntmps10
  go_wp2_with (first | ((with_reducible refine gate_callee (f := 11) rfl ?_); refine goesL_ (some 4) rfl rfl Try.func11 (by kernel_rfl) rfl #[.int .i64 a0] rfl (by (try simp only [List.map_toArray, List.map_cons, List.map_nil]); first | done | rfl | (simp only [List.length_drop, List.length_take]; rfl)) ?_; (with_reducible refine (trig_Turn.calls a0 t103 _ A2.out).mono ?_); rintro e w' ⟨rfl, ⟨nd, rfl⟩⟩; refine ⟨_, rfl, ?_⟩) | ((with_reducible refine gate_callee (f := 9) rfl ?_); refine goesL_ (some 6) rfl rfl Try.func9 (by kernel_rfl) rfl #[.int .i64 (wrap64 (t103 + 5898240))] rfl (by (try simp only [List.map_toArray, List.map_cons, List.map_nil]); first | done | rfl | (simp only [List.length_drop, List.length_take]; rfl)) ?_; (with_reducible refine (trig_Sin.calls k (wrap64 (t103 + 5898240)) t104 _ A3.out).mono ?_); rintro e w' ⟨rfl, ⟨nd, rfl⟩⟩; refine ⟨_, rfl, ?_⟩))
  go_ret
  exact ⟨by first | rfl | (simp; done) | (simp [*]; done), by repeat (first | exact Drawn0.refl _ | apply Drawn0.step)⟩

/-! ### mutoscoperef2_Turn: function 12 -/
def mutoscoperef2_Turn.f (a0 : Int) : Option (Int) := some (Int.tmod (wrap64 ((Int.tmod a0 23592960) + 23592960)) 23592960)
set_option maxHeartbeats 8000000 in
set_option maxRecDepth 100000 in
theorem mutoscoperef2_Turn.calls (a0 : Int) (r : Int) (w : World) (h : mutoscoperef2_Turn.f a0 = some r) :
    Calls Try.prog 12 #[.int .i64 a0] w fun e w' => e = .returned (.int .i64 r) ∧ Drawn0 w w' := by
  have H : (some (Int.tmod (wrap64 ((Int.tmod a0 23592960) + 23592960)) 23592960)) = some r := h
  clear h
  obtain rfl := Option.some.inj H
  go_enter Try.func12, Try.ntmps12
  go_wp2
  go_ret
  exact ⟨by first | rfl | (simp; done) | (simp [*]; done), by repeat (first | exact Drawn0.refl _ | apply Drawn0.step)⟩

/-! ### mutoscoperef2_Sin: function 13 -/
def mutoscoperef2_Sin.f (a0 : Int) : Option (Int) := (mutoscoperef2_Turn.f a0).bind fun t105 => (if t105 ≥ 11796480 then (if (wrap64 (2654208000 - (wrap64 (Int.tdiv (wrap64 ((wrap64 (t105 - 11796480)) * (wrap64 (11796480 - (wrap64 (t105 - 11796480)))))) 65536)))) = 0 then (none) else (some (wrap64 (-(wrap64 (Int.tdiv (wrap64 ((wrap64 (4 * (wrap64 (Int.tdiv (wrap64 ((wrap64 (t105 - 11796480)) * (wrap64 (11796480 - (wrap64 (t105 - 11796480)))))) 65536)))) * 65536)) (wrap64 (2654208000 - (wrap64 (Int.tdiv (wrap64 ((wrap64 (t105 - 11796480)) * (wrap64 (11796480 - (wrap64 (t105 - 11796480)))))) 65536)))))))))) else (if (wrap64 (2654208000 - (wrap64 (Int.tdiv (wrap64 (t105 * (wrap64 (11796480 - t105)))) 65536)))) = 0 then (none) else (some (wrap64 (Int.tdiv (wrap64 ((wrap64 (4 * (wrap64 (Int.tdiv (wrap64 (t105 * (wrap64 (11796480 - t105)))) 65536)))) * 65536)) (wrap64 (2654208000 - (wrap64 (Int.tdiv (wrap64 (t105 * (wrap64 (11796480 - t105)))) 65536)))))))))
set_option maxHeartbeats 8000000 in
set_option maxRecDepth 100000 in
theorem mutoscoperef2_Sin.calls (a0 : Int) (r : Int) (w : World) (h : mutoscoperef2_Sin.f a0 = some r) :
    Calls Try.prog 13 #[.int .i64 a0] w fun e w' => e = .returned (.int .i64 r) ∧ Drawn0 w w' := by
  have H : ((mutoscoperef2_Turn.f a0).bind fun t105 => (if t105 ≥ 11796480 then (if (wrap64 (2654208000 - (wrap64 (Int.tdiv (wrap64 ((wrap64 (t105 - 11796480)) * (wrap64 (11796480 - (wrap64 (t105 - 11796480)))))) 65536)))) = 0 then (none) else (some (wrap64 (-(wrap64 (Int.tdiv (wrap64 ((wrap64 (4 * (wrap64 (Int.tdiv (wrap64 ((wrap64 (t105 - 11796480)) * (wrap64 (11796480 - (wrap64 (t105 - 11796480)))))) 65536)))) * 65536)) (wrap64 (2654208000 - (wrap64 (Int.tdiv (wrap64 ((wrap64 (t105 - 11796480)) * (wrap64 (11796480 - (wrap64 (t105 - 11796480)))))) 65536)))))))))) else (if (wrap64 (2654208000 - (wrap64 (Int.tdiv (wrap64 (t105 * (wrap64 (11796480 - t105)))) 65536)))) = 0 then (none) else (some (wrap64 (Int.tdiv (wrap64 ((wrap64 (4 * (wrap64 (Int.tdiv (wrap64 (t105 * (wrap64 (11796480 - t105)))) 65536)))) * 65536)) (wrap64 (2654208000 - (wrap64 (Int.tdiv (wrap64 (t105 * (wrap64 (11796480 - t105)))) 65536)))))))))) = some r := h
  clear h
  replace H := Option.bind_eq_some_iff.mp H
  obtain ⟨t105, A20, H⟩ := H
  replace H : (if t105 ≥ 11796480 then (if (wrap64 (2654208000 - (wrap64 (Int.tdiv (wrap64 ((wrap64 (t105 - 11796480)) * (wrap64 (11796480 - (wrap64 (t105 - 11796480)))))) 65536)))) = 0 then (none) else (some (wrap64 (-(wrap64 (Int.tdiv (wrap64 ((wrap64 (4 * (wrap64 (Int.tdiv (wrap64 ((wrap64 (t105 - 11796480)) * (wrap64 (11796480 - (wrap64 (t105 - 11796480)))))) 65536)))) * 65536)) (wrap64 (2654208000 - (wrap64 (Int.tdiv (wrap64 ((wrap64 (t105 - 11796480)) * (wrap64 (11796480 - (wrap64 (t105 - 11796480)))))) 65536)))))))))) else (if (wrap64 (2654208000 - (wrap64 (Int.tdiv (wrap64 (t105 * (wrap64 (11796480 - t105)))) 65536)))) = 0 then (none) else (some (wrap64 (Int.tdiv (wrap64 ((wrap64 (4 * (wrap64 (Int.tdiv (wrap64 (t105 * (wrap64 (11796480 - t105)))) 65536)))) * 65536)) (wrap64 (2654208000 - (wrap64 (Int.tdiv (wrap64 (t105 * (wrap64 (11796480 - t105)))) 65536))))))))) = some r := H
  have A2 := Aside0.mk A20
  clear A20
  by_cases c3 : t105 ≥ 11796480
  · rw [if_pos c3] at H
    have c3b0 : decide (11796480 ≤ t105) = true := decide_eq_true c3
    clear c3
    by_cases c4 : (wrap64 (2654208000 - (wrap64 (Int.tdiv (wrap64 ((wrap64 (t105 - 11796480)) * (wrap64 (11796480 - (wrap64 (t105 - 11796480)))))) 65536)))) = 0
    · rw [if_pos c4] at H
      exact absurd H (by simp)
    · rw [if_neg c4] at H
      have c4b0 : ((wrap64 (2654208000 - (wrap64 (Int.tdiv (wrap64 ((wrap64 (t105 - 11796480)) * (wrap64 (11796480 - (wrap64 (t105 - 11796480)))))) 65536)))) == 0) = false := beq_eq_false_iff_ne.mpr c4
      have c4b1 : ((wrap64 (2654208000 - (wrap64 (Int.tdiv (wrap64 ((wrap64 (t105 - 11796480)) * (wrap64 (11796480 - (wrap64 (t105 - 11796480)))))) 65536)))) != 0) = true := bne_iff_ne.mpr c4
      obtain rfl := Option.some.inj H
      go_enter Try.func13, Try.ntmps13
      go_wp2_with (first | ((with_reducible refine gate_callee (f := 12) rfl ?_); refine goesL_ (some 8) rfl rfl Try.func12 (by kernel_rfl) rfl #[.int .i64 a0] rfl (by (try simp only [List.map_toArray, List.map_cons, List.map_nil]); first | done | rfl | (simp only [List.length_drop, List.length_take]; rfl)) ?_; (with_reducible refine (mutoscoperef2_Turn.calls a0 t105 _ A2.out).mono ?_); rintro e w' ⟨rfl, ⟨nd, rfl⟩⟩; refine ⟨_, rfl, ?_⟩))
      go_ret
      exact ⟨by first | rfl | (simp; done) | (simp [*]; done), by repeat (first | exact Drawn0.refl _ | apply Drawn0.step)⟩
  · rw [if_neg c3] at H
    have c3b0 : decide (11796480 ≤ t105) = false := decide_eq_false c3
    clear c3
    by_cases c5 : (wrap64 (2654208000 - (wrap64 (Int.tdiv (wrap64 (t105 * (wrap64 (11796480 - t105)))) 65536)))) = 0
    · rw [if_pos c5] at H
      exact absurd H (by simp)
    · rw [if_neg c5] at H
      have c5b0 : ((wrap64 (2654208000 - (wrap64 (Int.tdiv (wrap64 (t105 * (wrap64 (11796480 - t105)))) 65536)))) == 0) = false := beq_eq_false_iff_ne.mpr c5
      have c5b1 : ((wrap64 (2654208000 - (wrap64 (Int.tdiv (wrap64 (t105 * (wrap64 (11796480 - t105)))) 65536)))) != 0) = true := bne_iff_ne.mpr c5
      obtain rfl := Option.some.inj H
      go_enter Try.func13, Try.ntmps13
      go_wp2_with (first | ((with_reducible refine gate_callee (f := 12) rfl ?_); refine goesL_ (some 8) rfl rfl Try.func12 (by kernel_rfl) rfl #[.int .i64 a0] rfl (by (try simp only [List.map_toArray, List.map_cons, List.map_nil]); first | done | rfl | (simp only [List.length_drop, List.length_take]; rfl)) ?_; (with_reducible refine (mutoscoperef2_Turn.calls a0 t105 _ A2.out).mono ?_); rintro e w' ⟨rfl, ⟨nd, rfl⟩⟩; refine ⟨_, rfl, ?_⟩))
      go_ret
      exact ⟨by first | rfl | (simp; done) | (simp [*]; done), by repeat (first | exact Drawn0.refl _ | apply Drawn0.step)⟩

/-! ### mutoscoperef2_Cos: function 14 -/
def mutoscoperef2_Cos.f (a0 : Int) : Option (Int) := (mutoscoperef2_Turn.f a0).bind fun t106 => ((mutoscoperef2_Sin.f (wrap64 (t106 + 5898240))).bind fun t107 => (some t107))
set_option maxHeartbeats 8000000 in
set_option maxRecDepth 100000 in
theorem mutoscoperef2_Cos.calls (a0 : Int) (r : Int) (w : World) (h : mutoscoperef2_Cos.f a0 = some r) :
    Calls Try.prog 14 #[.int .i64 a0] w fun e w' => e = .returned (.int .i64 r) ∧ Drawn0 w w' := by
  have H : ((mutoscoperef2_Turn.f a0).bind fun t106 => ((mutoscoperef2_Sin.f (wrap64 (t106 + 5898240))).bind fun t107 => (some t107))) = some r := h
  clear h
  replace H := Option.bind_eq_some_iff.mp H
  obtain ⟨t106, A20, H⟩ := H
  replace H : ((mutoscoperef2_Sin.f (wrap64 (t106 + 5898240))).bind fun t107 => (some t107)) = some r := H
  have A2 := Aside0.mk A20
  clear A20
  replace H := Option.bind_eq_some_iff.mp H
  obtain ⟨t107, A30, H⟩ := H
  replace H : (some t107) = some r := H
  have A3 := Aside0.mk A30
  clear A30
  obtain rfl := Option.some.inj H
  go_enter Try.func14, Try.ntmps14
  go_wp2_with (first | ((with_reducible refine gate_callee (f := 12) rfl ?_); refine goesL_ (some 4) rfl rfl Try.func12 (by kernel_rfl) rfl #[.int .i64 a0] rfl (by (try simp only [List.map_toArray, List.map_cons, List.map_nil]); first | done | rfl | (simp only [List.length_drop, List.length_take]; rfl)) ?_; (with_reducible refine (mutoscoperef2_Turn.calls a0 t106 _ A2.out).mono ?_); rintro e w' ⟨rfl, ⟨nd, rfl⟩⟩; refine ⟨_, rfl, ?_⟩) | ((with_reducible refine gate_callee (f := 13) rfl ?_); refine goesL_ (some 6) rfl rfl Try.func13 (by kernel_rfl) rfl #[.int .i64 (wrap64 (t106 + 5898240))] rfl (by (try simp only [List.map_toArray, List.map_cons, List.map_nil]); first | done | rfl | (simp only [List.length_drop, List.length_take]; rfl)) ?_; (with_reducible refine (mutoscoperef2_Sin.calls (wrap64 (t106 + 5898240)) t107 _ A3.out).mono ?_); rintro e w' ⟨rfl, ⟨nd, rfl⟩⟩; refine ⟨_, rfl, ?_⟩))
  go_ret
  exact ⟨by first | rfl | (simp; done) | (simp [*]; done), by repeat (first | exact Drawn0.refl _ | apply Drawn0.step)⟩

/-! ### mutoscopelaw2_same: function 7 -/
def mutoscopelaw2_same.f (k : Nat) (a0 : Int) : Option (Bool) := (trig_Turn.f a0).bind fun t108 => ((mutoscoperef2_Turn.f a0).bind fun t109 => (if t108 = t109 then ((trig_Sin.f k a0).bind fun t110 => ((mutoscoperef2_Sin.f a0).bind fun t111 => (if t110 = t111 then ((trig_Cos.f k a0).bind fun t112 => ((mutoscoperef2_Cos.f a0).bind fun t113 => (some (t112 == t113)))) else (some false)))) else (some false)))
theorem mutoscopelaw2_same.mono : ∀ a0 k, LeO (mutoscopelaw2_same.f k a0) (mutoscopelaw2_same.f (k + 1) a0) := by
  intro a0 k
  unfold mutoscopelaw2_same.f
  repeat' first
      | (with_reducible exact trig_Cos.mono _ _)
      | (with_reducible exact trig_Sin.mono _ _)
      | (with_reducible exact LeO.refl _)
      | (with_reducible exact LeO.none _)
      | (with_reducible refine LeO.ite ?_ ?_)
      | (with_reducible refine LeO.bind ?_ (fun _ => ?_))
      | exact trig_Cos.mono _ _
      | exact trig_Sin.mono _ _
      | exact LeO.none _
      | refine LeO.ite ?_ ?_
      | refine LeO.bind ?_ (fun _ => ?_)
set_option maxHeartbeats 8000000 in
set_option maxRecDepth 100000 in
theorem mutoscopelaw2_same.calls (k : Nat) (a0 : Int) (r : Bool) (w : World) (h : mutoscopelaw2_same.f k a0 = some r) :
    Calls Try.prog 7 #[.int .i64 a0] w fun e w' => e = .returned (.bool r) ∧ Drawn0 w w' := by
  have H : ((trig_Turn.f a0).bind fun t108 => ((mutoscoperef2_Turn.f a0).bind fun t109 => (if t108 = t109 then ((trig_Sin.f k a0).bind fun t110 => ((mutoscoperef2_Sin.f a0).bind fun t111 => (if t110 = t111 then ((trig_Cos.f k a0).bind fun t112 => ((mutoscoperef2_Cos.f a0).bind fun t113 => (some (t112 == t113)))) else (some false)))) else (some false)))) = some r := h
  clear h
  replace H := Option.bind_eq_some_iff.mp H
  obtain ⟨t108, A20, H⟩ := H
  replace H : ((mutoscoperef2_Turn.f a0).bind fun t109 => (if t108 = t109 then ((trig_Sin.f k a0).bind fun t110 => ((mutoscoperef2_Sin.f a0).bind fun t111 => (if t110 = t111 then ((trig_Cos.f k a0).bind fun t112 => ((mutoscoperef2_Cos.f a0).bind fun t113 => (some (t112 == t113)))) else (some false)))) else (some false))) = some r := H
  have A2 := Aside0.mk A20
  clear A20
  replace H := Option.bind_eq_some_iff.mp H
  obtain ⟨t109, A30, H⟩ := H
  replace H : (if t108 = t109 then ((trig_Sin.f k a0).bind fun t110 => ((mutoscoperef2_Sin.f a0).bind fun t111 => (if t110 = t111 then ((trig_Cos.f k a0).bind fun t112 => ((mutoscoperef2_Cos.f a0).bind fun t113 => (some (t112 == t113)))) else (some false)))) else (some false)) = some r := H
  have A3 := Aside0.mk A30
  clear A30
  by_cases c4 : t108 = t109
  · rw [if_pos c4] at H
    have c4b0 : (t108 == t109) = true := beq_iff_eq.mpr c4
    have c4b1 : (t108 != t109) = false := bne_eq_false_iff_eq.mpr c4
    clear c4
    replace H := Option.bind_eq_some_iff.mp H
    obtain ⟨t110, A50, H⟩ := H
    replace H : ((mutoscoperef2_Sin.f a0).bind fun t111 => (if t110 = t111 then ((trig_Cos.f k a0).bind fun t112 => ((mutoscoperef2_Cos.f a0).bind fun t113 => (some (t112 == t113)))) else (some false))) = some r := H
    have A5 := Aside0.mk A50
    clear A50
    replace H := Option.bind_eq_some_iff.mp H
    obtain ⟨t111, A60, H⟩ := H
    replace H : (if t110 = t111 then ((trig_Cos.f k a0).bind fun t112 => ((mutoscoperef2_Cos.f a0).bind fun t113 => (some (t112 == t113)))) else (some false)) = some r := H
    have A6 := Aside0.mk A60
    clear A60
    by_cases c7 : t110 = t111
    · rw [if_pos c7] at H
      have c7b0 : (t110 == t111) = true := beq_iff_eq.mpr c7
      have c7b1 : (t110 != t111) = false := bne_eq_false_iff_eq.mpr c7
      clear c7
      replace H := Option.bind_eq_some_iff.mp H
      obtain ⟨t112, A80, H⟩ := H
      replace H : ((mutoscoperef2_Cos.f a0).bind fun t113 => (some (t112 == t113))) = some r := H
      have A8 := Aside0.mk A80
      clear A80
      replace H := Option.bind_eq_some_iff.mp H
      obtain ⟨t113, A90, H⟩ := H
      replace H : (some (t112 == t113)) = some r := H
      have A9 := Aside0.mk A90
      clear A90
      obtain rfl := Option.some.inj H
      go_enter Try.func7, Try.ntmps7
      go_wp2_with (first | ((with_reducible refine gate_callee (f := 11) rfl ?_); refine goesL_ (some 4) rfl rfl Try.func11 (by kernel_rfl) rfl #[.int .i64 a0] rfl (by (try simp only [List.map_toArray, List.map_cons, List.map_nil]); first | done | rfl | (simp only [List.length_drop, List.length_take]; rfl)) ?_; (with_reducible refine (trig_Turn.calls a0 t108 _ A2.out).mono ?_); rintro e w' ⟨rfl, ⟨nd, rfl⟩⟩; refine ⟨_, rfl, ?_⟩) | ((with_reducible refine gate_callee (f := 12) rfl ?_); refine goesL_ (some 6) rfl rfl Try.func12 (by kernel_rfl) rfl #[.int .i64 a0] rfl (by (try simp only [List.map_toArray, List.map_cons, List.map_nil]); first | done | rfl | (simp only [List.length_drop, List.length_take]; rfl)) ?_; (with_reducible refine (mutoscoperef2_Turn.calls a0 t109 _ A3.out).mono ?_); rintro e w' ⟨rfl, ⟨nd, rfl⟩⟩; refine ⟨_, rfl, ?_⟩) | (go_at_call 9; (with_reducible refine (trig_Sin.calls k a0 t110 _ A5.out).mono ?_); rintro e w' ⟨rfl, ⟨nd, rfl⟩⟩) | (go_at_call 13; (with_reducible refine (mutoscoperef2_Sin.calls a0 t111 _ A6.out).mono ?_); rintro e w' ⟨rfl, ⟨nd, rfl⟩⟩) | (go_at_call 10; (with_reducible refine (trig_Cos.calls k a0 t112 _ A8.out).mono ?_); rintro e w' ⟨rfl, ⟨nd, rfl⟩⟩) | (go_at_call 14; (with_reducible refine (mutoscoperef2_Cos.calls a0 t113 _ A9.out).mono ?_); rintro e w' ⟨rfl, ⟨nd, rfl⟩⟩))
      go_ret
      exact ⟨by first | rfl | (simp; done) | (simp [*]; done), by repeat (first | exact Drawn0.refl _ | apply Drawn0.step)⟩
    · rw [if_neg c7] at H
      have c7b0 : (t110 == t111) = false := beq_eq_false_iff_ne.mpr c7
      have c7b1 : (t110 != t111) = true := bne_iff_ne.mpr c7
      obtain rfl := Option.some.inj H
      go_enter Try.func7, Try.ntmps7
      go_wp2_with (first | ((with_reducible refine gate_callee (f := 11) rfl ?_); refine goesL_ (some 4) rfl rfl Try.func11 (by kernel_rfl) rfl #[.int .i64 a0] rfl (by (try simp only [List.map_toArray, List.map_cons, List.map_nil]); first | done | rfl | (simp only [List.length_drop, List.length_take]; rfl)) ?_; (with_reducible refine (trig_Turn.calls a0 t108 _ A2.out).mono ?_); rintro e w' ⟨rfl, ⟨nd, rfl⟩⟩; refine ⟨_, rfl, ?_⟩) | ((with_reducible refine gate_callee (f := 12) rfl ?_); refine goesL_ (some 6) rfl rfl Try.func12 (by kernel_rfl) rfl #[.int .i64 a0] rfl (by (try simp only [List.map_toArray, List.map_cons, List.map_nil]); first | done | rfl | (simp only [List.length_drop, List.length_take]; rfl)) ?_; (with_reducible refine (mutoscoperef2_Turn.calls a0 t109 _ A3.out).mono ?_); rintro e w' ⟨rfl, ⟨nd, rfl⟩⟩; refine ⟨_, rfl, ?_⟩) | (go_at_call 9; (with_reducible refine (trig_Sin.calls k a0 t110 _ A5.out).mono ?_); rintro e w' ⟨rfl, ⟨nd, rfl⟩⟩) | (go_at_call 13; (with_reducible refine (mutoscoperef2_Sin.calls a0 t111 _ A6.out).mono ?_); rintro e w' ⟨rfl, ⟨nd, rfl⟩⟩))
      go_ret
      exact ⟨by first | rfl | (simp; done) | (simp [*]; done), by repeat (first | exact Drawn0.refl _ | apply Drawn0.step)⟩
  · rw [if_neg c4] at H
    have c4b0 : (t108 == t109) = false := beq_eq_false_iff_ne.mpr c4
    have c4b1 : (t108 != t109) = true := bne_iff_ne.mpr c4
    obtain rfl := Option.some.inj H
    go_enter Try.func7, Try.ntmps7
    go_wp2_with (first | ((with_reducible refine gate_callee (f := 11) rfl ?_); refine goesL_ (some 4) rfl rfl Try.func11 (by kernel_rfl) rfl #[.int .i64 a0] rfl (by (try simp only [List.map_toArray, List.map_cons, List.map_nil]); first | done | rfl | (simp only [List.length_drop, List.length_take]; rfl)) ?_; (with_reducible refine (trig_Turn.calls a0 t108 _ A2.out).mono ?_); rintro e w' ⟨rfl, ⟨nd, rfl⟩⟩; refine ⟨_, rfl, ?_⟩) | ((with_reducible refine gate_callee (f := 12) rfl ?_); refine goesL_ (some 6) rfl rfl Try.func12 (by kernel_rfl) rfl #[.int .i64 a0] rfl (by (try simp only [List.map_toArray, List.map_cons, List.map_nil]); first | done | rfl | (simp only [List.length_drop, List.length_take]; rfl)) ?_; (with_reducible refine (mutoscoperef2_Turn.calls a0 t109 _ A3.out).mono ?_); rintro e w' ⟨rfl, ⟨nd, rfl⟩⟩; refine ⟨_, rfl, ?_⟩))
    go_ret
    exact ⟨by first | rfl | (simp; done) | (simp [*]; done), by repeat (first | exact Drawn0.refl _ | apply Drawn0.step)⟩

/-! ### mutoscopelaw2_known: function 8 -/
def mutoscopelaw2_known.f (k : Nat)  : Option (Bool) := (trig_Sin.f k 5898240).bind fun t114 => (if t114 = 65536 then ((trig_Sin.f k 0).bind fun t115 => (if t115 = 0 then ((trig_Cos.f k 11796480).bind fun t116 => (if t116 = (-65536) then ((trig_Turn.f (-1)).bind fun t117 => (some (t117 == 23592959))) else (some false))) else (some false))) else (some false))
theorem mutoscopelaw2_known.mono : ∀ k, LeO (mutoscopelaw2_known.f k ) (mutoscopelaw2_known.f (k + 1) ) := by
  intro  k
  unfold mutoscopelaw2_known.f
  repeat' first
      | (with_reducible exact trig_Cos.mono _ _)
      | (with_reducible exact trig_Sin.mono _ _)
      | (with_reducible exact LeO.refl _)
      | (with_reducible exact LeO.none _)
      | (with_reducible refine LeO.ite ?_ ?_)
      | (with_reducible refine LeO.bind ?_ (fun _ => ?_))
      | exact trig_Cos.mono _ _
      | exact trig_Sin.mono _ _
      | exact LeO.none _
      | refine LeO.ite ?_ ?_
      | refine LeO.bind ?_ (fun _ => ?_)
set_option maxHeartbeats 8000000 in
set_option maxRecDepth 100000 in
theorem mutoscopelaw2_known.calls (k : Nat)  (r : Bool) (w : World) (h : mutoscopelaw2_known.f k  = some r) :
    Calls Try.prog 8 #[] w fun e w' => e = .returned (.bool r) ∧ Drawn0 w w' := by
  have H : ((trig_Sin.f k 5898240).bind fun t114 => (if t114 = 65536 then ((trig_Sin.f k 0).bind fun t115 => (if t115 = 0 then ((trig_Cos.f k 11796480).bind fun t116 => (if t116 = (-65536) then ((trig_Turn.f (-1)).bind fun t117 => (some (t117 == 23592959))) else (some false))) else (some false))) else (some false))) = some r := h
  clear h
  replace H := Option.bind_eq_some_iff.mp H
  obtain ⟨t114, A10, H⟩ := H
  replace H : (if t114 = 65536 then ((trig_Sin.f k 0).bind fun t115 => (if t115 = 0 then ((trig_Cos.f k 11796480).bind fun t116 => (if t116 = (-65536) then ((trig_Turn.f (-1)).bind fun t117 => (some (t117 == 23592959))) else (some false))) else (some false))) else (some false)) = some r := H
  have A1 := Aside0.mk A10
  clear A10
  by_cases c2 : t114 = 65536
  · rw [if_pos c2] at H
    have c2b0 : (t114 == 65536) = true := beq_iff_eq.mpr c2
    have c2b1 : (t114 != 65536) = false := bne_eq_false_iff_eq.mpr c2
    clear c2
    replace H := Option.bind_eq_some_iff.mp H
    obtain ⟨t115, A30, H⟩ := H
    replace H : (if t115 = 0 then ((trig_Cos.f k 11796480).bind fun t116 => (if t116 = (-65536) then ((trig_Turn.f (-1)).bind fun t117 => (some (t117 == 23592959))) else (some false))) else (some false)) = some r := H
    have A3 := Aside0.mk A30
    clear A30
    by_cases c4 : t115 = 0
    · rw [if_pos c4] at H
      have c4b0 : (t115 == 0) = true := beq_iff_eq.mpr c4
      have c4b1 : (t115 != 0) = false := bne_eq_false_iff_eq.mpr c4
      clear c4
      replace H := Option.bind_eq_some_iff.mp H
      obtain ⟨t116, A50, H⟩ := H
      replace H : (if t116 = (-65536) then ((trig_Turn.f (-1)).bind fun t117 => (some (t117 == 23592959))) else (some false)) = some r := H
      have A5 := Aside0.mk A50
      clear A50
      by_cases c6 : t116 = (-65536)
      · rw [if_pos c6] at H
        have c6b0 : (t116 == (-65536)) = true := beq_iff_eq.mpr c6
        have c6b1 : (t116 != (-65536)) = false := bne_eq_false_iff_eq.mpr c6
        clear c6
        replace H := Option.bind_eq_some_iff.mp H
        obtain ⟨t117, A70, H⟩ := H
        replace H : (some (t117 == 23592959)) = some r := H
        have A7 := Aside0.mk A70
        clear A70
        obtain rfl := Option.some.inj H
        go_enter Try.func8, Try.ntmps8
        go_wp2_with (first | ((with_reducible refine gate_callee (f := 9) rfl ?_); refine goesL_ (some 1) rfl rfl Try.func9 (by kernel_rfl) rfl #[.int .i64 5898240] rfl (by (try simp only [List.map_toArray, List.map_cons, List.map_nil]); first | done | rfl | (simp only [List.length_drop, List.length_take]; rfl)) ?_; (with_reducible refine (trig_Sin.calls k 5898240 t114 _ A1.out).mono ?_); rintro e w' ⟨rfl, ⟨nd, rfl⟩⟩; refine ⟨_, rfl, ?_⟩) | (go_at_call 9; (with_reducible refine (trig_Sin.calls k 0 t115 _ A3.out).mono ?_); rintro e w' ⟨rfl, ⟨nd, rfl⟩⟩) | (go_at_call 10; (with_reducible refine (trig_Cos.calls k 11796480 t116 _ A5.out).mono ?_); rintro e w' ⟨rfl, ⟨nd, rfl⟩⟩) | (go_at_call 11; (with_reducible refine (trig_Turn.calls (-1) t117 _ A7.out).mono ?_); rintro e w' ⟨rfl, ⟨nd, rfl⟩⟩))
        go_ret
        exact ⟨by first | rfl | (simp; done) | (simp [*]; done), by repeat (first | exact Drawn0.refl _ | apply Drawn0.step)⟩
      · rw [if_neg c6] at H
        have c6b0 : (t116 == (-65536)) = false := beq_eq_false_iff_ne.mpr c6
        have c6b1 : (t116 != (-65536)) = true := bne_iff_ne.mpr c6
        obtain rfl := Option.some.inj H
        go_enter Try.func8, Try.ntmps8
        go_wp2_with (first | ((with_reducible refine gate_callee (f := 9) rfl ?_); refine goesL_ (some 1) rfl rfl Try.func9 (by kernel_rfl) rfl #[.int .i64 5898240] rfl (by (try simp only [List.map_toArray, List.map_cons, List.map_nil]); first | done | rfl | (simp only [List.length_drop, List.length_take]; rfl)) ?_; (with_reducible refine (trig_Sin.calls k 5898240 t114 _ A1.out).mono ?_); rintro e w' ⟨rfl, ⟨nd, rfl⟩⟩; refine ⟨_, rfl, ?_⟩) | (go_at_call 9; (with_reducible refine (trig_Sin.calls k 0 t115 _ A3.out).mono ?_); rintro e w' ⟨rfl, ⟨nd, rfl⟩⟩) | (go_at_call 10; (with_reducible refine (trig_Cos.calls k 11796480 t116 _ A5.out).mono ?_); rintro e w' ⟨rfl, ⟨nd, rfl⟩⟩))
        go_ret
        exact ⟨by first | rfl | (simp; done) | (simp [*]; done), by repeat (first | exact Drawn0.refl _ | apply Drawn0.step)⟩
    · rw [if_neg c4] at H
      have c4b0 : (t115 == 0) = false := beq_eq_false_iff_ne.mpr c4
      have c4b1 : (t115 != 0) = true := bne_iff_ne.mpr c4
      obtain rfl := Option.some.inj H
      go_enter Try.func8, Try.ntmps8
      go_wp2_with (first | ((with_reducible refine gate_callee (f := 9) rfl ?_); refine goesL_ (some 1) rfl rfl Try.func9 (by kernel_rfl) rfl #[.int .i64 5898240] rfl (by (try simp only [List.map_toArray, List.map_cons, List.map_nil]); first | done | rfl | (simp only [List.length_drop, List.length_take]; rfl)) ?_; (with_reducible refine (trig_Sin.calls k 5898240 t114 _ A1.out).mono ?_); rintro e w' ⟨rfl, ⟨nd, rfl⟩⟩; refine ⟨_, rfl, ?_⟩) | (go_at_call 9; (with_reducible refine (trig_Sin.calls k 0 t115 _ A3.out).mono ?_); rintro e w' ⟨rfl, ⟨nd, rfl⟩⟩))
      go_ret
      exact ⟨by first | rfl | (simp; done) | (simp [*]; done), by repeat (first | exact Drawn0.refl _ | apply Drawn0.step)⟩
  · rw [if_neg c2] at H
    have c2b0 : (t114 == 65536) = false := beq_eq_false_iff_ne.mpr c2
    have c2b1 : (t114 != 65536) = true := bne_iff_ne.mpr c2
    obtain rfl := Option.some.inj H
    go_enter Try.func8, Try.ntmps8
    go_wp2_with (first | ((with_reducible refine gate_callee (f := 9) rfl ?_); refine goesL_ (some 1) rfl rfl Try.func9 (by kernel_rfl) rfl #[.int .i64 5898240] rfl (by (try simp only [List.map_toArray, List.map_cons, List.map_nil]); first | done | rfl | (simp only [List.length_drop, List.length_take]; rfl)) ?_; (with_reducible refine (trig_Sin.calls k 5898240 t114 _ A1.out).mono ?_); rintro e w' ⟨rfl, ⟨nd, rfl⟩⟩; refine ⟨_, rfl, ?_⟩))
    go_ret
    exact ⟨by first | rfl | (simp; done) | (simp [*]; done), by repeat (first | exact Drawn0.refl _ | apply Drawn0.step)⟩

/-! ### mutoscopelaw2_TrigNumbers: function 3 -/
mutual
def mutoscopelaw2_TrigNumbers.l0 : Nat → Int → Option (Bool)
  | 0, _ => none
  | k + 1, x1 => if x1 < 800 then (mutoscopelaw2_TrigNumbers.l1 k x1 (-1)) else ((mutoscopelaw2_same.f k 9223372036854775807).bind fun t118 => (if t118 = true then ((mutoscopelaw2_same.f k (-9223372036854775808)).bind fun t119 => (if t119 = true then ((mutoscopelaw2_known.f k).bind fun t120 => (some t120)) else (some false))) else (some false)))
def mutoscopelaw2_TrigNumbers.l1 : Nat → Int → Int → Option (Bool)
  | 0, _, _ => none
  | k + 1, x1, x2 => if x2 < 2 then ((mutoscopelaw2_same.f k (wrap64 ((wrap64 (x1 * 65536)) + x2))).bind fun t121 => (if t121 = true then (mutoscopelaw2_TrigNumbers.l1 k x1 (wrap64 (x2 + 1))) else (some false))) else (mutoscopelaw2_TrigNumbers.l0 k (wrap64 (x1 + 1)))
end
def mutoscopelaw2_TrigNumbers.f (k : Nat)  : Option (Bool) := mutoscopelaw2_TrigNumbers.l0 k (-400)
theorem mutoscopelaw2_TrigNumbers.mono_l : ∀ k, (∀ y0, LeO (mutoscopelaw2_TrigNumbers.l0 k y0) (mutoscopelaw2_TrigNumbers.l0 (k + 1) y0)) ∧ (∀ y0 y1, LeO (mutoscopelaw2_TrigNumbers.l1 k y0 y1) (mutoscopelaw2_TrigNumbers.l1 (k + 1) y0 y1))
  | 0 => ⟨fun _ r h => by simp [mutoscopelaw2_TrigNumbers.l0] at h, fun _ _ r h => by simp [mutoscopelaw2_TrigNumbers.l1] at h⟩
  | k + 1 => by
    obtain ⟨ih0, ih1⟩ := mutoscopelaw2_TrigNumbers.mono_l k
    refine ⟨?_, ?_⟩
    · intro y0
      unfold mutoscopelaw2_TrigNumbers.l0
      repeat' first
      | (with_reducible exact ih0 _)
      | (with_reducible exact ih1 _ _)
      | (with_reducible exact mutoscopelaw2_known.mono _)
      | (with_reducible exact mutoscopelaw2_same.mono _ _)
      | (with_reducible exact LeO.refl _)
      | (with_reducible exact LeO.none _)
      | (with_reducible refine LeO.ite ?_ ?_)
      | (with_reducible refine LeO.bind ?_ (fun _ => ?_))
      | exact ih0 _
      | exact ih1 _ _
      | exact mutoscopelaw2_known.mono _
      | exact mutoscopelaw2_same.mono _ _
      | exact LeO.none _
      | refine LeO.ite ?_ ?_
      | refine LeO.bind ?_ (fun _ => ?_)
    · intro y0 y1
      unfold mutoscopelaw2_TrigNumbers.l1
      repeat' first
      | (with_reducible exact ih0 _)
      | (with_reducible exact ih1 _ _)
      | (with_reducible exact mutoscopelaw2_known.mono _)
      | (with_reducible exact mutoscopelaw2_same.mono _ _)
      | (with_reducible exact LeO.refl _)
      | (with_reducible exact LeO.none _)
      | (with_reducible refine LeO.ite ?_ ?_)
      | (with_reducible refine LeO.bind ?_ (fun _ => ?_))
      | exact ih0 _
      | exact ih1 _ _
      | exact mutoscopelaw2_known.mono _
      | exact mutoscopelaw2_same.mono _ _
      | exact LeO.none _
      | refine LeO.ite ?_ ?_
      | refine LeO.bind ?_ (fun _ => ?_)
theorem mutoscopelaw2_TrigNumbers.mono : ∀ k, LeO (mutoscopelaw2_TrigNumbers.f k ) (mutoscopelaw2_TrigNumbers.f (k + 1) ) := by
  intro  k
  obtain ⟨ih0, ih1⟩ := mutoscopelaw2_TrigNumbers.mono_l k
  unfold mutoscopelaw2_TrigNumbers.f
  repeat' first
      | (with_reducible exact ih0 _)
      | (with_reducible exact ih1 _ _)
      | (with_reducible exact mutoscopelaw2_known.mono _)
      | (with_reducible exact mutoscopelaw2_same.mono _ _)
      | (with_reducible exact LeO.refl _)
      | (with_reducible exact LeO.none _)
      | (with_reducible refine LeO.ite ?_ ?_)
      | (with_reducible refine LeO.bind ?_ (fun _ => ?_))
      | exact ih0 _
      | exact ih1 _ _
      | exact mutoscopelaw2_known.mono _
      | exact mutoscopelaw2_same.mono _ _
      | exact LeO.none _
      | refine LeO.ite ?_ ?_
      | refine LeO.bind ?_ (fun _ => ?_)
set_option maxHeartbeats 8000000 in
set_option maxRecDepth 100000 in
theorem mutoscopelaw2_TrigNumbers.calls (k : Nat)  (r : Bool) (w : World) (h : mutoscopelaw2_TrigNumbers.f k  = some r) :
    Calls Try.prog 3 #[] w fun e w' => e = .returned (.bool r) ∧ Drawn0 w w' := by
  have H : (mutoscopelaw2_TrigNumbers.l0 k (-400)) = some r := h
  clear h
  have H' := Aside0.mk H
  clear H
  go_enter Try.func3, Try.ntmps3
  go_wp2
  go_loopg [1] k (fun kq v1 w' => ∃ (x1_1 : Int), v1 = .int .i64 x1_1 ∧ Aside0 (mutoscopelaw2_TrigNumbers.l0 kq x1_1 = some r) ∧ Aside0 (kq ≤ k) ∧ Drawn0 w w')
  case atStart => exact ⟨((-400)), (by first | rfl | (simp; done) | (simp [*]; done)), H', ⟨Nat.le_refl _⟩, by repeat (first | exact Drawn0.refl _ | apply Drawn0.step)⟩
  case round =>
    clear H'
    obtain ⟨x1_1, rfl, HA, HK1, ⟨m1, rfl⟩⟩ := hrel
    cases gk with
    | zero => exact absurd HA.out (by simp [mutoscopelaw2_TrigNumbers.l0])
    | succ k1 =>
      have H := HA.out
      clear HA
      simp only [mutoscopelaw2_TrigNumbers.l0] at H
      by_cases c1 : x1_1 < 800
      · rw [if_pos c1] at H
        have c1b0 : decide (x1_1 < 800) = true := decide_eq_true c1
        clear c1
        have H' := Aside0.mk H
        clear H
        go_wp2
        go_loopg [2] k1 (fun kq v2 w' => ∃ (x2_2 : Int), v2 = .int .i64 x2_2 ∧ Aside0 (mutoscopelaw2_TrigNumbers.l1 kq x1_1 x2_2 = some r) ∧ Aside0 (kq ≤ k1) ∧ Drawn0 w w')
        case atStart => exact ⟨((-1)), (by first | rfl | (simp; done) | (simp [*]; done)), H', ⟨Nat.le_refl _⟩, by repeat (first | exact Drawn0.refl _ | apply Drawn0.step)⟩
        case round =>
          clear H'
          try clear c1
          try clear c1b0
          obtain ⟨x2_2, rfl, HA, HK2, ⟨m2, rfl⟩⟩ := hrel
          cases gk with
          | zero => exact absurd HA.out (by simp [mutoscopelaw2_TrigNumbers.l1])
          | succ k2 =>
            have H := HA.out
            clear HA
            simp only [mutoscopelaw2_TrigNumbers.l1] at H
            by_cases c2 : x2_2 < 2
            · rw [if_pos c2] at H
              have c2b0 : decide (x2_2 < 2) = true := decide_eq_true c2
              clear c2
              replace H := Option.bind_eq_some_iff.mp H
              obtain ⟨t121, A30, H⟩ := H
              replace H : (if t121 = true then (mutoscopelaw2_TrigNumbers.l1 k2 x1_1 (wrap64 (x2_2 + 1))) else (some false)) = some r := H
              have A3 := Aside0.mk A30
              clear A30
              by_cases c4 : t121 = true
              · subst c4
                have H1 : (mutoscopelaw2_TrigNumbers.l1 k2 x1_1 (wrap64 (x2_2 + 1))) = some r := by rw [if_pos rfl] at H; exact H
                clear H
                have H := H1
                clear H1
                have H' := Aside0.mk H
                clear H
                go_wp2_with (first | ((with_reducible refine gate_callee (f := 7) rfl ?_); refine goesL_ (some 15) rfl rfl Try.func7 (by kernel_rfl) rfl #[.int .i64 (wrap64 ((wrap64 (x1_1 * 65536)) + x2_2))] rfl (by (try simp only [List.map_toArray, List.map_cons, List.map_nil]); first | done | rfl | (simp only [List.length_drop, List.length_take]; rfl)) ?_; (with_reducible refine (mutoscopelaw2_same.calls k2 (wrap64 ((wrap64 (x1_1 * 65536)) + x2_2)) true _ A3.out).mono ?_); rintro e w' ⟨rfl, ⟨nd, rfl⟩⟩; refine ⟨_, rfl, ?_⟩))
                go_roundg k2
                case measure => have := HK1.out; have := HK2.out; omega
                case rel => exact ⟨(wrap64 (x2_2 + 1)), (by first | rfl | (simp; done) | (simp [*]; done)), H', ⟨by have := HK1.out; have := HK2.out; omega⟩, by repeat (first | exact Drawn0.refl _ | apply Drawn0.step)⟩
              · replace c4 := Bool.eq_false_iff.mpr c4
                subst c4
                have H1 : (some false) = some r := by rw [if_neg (show ¬ (false = true) by decide)] at H; exact H
                clear H
                have H := H1
                clear H1
                obtain rfl := Option.some.inj H
                go_wp2_with (first | ((with_reducible refine gate_callee (f := 7) rfl ?_); refine goesL_ (some 15) rfl rfl Try.func7 (by kernel_rfl) rfl #[.int .i64 (wrap64 ((wrap64 (x1_1 * 65536)) + x2_2))] rfl (by (try simp only [List.map_toArray, List.map_cons, List.map_nil]); first | done | rfl | (simp only [List.length_drop, List.length_take]; rfl)) ?_; (with_reducible refine (mutoscopelaw2_same.calls k2 (wrap64 ((wrap64 (x1_1 * 65536)) + x2_2)) false _ A3.out).mono ?_); rintro e w' ⟨rfl, ⟨nd, rfl⟩⟩; refine ⟨_, rfl, ?_⟩))
                go_ret
                exact ⟨by first | rfl | (simp; done) | (simp [*]; done), by repeat (first | exact Drawn0.refl _ | apply Drawn0.step)⟩
            · rw [if_neg c2] at H
              have c2b0 : decide (x2_2 < 2) = false := decide_eq_false c2
              clear c2
              have H' := Aside0.mk H
              clear H
              go_wp2
              go_roundg k2
              case measure => have := HK1.out; have := HK2.out; omega
              case rel => exact ⟨(wrap64 (x1_1 + 1)), (by first | rfl | (simp; done) | (simp [*]; done)), H', ⟨by have := HK1.out; have := HK2.out; omega⟩, by repeat (first | exact Drawn0.refl _ | apply Drawn0.step)⟩
      · rw [if_neg c1] at H
        have c1b0 : decide (x1_1 < 800) = false := decide_eq_false c1
        clear c1
        replace H := Option.bind_eq_some_iff.mp H
        obtain ⟨t118, A50, H⟩ := H
        replace H : (if t118 = true then ((mutoscopelaw2_same.f k1 (-9223372036854775808)).bind fun t119 => (if t119 = true then ((mutoscopelaw2_known.f k1).bind fun t120 => (some t120)) else (some false))) else (some false)) = some r := H
        have A5 := Aside0.mk A50
        clear A50
        by_cases c6 : t118 = true
        · subst c6
          have H1 : ((mutoscopelaw2_same.f k1 (-9223372036854775808)).bind fun t119 => (if t119 = true then ((mutoscopelaw2_known.f k1).bind fun t120 => (some t120)) else (some false))) = some r := by rw [if_pos rfl] at H; exact H
          clear H
          have H := H1
          clear H1
          replace H := Option.bind_eq_some_iff.mp H
          obtain ⟨t119, A70, H⟩ := H
          replace H : (if t119 = true then ((mutoscopelaw2_known.f k1).bind fun t120 => (some t120)) else (some false)) = some r := H
          have A7 := Aside0.mk A70
          clear A70
          by_cases c8 : t119 = true
          · subst c8
            have H1 : ((mutoscopelaw2_known.f k1).bind fun t120 => (some t120)) = some r := by rw [if_pos rfl] at H; exact H
            clear H
            have H := H1
            clear H1
            replace H := Option.bind_eq_some_iff.mp H
            obtain ⟨t120, A90, H⟩ := H
            replace H : (some t120) = some r := H
            have A9 := Aside0.mk A90
            clear A90
            obtain rfl := Option.some.inj H
            go_wp2_with (first | ((with_reducible refine gate_callee (f := 7) rfl ?_); refine goesL_ (some 17) rfl rfl Try.func7 (by kernel_rfl) rfl #[.int .i64 9223372036854775807] rfl (by (try simp only [List.map_toArray, List.map_cons, List.map_nil]); first | done | rfl | (simp only [List.length_drop, List.length_take]; rfl)) ?_; (with_reducible refine (mutoscopelaw2_same.calls k1 9223372036854775807 true _ A5.out).mono ?_); rintro e w' ⟨rfl, ⟨nd, rfl⟩⟩; refine ⟨_, rfl, ?_⟩) | (go_at_call 7; (with_reducible refine (mutoscopelaw2_same.calls k1 (-9223372036854775808) true _ A7.out).mono ?_); rintro e w' ⟨rfl, ⟨nd, rfl⟩⟩) | (go_at_call 8; (with_reducible refine (mutoscopelaw2_known.calls k1  t120 _ A9.out).mono ?_); rintro e w' ⟨rfl, ⟨nd, rfl⟩⟩))
            go_ret
            exact ⟨by first | rfl | (simp; done) | (simp [*]; done), by repeat (first | exact Drawn0.refl _ | apply Drawn0.step)⟩
          · replace c8 := Bool.eq_false_iff.mpr c8
            subst c8
            have H1 : (some false) = some r := by rw [if_neg (show ¬ (false = true) by decide)] at H; exact H
            clear H
            have H := H1
            clear H1
            obtain rfl := Option.some.inj H
            go_wp2_with (first | ((with_reducible refine gate_callee (f := 7) rfl ?_); refine goesL_ (some 17) rfl rfl Try.func7 (by kernel_rfl) rfl #[.int .i64 9223372036854775807] rfl (by (try simp only [List.map_toArray, List.map_cons, List.map_nil]); first | done | rfl | (simp only [List.length_drop, List.length_take]; rfl)) ?_; (with_reducible refine (mutoscopelaw2_same.calls k1 9223372036854775807 true _ A5.out).mono ?_); rintro e w' ⟨rfl, ⟨nd, rfl⟩⟩; refine ⟨_, rfl, ?_⟩) | (go_at_call 7; (with_reducible refine (mutoscopelaw2_same.calls k1 (-9223372036854775808) false _ A7.out).mono ?_); rintro e w' ⟨rfl, ⟨nd, rfl⟩⟩))
            go_ret
            exact ⟨by first | rfl | (simp; done) | (simp [*]; done), by repeat (first | exact Drawn0.refl _ | apply Drawn0.step)⟩
        · replace c6 := Bool.eq_false_iff.mpr c6
          subst c6
          have H1 : (some false) = some r := by rw [if_neg (show ¬ (false = true) by decide)] at H; exact H
          clear H
          have H := H1
          clear H1
          obtain rfl := Option.some.inj H
          go_wp2_with (first | ((with_reducible refine gate_callee (f := 7) rfl ?_); refine goesL_ (some 17) rfl rfl Try.func7 (by kernel_rfl) rfl #[.int .i64 9223372036854775807] rfl (by (try simp only [List.map_toArray, List.map_cons, List.map_nil]); first | done | rfl | (simp only [List.length_drop, List.length_take]; rfl)) ?_; (with_reducible refine (mutoscopelaw2_same.calls k1 9223372036854775807 false _ A5.out).mono ?_); rintro e w' ⟨rfl, ⟨nd, rfl⟩⟩; refine ⟨_, rfl, ?_⟩))
          go_ret
          exact ⟨by first | rfl | (simp; done) | (simp [*]; done), by repeat (first | exact Drawn0.refl _ | apply Drawn0.step)⟩

/-- THE ONE PURE STATEMENT of mutoscopelaw2_TrigNumbers: yours. -/
def mutoscopelaw2_TrigNumbers.Pure : Prop := ∃ k, mutoscopelaw2_TrigNumbers.f k  = some true
theorem mutoscopelaw2_TrigNumbers.walk (P : mutoscopelaw2_TrigNumbers.Pure)  (w : World)  :
    Calls Try.prog 3 #[] w fun e w' => e = .returned (.bool true) ∧ Below w.heap.size w w' := by
  obtain ⟨k, h⟩ := P  
  refine (mutoscopelaw2_TrigNumbers.calls k  true w h).mono ?_
  rintro e w' ⟨rfl, hd⟩
  exact ⟨rfl, hd.below⟩

end Go.Proofs.Ytjjfcefnhidniaa.PTrigNumbers
