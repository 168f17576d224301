-- printed by a program for this claim (see wip/tools)
import Derived.Test.YthlmgamdnclmhaaRx0
import Derived.Test.YthlmgamdnclmhaaRx2
namespace Go.Proofs.Ythlmgamdnclmhaa.R
open Go.RowKit Go.Proofs.YthlmgamdnclmhaaW.PrintWords Go.Proofs.YthlmgamdnclmhaaW.PrintLast Go.Proofs.YthlmgamdnclmhaaW.PrintMore
attribute [local go_sem] max2_int min2_int max_two min_two max_three min_three max_four min_four   -- for this text's walks alone
set_option linter.unusedVariables false
set_option linter.unusedSimpArgs false

/-! ### telemeterref11_gcd: function 55 -/
def telemeterref11_gcd.l0 : Nat → Int → Int → Option (Int)
  | 0, _, _ => none
  | k + 1, x0, x1 => if x1 > 0 then (if x1 = 0 then (none) else (telemeterref11_gcd.l0 k x1 (Int.tmod x0 x1))) else (some x0)
def telemeterref11_gcd.f (k : Nat) (a0 : Int) (a1 : Int) : Option (Int) := telemeterref11_gcd.l0 k a0 a1
theorem telemeterref11_gcd.mono_l : ∀ k, (∀ y0 y1, LeO (telemeterref11_gcd.l0 k y0 y1) (telemeterref11_gcd.l0 (k + 1) y0 y1))
  | 0 => fun _ _ r h => by simp [telemeterref11_gcd.l0] at h
  | k + 1 => by
    have ih0 := telemeterref11_gcd.mono_l k
    · intro y0 y1
      unfold telemeterref11_gcd.l0
      repeat' first
      | (with_reducible exact ih0 _ _)
      | (with_reducible exact LeO.refl _)
      | (with_reducible exact LeO.none _)
      | (with_reducible refine LeO.ite ?_ ?_)
      | (with_reducible refine LeO.bind ?_ (fun _ => ?_))
      | exact ih0 _ _
      | exact LeO.none _
      | refine LeO.ite ?_ ?_
      | refine LeO.bind ?_ (fun _ => ?_)
theorem telemeterref11_gcd.mono : ∀ a0 a1 k, LeO (telemeterref11_gcd.f k a0 a1) (telemeterref11_gcd.f (k + 1) a0 a1) := by
  intro a0 a1 k
  have ih0 := telemeterref11_gcd.mono_l k
  unfold telemeterref11_gcd.f
  repeat' first
      | (with_reducible exact ih0 _ _)
      | (with_reducible exact LeO.refl _)
      | (with_reducible exact LeO.none _)
      | (with_reducible refine LeO.ite ?_ ?_)
      | (with_reducible refine LeO.bind ?_ (fun _ => ?_))
      | exact ih0 _ _
      | exact LeO.none _
      | refine LeO.ite ?_ ?_
      | refine LeO.bind ?_ (fun _ => ?_)
set_option maxHeartbeats 8000000 in
set_option maxRecDepth 100000 in
theorem telemeterref11_gcd.calls (k : Nat) (a0 : Int) (a1 : Int) (r : Int) (w : World) (h : telemeterref11_gcd.f k a0 a1 = some r) :
    Calls Try.prog 55 #[.int .u64 a0, .int .u64 a1] w fun e w' => e = .returned (.int .u64 r) ∧ Drawn0 w w' := by
  have H : (telemeterref11_gcd.l0 k a0 a1) = some r := h
  clear h
  have H' := Aside0.mk H
  clear H
  go_enter Try.func55, Try.ntmps55
  go_wp2
  go_loopg [0, 1] k (fun kq v0 v1 w' => ∃ (x0_1 : Int) (x1_1 : Int), v0 = .int .u64 x0_1 ∧ v1 = .int .u64 x1_1 ∧ Aside0 (telemeterref11_gcd.l0 kq x0_1 x1_1 = some r) ∧ Aside0 (kq ≤ k) ∧ Drawn0 w w')
  case atStart => exact ⟨(a0), (a1), (by first | rfl | (simp; done) | (simp [*]; done)), (by first | rfl | (simp; done) | (simp [*]; done)), H', ⟨Nat.le_refl _⟩, by repeat (first | exact Drawn0.refl _ | apply Drawn0.step)⟩
  case round =>
    clear H'
    try clear p2
    obtain ⟨x0_1, x1_1, rfl, rfl, HA, HK1, ⟨m1, rfl⟩⟩ := hrel
    cases gk with
    | zero => exact absurd HA.out (by simp [telemeterref11_gcd.l0])
    | succ k1 =>
      have H := HA.out
      clear HA
      simp only [telemeterref11_gcd.l0] at H
      by_cases c3 : x1_1 > 0
      · rw [if_pos c3] at H
        have c3b0 : decide (0 < x1_1) = true := decide_eq_true c3
        clear c3
        by_cases c4 : x1_1 = 0
        · rw [if_pos c4] at H
          exact absurd H (by simp)
        · rw [if_neg c4] at H
          have c4b0 : (x1_1 == 0) = false := beq_eq_false_iff_ne.mpr c4
          have c4b1 : (x1_1 != 0) = true := bne_iff_ne.mpr c4
          have H' := Aside0.mk H
          clear H
          go_wp2
          go_roundg k1
          case measure => have := HK1.out; omega
          case rel => exact ⟨(x1_1), (Int.tmod x0_1 x1_1), (by first | rfl | (simp; done) | (simp [*]; done)), (by first | rfl | (simp; done) | (simp [*]; done)), H', ⟨by have := HK1.out; omega⟩, by repeat (first | exact Drawn0.refl _ | apply Drawn0.step)⟩
      · rw [if_neg c3] at H
        have c3b0 : decide (0 < x1_1) = false := decide_eq_false c3
        clear c3
        obtain rfl := Option.some.inj H
        go_wp2
        go_ret
        exact ⟨by first | rfl | (simp; done) | (simp [*]; done), by repeat (first | exact Drawn0.refl _ | apply Drawn0.step)⟩

/-! ### telemeterref11_rest: function 56 -/
mutual
def telemeterref11_rest.l0 : Nat → Int → Int → Int → Int → Int → Option (Int)
  | 0, _, _, _, _, _ => none
  | k + 1, x0, x1, x2, x7, x8 => if x8 ≥ 0 then (if 0 ≤ (IntKind.u64.wrap (Int.tmod x8 64)) then (if x8 ≥ 64 then (if 0 ≤ (IntKind.u64.wrap (wrap64 (x8 - 64))) then (telemeterref11_rest.j1 k x0 x1 x2 x7 x8 (Go.bits .and .u64 (shr .u64 x0 (IntKind.u64.wrap (wrap64 (x8 - 64)))) 1)) else (none)) else (telemeterref11_rest.j1 k x0 x1 x2 x7 x8 (Go.bits .and .u64 (shr .u64 x1 (IntKind.u64.wrap (Int.tmod x8 64))) 1))) else (none)) else (some x7)
def telemeterref11_rest.j1 : Nat → Int → Int → Int → Int → Int → Int → Option (Int)
  | 0, _, _, _, _, _, _ => none
  | k + 1, x0, x1, x2, x7, x8, x9 => if x7 ≥ (IntKind.u64.wrap (x2 - x7)) then (telemeterref11_rest.j2 k x0 x1 x2 (IntKind.u64.wrap (x7 - (IntKind.u64.wrap (x2 - x7)))) x8 x9) else (telemeterref11_rest.j2 k x0 x1 x2 (IntKind.u64.wrap (2 * x7)) x8 x9)
def telemeterref11_rest.j2 : Nat → Int → Int → Int → Int → Int → Int → Option (Int)
  | 0, _, _, _, _, _, _ => none
  | k + 1, x0, x1, x2, x7, x8, x9 => if x9 = 1 then (if (IntKind.u64.wrap (x7 + 1)) = x2 then (telemeterref11_rest.l0 k x0 x1 x2 0 (wrap64 (x8 - 1))) else (telemeterref11_rest.l0 k x0 x1 x2 (IntKind.u64.wrap (x7 + 1)) (wrap64 (x8 - 1)))) else (telemeterref11_rest.l0 k x0 x1 x2 x7 (wrap64 (x8 - 1)))
end
def telemeterref11_rest.f (k : Nat) (a0 : Int) (a1 : Int) (a2 : Int) : Option (Int) := telemeterref11_rest.l0 k a0 a1 a2 0 127
theorem telemeterref11_rest.mono_l : ∀ k, (∀ y0 y1 y2 y3 y4, LeO (telemeterref11_rest.l0 k y0 y1 y2 y3 y4) (telemeterref11_rest.l0 (k + 1) y0 y1 y2 y3 y4)) ∧ (∀ y0 y1 y2 y3 y4 y5, LeO (telemeterref11_rest.j1 k y0 y1 y2 y3 y4 y5) (telemeterref11_rest.j1 (k + 1) y0 y1 y2 y3 y4 y5)) ∧ (∀ y0 y1 y2 y3 y4 y5, LeO (telemeterref11_rest.j2 k y0 y1 y2 y3 y4 y5) (telemeterref11_rest.j2 (k + 1) y0 y1 y2 y3 y4 y5))
  | 0 => ⟨fun _ _ _ _ _ r h => by simp [telemeterref11_rest.l0] at h, fun _ _ _ _ _ _ r h => by simp [telemeterref11_rest.j1] at h, fun _ _ _ _ _ _ r h => by simp [telemeterref11_rest.j2] at h⟩
  | k + 1 => by
    obtain ⟨ih0, ih1, ih2⟩ := telemeterref11_rest.mono_l k
    refine ⟨?_, ?_, ?_⟩
    · intro y0 y1 y2 y3 y4
      unfold telemeterref11_rest.l0
      repeat' first
      | (with_reducible exact ih0 _ _ _ _ _)
      | (with_reducible exact ih1 _ _ _ _ _ _)
      | (with_reducible exact ih2 _ _ _ _ _ _)
      | (with_reducible exact LeO.refl _)
      | (with_reducible exact LeO.none _)
      | (with_reducible refine LeO.ite ?_ ?_)
      | (with_reducible refine LeO.bind ?_ (fun _ => ?_))
      | exact ih0 _ _ _ _ _
      | exact ih1 _ _ _ _ _ _
      | exact ih2 _ _ _ _ _ _
      | exact LeO.none _
      | refine LeO.ite ?_ ?_
      | refine LeO.bind ?_ (fun _ => ?_)
    · intro y0 y1 y2 y3 y4 y5
      unfold telemeterref11_rest.j1
      repeat' first
      | (with_reducible exact ih0 _ _ _ _ _)
      | (with_reducible exact ih1 _ _ _ _ _ _)
      | (with_reducible exact ih2 _ _ _ _ _ _)
      | (with_reducible exact LeO.refl _)
      | (with_reducible exact LeO.none _)
      | (with_reducible refine LeO.ite ?_ ?_)
      | (with_reducible refine LeO.bind ?_ (fun _ => ?_))
      | exact ih0 _ _ _ _ _
      | exact ih1 _ _ _ _ _ _
      | exact ih2 _ _ _ _ _ _
      | exact LeO.none _
      | refine LeO.ite ?_ ?_
      | refine LeO.bind ?_ (fun _ => ?_)
    · intro y0 y1 y2 y3 y4 y5
      unfold telemeterref11_rest.j2
      repeat' first
      | (with_reducible exact ih0 _ _ _ _ _)
      | (with_reducible exact ih1 _ _ _ _ _ _)
      | (with_reducible exact ih2 _ _ _ _ _ _)
      | (with_reducible exact LeO.refl _)
      | (with_reducible exact LeO.none _)
      | (with_reducible refine LeO.ite ?_ ?_)
      | (with_reducible refine LeO.bind ?_ (fun _ => ?_))
      | exact ih0 _ _ _ _ _
      | exact ih1 _ _ _ _ _ _
      | exact ih2 _ _ _ _ _ _
      | exact LeO.none _
      | refine LeO.ite ?_ ?_
      | refine LeO.bind ?_ (fun _ => ?_)
theorem telemeterref11_rest.mono : ∀ a0 a1 a2 k, LeO (telemeterref11_rest.f k a0 a1 a2) (telemeterref11_rest.f (k + 1) a0 a1 a2) := by
  intro a0 a1 a2 k
  obtain ⟨ih0, ih1, ih2⟩ := telemeterref11_rest.mono_l k
  unfold telemeterref11_rest.f
  repeat' first
      | (with_reducible exact ih0 _ _ _ _ _)
      | (with_reducible exact ih1 _ _ _ _ _ _)
      | (with_reducible exact ih2 _ _ _ _ _ _)
      | (with_reducible exact LeO.refl _)
      | (with_reducible exact LeO.none _)
      | (with_reducible refine LeO.ite ?_ ?_)
      | (with_reducible refine LeO.bind ?_ (fun _ => ?_))
      | exact ih0 _ _ _ _ _
      | exact ih1 _ _ _ _ _ _
      | exact ih2 _ _ _ _ _ _
      | exact LeO.none _
      | refine LeO.ite ?_ ?_
      | refine LeO.bind ?_ (fun _ => ?_)
set_option maxHeartbeats 8000000 in
set_option maxRecDepth 100000 in
theorem telemeterref11_rest.calls (k : Nat) (a0 : Int) (a1 : Int) (a2 : Int) (r : Int) (w : World) (h : telemeterref11_rest.f k a0 a1 a2 = some r) :
    Calls Try.prog 56 #[.int .u64 a0, .int .u64 a1, .int .u64 a2] w fun e w' => e = .returned (.int .u64 r) ∧ Drawn0 w w' := by
  have H : (telemeterref11_rest.l0 k a0 a1 a2 0 127) = some r := h
  clear h
  have H' := Aside0.mk H
  clear H
  go_enter Try.func56, Try.ntmps56
  go_wp2
  go_loopg [7, 8] k (fun kq v7 v8 w' => ∃ (x7_1 : Int) (x8_1 : Int), v7 = .int .u64 x7_1 ∧ v8 = .int .i64 x8_1 ∧ Aside0 (telemeterref11_rest.l0 kq a0 a1 a2 x7_1 x8_1 = some r) ∧ Aside0 (kq ≤ k) ∧ Drawn0 w w')
  case atStart => exact ⟨(0), (127), (by first | rfl | (simp; done) | (simp [*]; done)), (by first | rfl | (simp; done) | (simp [*]; done)), H', ⟨Nat.le_refl _⟩, by repeat (first | exact Drawn0.refl _ | apply Drawn0.step)⟩
  case round =>
    clear H'
    try clear p2
    obtain ⟨x7_1, x8_1, rfl, rfl, HA, HK1, ⟨m1, rfl⟩⟩ := hrel
    cases gk with
    | zero => exact absurd HA.out (by simp [telemeterref11_rest.l0])
    | succ k1 =>
      have H := HA.out
      clear HA
      simp only [telemeterref11_rest.l0] at H
      by_cases c4 : x8_1 ≥ 0
      · rw [if_pos c4] at H
        have c4b0 : decide (0 ≤ x8_1) = true := decide_eq_true c4
        clear c4
        obtain ⟨ji5, hji5⟩ : ∃ j_ : Int, (IntKind.u64.wrap (Int.tmod x8_1 64)) = j_ := ⟨_, rfl⟩
        replace H : (if 0 ≤ (ji5) then (if x8_1 ≥ 64 then (if 0 ≤ (IntKind.u64.wrap (wrap64 (x8_1 - 64))) then (telemeterref11_rest.j1 k1 a0 a1 a2 x7_1 x8_1 (Go.bits .and .u64 (shr .u64 a0 (IntKind.u64.wrap (wrap64 (x8_1 - 64)))) 1)) else (none)) else (telemeterref11_rest.j1 k1 a0 a1 a2 x7_1 x8_1 (Go.bits .and .u64 (shr .u64 a1 (ji5)) 1))) else (none)) = some r := by first | (rw [hji5] at H; exact H) | (simp only [hji5] at H ⊢; exact H)
        by_cases c6 : 0 ≤ (ji5)
        · rw [if_pos c6] at H
          have c6b0 := eq_true c6
          have c6b1 : decide (0 ≤ (ji5)) = true := decide_eq_true c6
          clear c6
          obtain ⟨ji7, hji7⟩ : ∃ j_ : Int, (shr .u64 a1 (ji5)) = j_ := ⟨_, rfl⟩
          replace H : (if x8_1 ≥ 64 then (if 0 ≤ (IntKind.u64.wrap (wrap64 (x8_1 - 64))) then (telemeterref11_rest.j1 k1 a0 a1 a2 x7_1 x8_1 (Go.bits .and .u64 (shr .u64 a0 (IntKind.u64.wrap (wrap64 (x8_1 - 64)))) 1)) else (none)) else (telemeterref11_rest.j1 k1 a0 a1 a2 x7_1 x8_1 (Go.bits .and .u64 (ji7) 1))) = some r := by first | (rw [hji7] at H; exact H) | (simp only [hji7] at H ⊢; exact H)
          have hji7_ : (a1 / 2 ^ min (ji5).toNat 64) = ji7 := hji7
          have hji7z : (ji5) ≤ 64 → (a1 / 2 ^ (ji5).toNat) = ji7 := shr_small hji7
          have HC8 := Aside0.mk H
          clear H
          go_upto_if 21 with (fail)
          go_cut [9] (fun v9 wc => ∃ (kq : Nat) (x9_7 : Int), v9 = .int .u64 x9_7 ∧ Aside0 (telemeterref11_rest.j1 kq a0 a1 a2 x7_1 x8_1 x9_7 = some r) ∧ Aside0 (kq ≤ k1) ∧ Drawn0 w wc)
          case first =>
            have H := HC8.out
            clear HC8
            by_cases c9 : x8_1 ≥ 64
            · rw [if_pos c9] at H
              have c9b0 : decide (64 ≤ x8_1) = true := decide_eq_true c9
              clear c9
              (first | rw [c9b0] | (simp only [i64_w, i32_w]; rw [c9b0]) | skip)
              obtain ⟨ji10, hji10⟩ : ∃ j_ : Int, (IntKind.u64.wrap (wrap64 (x8_1 - 64))) = j_ := ⟨_, rfl⟩
              replace H : (if 0 ≤ (ji10) then (telemeterref11_rest.j1 k1 a0 a1 a2 x7_1 x8_1 (Go.bits .and .u64 (shr .u64 a0 (ji10)) 1)) else (none)) = some r := by first | (rw [hji10] at H; exact H) | (simp only [hji10] at H ⊢; exact H)
              by_cases c11 : 0 ≤ (ji10)
              · rw [if_pos c11] at H
                have c11b0 := eq_true c11
                have c11b1 : decide (0 ≤ (ji10)) = true := decide_eq_true c11
                clear c11
                obtain ⟨ji12, hji12⟩ : ∃ j_ : Int, (shr .u64 a0 (ji10)) = j_ := ⟨_, rfl⟩
                replace H : (telemeterref11_rest.j1 k1 a0 a1 a2 x7_1 x8_1 (Go.bits .and .u64 (ji12) 1)) = some r := by first | (rw [hji12] at H; exact H) | (simp only [hji12] at H ⊢; exact H)
                have hji12_ : (a0 / 2 ^ min (ji10).toNat 64) = ji12 := hji12
                have hji12z : (ji10) ≤ 64 → (a0 / 2 ^ (ji10).toNat) = ji12 := shr_small hji12
                have H' := Aside0.mk H
                clear H
                go_wp2
                go_meet
                case rel => exact ⟨_, (Go.bits .and .u64 (ji12) 1), (by first | rfl | (simp; done) | (simp only [← hji12] <;> (first | rfl | simp)) | (simp [*]; done)), H', ⟨by have := HK1.out; first | omega | exact Nat.le_refl _⟩, by repeat (first | exact Drawn0.refl _ | apply Drawn0.step)⟩
              · rw [if_neg c11] at H
                exact absurd H (by simp)
            · rw [if_neg c9] at H
              have c9b0 : decide (64 ≤ x8_1) = false := decide_eq_false c9
              clear c9
              (first | rw [c9b0] | (simp only [i64_w, i32_w]; rw [c9b0]) | skip)
              have H' := Aside0.mk H
              clear H
              go_wp2
              go_meet
              case rel => exact ⟨_, (Go.bits .and .u64 (ji7) 1), (by first | rfl | (simp; done) | (simp only [← hji7] <;> (first | rfl | simp)) | (simp [*]; done)), H', ⟨by have := HK1.out; first | omega | exact Nat.le_refl _⟩, by repeat (first | exact Drawn0.refl _ | apply Drawn0.step)⟩
          case rest =>
            clear HC8
            try clear c1
            try clear p2
            try clear c4
            try clear c4b0
            try clear c5
            try clear c6
            try clear c6b0
            try clear c6b1
            try clear p6
            try clear c9
            try clear c9b0
            try clear c11
            try clear c11b0
            try clear c11b1
            try clear p2
            obtain ⟨kq, x9_7, rfl, HA, HJ7, ⟨mc7, rfl⟩⟩ := hcut
            cases kq with
            | zero => exact absurd HA.out (by simp [telemeterref11_rest.j1])
            | succ kj7 =>
              have H := HA.out
              clear HA
              simp only [telemeterref11_rest.j1] at H
              have HC13 := Aside0.mk H
              clear H
              go_upto_if 32 with (fail)
              go_cut [7] (fun v7 wc => ∃ (kq : Nat) (x7_12 : Int), v7 = .int .u64 x7_12 ∧ Aside0 (telemeterref11_rest.j2 kq a0 a1 a2 x7_12 x8_1 x9_7 = some r) ∧ Aside0 (kq ≤ kj7) ∧ Drawn0 w wc)
              case first =>
                have H := HC13.out
                clear HC13
                by_cases c14 : x7_1 ≥ (IntKind.u64.wrap (a2 - x7_1))
                · rw [if_pos c14] at H
                  have c14b0 : decide ((IntKind.u64.wrap (a2 - x7_1)) ≤ x7_1) = true := decide_eq_true c14
                  clear c14
                  (first | rw [c14b0] | (simp only [i64_w, i32_w]; rw [c14b0]) | skip)
                  have H' := Aside0.mk H
                  clear H
                  go_wp2
                  go_meet
                  case rel => exact ⟨_, (IntKind.u64.wrap (x7_1 - (IntKind.u64.wrap (a2 - x7_1)))), (by first | rfl | (simp; done) | (simp [*]; done)), H', ⟨by have := HK1.out; have := HJ7.out; first | omega | exact Nat.le_refl _⟩, by repeat (first | exact Drawn0.refl _ | apply Drawn0.step)⟩
                · rw [if_neg c14] at H
                  have c14b0 : decide ((IntKind.u64.wrap (a2 - x7_1)) ≤ x7_1) = false := decide_eq_false c14
                  clear c14
                  (first | rw [c14b0] | (simp only [i64_w, i32_w]; rw [c14b0]) | skip)
                  have H' := Aside0.mk H
                  clear H
                  go_wp2
                  go_meet
                  case rel => exact ⟨_, (IntKind.u64.wrap (2 * x7_1)), (by first | rfl | (simp; done) | (simp [*]; done)), H', ⟨by have := HK1.out; have := HJ7.out; first | omega | exact Nat.le_refl _⟩, by repeat (first | exact Drawn0.refl _ | apply Drawn0.step)⟩
              case rest =>
                clear HC13
                try clear c1
                try clear p2
                try clear c4
                try clear c4b0
                try clear c5
                try clear c6
                try clear c6b0
                try clear c6b1
                try clear p6
                try clear c7
                try clear c9
                try clear c9b0
                try clear c11
                try clear c11b0
                try clear c11b1
                try clear c14
                try clear c14b0
                try clear p2
                try clear p6
                obtain ⟨kq, x7_12, rfl, HA, HJ12, ⟨mc12, rfl⟩⟩ := hcut
                cases kq with
                | zero => exact absurd HA.out (by simp [telemeterref11_rest.j2])
                | succ kj12 =>
                  have H := HA.out
                  clear HA
                  simp only [telemeterref11_rest.j2] at H
                  by_cases c15 : x9_7 = 1
                  · rw [if_pos c15] at H
                    have c15b0 : (x9_7 == 1) = true := beq_iff_eq.mpr c15
                    have c15b1 : (x9_7 != 1) = false := bne_eq_false_iff_eq.mpr c15
                    clear c15
                    by_cases c16 : (IntKind.u64.wrap (x7_12 + 1)) = a2
                    · rw [if_pos c16] at H
                      have c16b0 : ((IntKind.u64.wrap (x7_12 + 1)) == a2) = true := beq_iff_eq.mpr c16
                      have c16b1 : ((IntKind.u64.wrap (x7_12 + 1)) != a2) = false := bne_eq_false_iff_eq.mpr c16
                      clear c16
                      have H' := Aside0.mk H
                      clear H
                      go_wp2
                      go_roundg kj12
                      case measure => have := HK1.out; have := HJ7.out; have := HJ12.out; omega
                      case rel => exact ⟨(0), (wrap64 (x8_1 - 1)), (by first | rfl | (simp; done) | (simp [*]; done)), (by first | rfl | (simp; done) | (simp [*]; done)), H', ⟨by have := HK1.out; have := HJ7.out; have := HJ12.out; omega⟩, by repeat (first | exact Drawn0.refl _ | apply Drawn0.step)⟩
                    · rw [if_neg c16] at H
                      have c16b0 : ((IntKind.u64.wrap (x7_12 + 1)) == a2) = false := beq_eq_false_iff_ne.mpr c16
                      have c16b1 : ((IntKind.u64.wrap (x7_12 + 1)) != a2) = true := bne_iff_ne.mpr c16
                      have H' := Aside0.mk H
                      clear H
                      go_wp2
                      go_roundg kj12
                      case measure => have := HK1.out; have := HJ7.out; have := HJ12.out; omega
                      case rel => exact ⟨(IntKind.u64.wrap (x7_12 + 1)), (wrap64 (x8_1 - 1)), (by first | rfl | (simp; done) | (simp [*]; done)), (by first | rfl | (simp; done) | (simp [*]; done)), H', ⟨by have := HK1.out; have := HJ7.out; have := HJ12.out; omega⟩, by repeat (first | exact Drawn0.refl _ | apply Drawn0.step)⟩
                  · rw [if_neg c15] at H
                    have c15b0 : (x9_7 == 1) = false := beq_eq_false_iff_ne.mpr c15
                    have c15b1 : (x9_7 != 1) = true := bne_iff_ne.mpr c15
                    have H' := Aside0.mk H
                    clear H
                    go_wp2
                    go_roundg kj12
                    case measure => have := HK1.out; have := HJ7.out; have := HJ12.out; omega
                    case rel => exact ⟨(x7_12), (wrap64 (x8_1 - 1)), (by first | rfl | (simp; done) | (simp [*]; done)), (by first | rfl | (simp; done) | (simp [*]; done)), H', ⟨by have := HK1.out; have := HJ7.out; have := HJ12.out; omega⟩, by repeat (first | exact Drawn0.refl _ | apply Drawn0.step)⟩
        · rw [if_neg c6] at H
          exact absurd H (by simp)
      · rw [if_neg c4] at H
        have c4b0 : decide (0 ≤ x8_1) = false := decide_eq_false c4
        clear c4
        obtain rfl := Option.some.inj H
        go_wp2
        go_ret
        exact ⟨by first | rfl | (simp; done) | (simp [*]; done), by repeat (first | exact Drawn0.refl _ | apply Drawn0.step)⟩

/-! ### telemeterref11_over: function 57 -/
mutual
def telemeterref11_over.l0 : Nat → Int → Int → Int → Int → Int → Option (Int)
  | 0, _, _, _, _, _ => none
  | k + 1, x1, x2, x7, x8, x9 => if x9 ≥ 0 then (if x8 ≥ (IntKind.u64.wrap (x2 - x8)) then (telemeterref11_over.j1 k x1 x2 (IntKind.u64.wrap ((IntKind.u64.wrap (2 * x7)) + 1)) (IntKind.u64.wrap (x8 - (IntKind.u64.wrap (x2 - x8)))) x9) else (telemeterref11_over.j1 k x1 x2 (IntKind.u64.wrap (2 * x7)) (IntKind.u64.wrap (2 * x8)) x9)) else (some x7)
def telemeterref11_over.j1 : Nat → Int → Int → Int → Int → Int → Option (Int)
  | 0, _, _, _, _, _ => none
  | k + 1, x1, x2, x7, x8, x9 => if 0 ≤ (IntKind.u64.wrap (x9)) then (if (Go.bits .and .u64 (shr .u64 x1 (IntKind.u64.wrap (x9))) 1) = 1 then (if (IntKind.u64.wrap (x8 + 1)) = x2 then (telemeterref11_over.l0 k x1 x2 (IntKind.u64.wrap (x7 + 1)) 0 (wrap64 (x9 - 1))) else (telemeterref11_over.l0 k x1 x2 x7 (IntKind.u64.wrap (x8 + 1)) (wrap64 (x9 - 1)))) else (telemeterref11_over.l0 k x1 x2 x7 x8 (wrap64 (x9 - 1)))) else (none)
end
def telemeterref11_over.f (k : Nat) (a0 : Int) (a1 : Int) (a2 : Int) : Option (Int) := if a0 ≥ a2 then (some 18446744073709551615) else (telemeterref11_over.l0 k a1 a2 0 a0 63)
theorem telemeterref11_over.mono_l : ∀ k, (∀ y0 y1 y2 y3 y4, LeO (telemeterref11_over.l0 k y0 y1 y2 y3 y4) (telemeterref11_over.l0 (k + 1) y0 y1 y2 y3 y4)) ∧ (∀ y0 y1 y2 y3 y4, LeO (telemeterref11_over.j1 k y0 y1 y2 y3 y4) (telemeterref11_over.j1 (k + 1) y0 y1 y2 y3 y4))
  | 0 => ⟨fun _ _ _ _ _ r h => by simp [telemeterref11_over.l0] at h, fun _ _ _ _ _ r h => by simp [telemeterref11_over.j1] at h⟩
  | k + 1 => by
    obtain ⟨ih0, ih1⟩ := telemeterref11_over.mono_l k
    refine ⟨?_, ?_⟩
    · intro y0 y1 y2 y3 y4
      unfold telemeterref11_over.l0
      repeat' first
      | (with_reducible exact ih0 _ _ _ _ _)
      | (with_reducible exact ih1 _ _ _ _ _)
      | (with_reducible exact LeO.refl _)
      | (with_reducible exact LeO.none _)
      | (with_reducible refine LeO.ite ?_ ?_)
      | (with_reducible refine LeO.bind ?_ (fun _ => ?_))
      | exact ih0 _ _ _ _ _
      | exact ih1 _ _ _ _ _
      | exact LeO.none _
      | refine LeO.ite ?_ ?_
      | refine LeO.bind ?_ (fun _ => ?_)
    · intro y0 y1 y2 y3 y4
      unfold telemeterref11_over.j1
      repeat' first
      | (with_reducible exact ih0 _ _ _ _ _)
      | (with_reducible exact ih1 _ _ _ _ _)
      | (with_reducible exact LeO.refl _)
      | (with_reducible exact LeO.none _)
      | (with_reducible refine LeO.ite ?_ ?_)
      | (with_reducible refine LeO.bind ?_ (fun _ => ?_))
      | exact ih0 _ _ _ _ _
      | exact ih1 _ _ _ _ _
      | exact LeO.none _
      | refine LeO.ite ?_ ?_
      | refine LeO.bind ?_ (fun _ => ?_)
theorem telemeterref11_over.mono : ∀ a0 a1 a2 k, LeO (telemeterref11_over.f k a0 a1 a2) (telemeterref11_over.f (k + 1) a0 a1 a2) := by
  intro a0 a1 a2 k
  obtain ⟨ih0, ih1⟩ := telemeterref11_over.mono_l k
  unfold telemeterref11_over.f
  repeat' first
      | (with_reducible exact ih0 _ _ _ _ _)
      | (with_reducible exact ih1 _ _ _ _ _)
      | (with_reducible exact LeO.refl _)
      | (with_reducible exact LeO.none _)
      | (with_reducible refine LeO.ite ?_ ?_)
      | (with_reducible refine LeO.bind ?_ (fun _ => ?_))
      | exact ih0 _ _ _ _ _
      | exact ih1 _ _ _ _ _
      | exact LeO.none _
      | refine LeO.ite ?_ ?_
      | refine LeO.bind ?_ (fun _ => ?_)
set_option maxHeartbeats 8000000 in
set_option maxRecDepth 100000 in
theorem telemeterref11_over.calls (k : Nat) (a0 : Int) (a1 : Int) (a2 : Int) (r : Int) (w : World) (h : telemeterref11_over.f k a0 a1 a2 = some r) :
    Calls Try.prog 57 #[.int .u64 a0, .int .u64 a1, .int .u64 a2] w fun e w' => e = .returned (.int .u64 r) ∧ Drawn0 w w' := by
  have H : (if a0 ≥ a2 then (some 18446744073709551615) else (telemeterref11_over.l0 k a1 a2 0 a0 63)) = some r := h
  clear h
  by_cases c4 : a0 ≥ a2
  · rw [if_pos c4] at H
    have c4b0 : decide (a2 ≤ a0) = true := decide_eq_true c4
    clear c4
    obtain rfl := Option.some.inj H
    go_enter Try.func57, Try.ntmps57
    go_wp2
    go_ret
    exact ⟨by first | rfl | (simp; done) | (simp [*]; done), by repeat (first | exact Drawn0.refl _ | apply Drawn0.step)⟩
  · rw [if_neg c4] at H
    have c4b0 : decide (a2 ≤ a0) = false := decide_eq_false c4
    clear c4
    have H' := Aside0.mk H
    clear H
    go_enter Try.func57, Try.ntmps57
    go_wp2
    go_loopg [7, 8, 9] k (fun kq v7 v8 v9 w' => ∃ (x7_1 : Int) (x8_1 : Int) (x9_1 : Int), v7 = .int .u64 x7_1 ∧ v8 = .int .u64 x8_1 ∧ v9 = .int .i64 x9_1 ∧ Aside0 (telemeterref11_over.l0 kq a1 a2 x7_1 x8_1 x9_1 = some r) ∧ Aside0 (kq ≤ k) ∧ Drawn0 w w')
    case atStart => exact ⟨(0), (a0), (63), (by first | rfl | (simp; done) | (simp [*]; done)), (by first | rfl | (simp; done) | (simp [*]; done)), (by first | rfl | (simp; done) | (simp [*]; done)), H', ⟨Nat.le_refl _⟩, by repeat (first | exact Drawn0.refl _ | apply Drawn0.step)⟩
    case round =>
      clear H'
      try clear p2
      try clear c4
      try clear c4b0
      obtain ⟨x7_1, x8_1, x9_1, rfl, rfl, rfl, HA, HK1, ⟨m1, rfl⟩⟩ := hrel
      cases gk with
      | zero => exact absurd HA.out (by simp [telemeterref11_over.l0])
      | succ k1 =>
        have H := HA.out
        clear HA
        simp only [telemeterref11_over.l0] at H
        by_cases c5 : x9_1 ≥ 0
        · rw [if_pos c5] at H
          have c5b0 : decide (0 ≤ x9_1) = true := decide_eq_true c5
          clear c5
          have HC6 := Aside0.mk H
          clear H
          go_upto_if 26 with (fail)
          go_cut [7, 8, 10] (fun v7 v8 v10 wc => ∃ (kq : Nat) (x7_5 : Int) (x8_5 : Int), v7 = .int .u64 x7_5 ∧ v8 = .int .u64 x8_5 ∧ Aside0 (telemeterref11_over.j1 kq a1 a2 x7_5 x8_5 x9_1 = some r) ∧ Aside0 (kq ≤ k1) ∧ Drawn0 w wc)
          case first =>
            have H := HC6.out
            clear HC6
            by_cases c7 : x8_1 ≥ (IntKind.u64.wrap (a2 - x8_1))
            · rw [if_pos c7] at H
              have c7b0 : decide ((IntKind.u64.wrap (a2 - x8_1)) ≤ x8_1) = true := decide_eq_true c7
              clear c7
              (first | rw [c7b0] | (simp only [i64_w, i32_w]; rw [c7b0]) | skip)
              have H' := Aside0.mk H
              clear H
              go_wp2
              go_meet
              case rel => exact ⟨_, (IntKind.u64.wrap ((IntKind.u64.wrap (2 * x7_1)) + 1)), (IntKind.u64.wrap (x8_1 - (IntKind.u64.wrap (a2 - x8_1)))), (by first | rfl | (simp; done) | (simp [*]; done)), (by first | rfl | (simp; done) | (simp [*]; done)), H', ⟨by have := HK1.out; first | omega | exact Nat.le_refl _⟩, by repeat (first | exact Drawn0.refl _ | apply Drawn0.step)⟩
            · rw [if_neg c7] at H
              have c7b0 : decide ((IntKind.u64.wrap (a2 - x8_1)) ≤ x8_1) = false := decide_eq_false c7
              clear c7
              (first | rw [c7b0] | (simp only [i64_w, i32_w]; rw [c7b0]) | skip)
              have H' := Aside0.mk H
              clear H
              go_wp2
              go_meet
              case rel => exact ⟨_, (IntKind.u64.wrap (2 * x7_1)), (IntKind.u64.wrap (2 * x8_1)), (by first | rfl | (simp; done) | (simp [*]; done)), (by first | rfl | (simp; done) | (simp [*]; done)), H', ⟨by have := HK1.out; first | omega | exact Nat.le_refl _⟩, by repeat (first | exact Drawn0.refl _ | apply Drawn0.step)⟩
          case rest =>
            clear HC6
            try clear p2
            try clear c4
            try clear c4b0
            try clear c5
            try clear c5b0
            try clear c7
            try clear c7b0
            try clear p2
            obtain ⟨kq, x7_5, x8_5, rfl, rfl, HA, HJ5, ⟨mc5, rfl⟩⟩ := hcut
            cases kq with
            | zero => exact absurd HA.out (by simp [telemeterref11_over.j1])
            | succ kj5 =>
              have H := HA.out
              clear HA
              simp only [telemeterref11_over.j1] at H
              obtain ⟨ji8, hji8⟩ : ∃ j_ : Int, (IntKind.u64.wrap (x9_1)) = j_ := ⟨_, rfl⟩
              replace H : (if 0 ≤ (ji8) then (if (Go.bits .and .u64 (shr .u64 a1 (ji8)) 1) = 1 then (if (IntKind.u64.wrap (x8_5 + 1)) = a2 then (telemeterref11_over.l0 kj5 a1 a2 (IntKind.u64.wrap (x7_5 + 1)) 0 (wrap64 (x9_1 - 1))) else (telemeterref11_over.l0 kj5 a1 a2 x7_5 (IntKind.u64.wrap (x8_5 + 1)) (wrap64 (x9_1 - 1)))) else (telemeterref11_over.l0 kj5 a1 a2 x7_5 x8_5 (wrap64 (x9_1 - 1)))) else (none)) = some r := by first | (rw [hji8] at H; exact H) | (simp only [hji8] at H ⊢; exact H)
              by_cases c9 : 0 ≤ (ji8)
              · rw [if_pos c9] at H
                have c9b0 := eq_true c9
                have c9b1 : decide (0 ≤ (ji8)) = true := decide_eq_true c9
                clear c9
                obtain ⟨ji10, hji10⟩ : ∃ j_ : Int, (shr .u64 a1 (ji8)) = j_ := ⟨_, rfl⟩
                replace H : (if (Go.bits .and .u64 (ji10) 1) = 1 then (if (IntKind.u64.wrap (x8_5 + 1)) = a2 then (telemeterref11_over.l0 kj5 a1 a2 (IntKind.u64.wrap (x7_5 + 1)) 0 (wrap64 (x9_1 - 1))) else (telemeterref11_over.l0 kj5 a1 a2 x7_5 (IntKind.u64.wrap (x8_5 + 1)) (wrap64 (x9_1 - 1)))) else (telemeterref11_over.l0 kj5 a1 a2 x7_5 x8_5 (wrap64 (x9_1 - 1)))) = some r := by first | (rw [hji10] at H; exact H) | (simp only [hji10] at H ⊢; exact H)
                have hji10_ : (a1 / 2 ^ min (ji8).toNat 64) = ji10 := hji10
                have hji10z : (ji8) ≤ 64 → (a1 / 2 ^ (ji8).toNat) = ji10 := shr_small hji10
                by_cases c11 : (Go.bits .and .u64 (ji10) 1) = 1
                · rw [if_pos c11] at H
                  have c11b0 : ((Go.bits .and .u64 (ji10) 1) == 1) = true := beq_iff_eq.mpr c11
                  have c11b1 : ((Go.bits .and .u64 (ji10) 1) != 1) = false := bne_eq_false_iff_eq.mpr c11
                  clear c11
                  by_cases c12 : (IntKind.u64.wrap (x8_5 + 1)) = a2
                  · rw [if_pos c12] at H
                    have c12b0 : ((IntKind.u64.wrap (x8_5 + 1)) == a2) = true := beq_iff_eq.mpr c12
                    have c12b1 : ((IntKind.u64.wrap (x8_5 + 1)) != a2) = false := bne_eq_false_iff_eq.mpr c12
                    clear c12
                    have H' := Aside0.mk H
                    clear H
                    go_wp2
                    go_roundg kj5
                    case measure => have := HK1.out; have := HJ5.out; omega
                    case rel => exact ⟨(IntKind.u64.wrap (x7_5 + 1)), (0), (wrap64 (x9_1 - 1)), (by first | rfl | (simp; done) | (simp [*]; done)), (by first | rfl | (simp; done) | (simp [*]; done)), (by first | rfl | (simp; done) | (simp [*]; done)), H', ⟨by have := HK1.out; have := HJ5.out; omega⟩, by repeat (first | exact Drawn0.refl _ | apply Drawn0.step)⟩
                  · rw [if_neg c12] at H
                    have c12b0 : ((IntKind.u64.wrap (x8_5 + 1)) == a2) = false := beq_eq_false_iff_ne.mpr c12
                    have c12b1 : ((IntKind.u64.wrap (x8_5 + 1)) != a2) = true := bne_iff_ne.mpr c12
                    have H' := Aside0.mk H
                    clear H
                    go_wp2
                    go_roundg kj5
                    case measure => have := HK1.out; have := HJ5.out; omega
                    case rel => exact ⟨(x7_5), (IntKind.u64.wrap (x8_5 + 1)), (wrap64 (x9_1 - 1)), (by first | rfl | (simp; done) | (simp [*]; done)), (by first | rfl | (simp; done) | (simp [*]; done)), (by first | rfl | (simp; done) | (simp [*]; done)), H', ⟨by have := HK1.out; have := HJ5.out; omega⟩, by repeat (first | exact Drawn0.refl _ | apply Drawn0.step)⟩
                · rw [if_neg c11] at H
                  have c11b0 : ((Go.bits .and .u64 (ji10) 1) == 1) = false := beq_eq_false_iff_ne.mpr c11
                  have c11b1 : ((Go.bits .and .u64 (ji10) 1) != 1) = true := bne_iff_ne.mpr c11
                  have H' := Aside0.mk H
                  clear H
                  go_wp2
                  go_roundg kj5
                  case measure => have := HK1.out; have := HJ5.out; omega
                  case rel => exact ⟨(x7_5), (x8_5), (wrap64 (x9_1 - 1)), (by first | rfl | (simp; done) | (simp [*]; done)), (by first | rfl | (simp; done) | (simp [*]; done)), (by first | rfl | (simp; done) | (simp [*]; done)), H', ⟨by have := HK1.out; have := HJ5.out; omega⟩, by repeat (first | exact Drawn0.refl _ | apply Drawn0.step)⟩
              · rw [if_neg c9] at H
                exact absurd H (by simp)
        · rw [if_neg c5] at H
          have c5b0 : decide (0 ≤ x9_1) = false := decide_eq_false c5
          clear c5
          obtain rfl := Option.some.inj H
          go_wp2
          go_ret
          exact ⟨by first | rfl | (simp; done) | (simp [*]; done), by repeat (first | exact Drawn0.refl _ | apply Drawn0.step)⟩

/-! ### telemeterref11_counts: function 40 -/
mutual
def telemeterref11_counts.j0 : Nat → Int → Int → Int → Int → Int → Option (Int × Int)
  | 0, _, _, _, _, _ => none
  | k + 1, x0, x8, x9, x165000, x165001 => (telemeterref11_product.f x0 x165001).bind fun bt167 => (if bt167.1 > x8 then (telemeterref11_counts.j1 k x0 x8 x9 true x165000 x165001) else (if bt167.1 = x8 then (telemeterref11_counts.j1 k x0 x8 x9 (decide (bt167.2 ≥ x9)) x165000 x165001) else (telemeterref11_counts.j1 k x0 x8 x9 false x165000 x165001)))
def telemeterref11_counts.j1 : Nat → Int → Int → Int → Bool → Int → Int → Option (Int × Int)
  | 0, _, _, _, _, _, _ => none
  | k + 1, x0, x8, x9, x44, x165000, x165001 => if x44 = true then (some (x0, 1)) else (if x165001 = 18446744073709551615 then (some (x165000, 1)) else ((telemeterref11_rest.f k x8 x9 (IntKind.u64.wrap (x165001 + 1))).bind fun t169 => ((telemeterref11_gcd.f k (IntKind.u64.wrap (x165001 + 1)) t169).bind fun t170 => ((telemeterref11_over.f k x8 x9 t170).bind fun t171 => (if t170 = 0 then (none) else (some (t171, IntKind.u64.wrap (Int.tdiv (IntKind.u64.wrap (x165001 + 1)) t170))))))))
end
def telemeterref11_counts.f (k : Nat) (a0 : Int) (a1_0 : Int) (a1_1 : Int) (a2 : Int) : Option (Int × Int) := (telemeterref11_times.f a1_0 a2).bind fun bt165 => (if a2 = 0 then (telemeterref11_counts.j0 k a0 a1_0 0 a1_0 a1_1) else (telemeterref11_counts.j0 k a0 bt165.1 bt165.2 a1_0 a1_1))
theorem telemeterref11_counts.mono_l : ∀ k, (∀ y0 y1 y2 y3 y4, LeO (telemeterref11_counts.j0 k y0 y1 y2 y3 y4) (telemeterref11_counts.j0 (k + 1) y0 y1 y2 y3 y4)) ∧ (∀ y0 y1 y2 y3 y4 y5, LeO (telemeterref11_counts.j1 k y0 y1 y2 y3 y4 y5) (telemeterref11_counts.j1 (k + 1) y0 y1 y2 y3 y4 y5))
  | 0 => ⟨fun _ _ _ _ _ r h => by simp [telemeterref11_counts.j0] at h, fun _ _ _ _ _ _ r h => by simp [telemeterref11_counts.j1] at h⟩
  | k + 1 => by
    obtain ⟨ih0, ih1⟩ := telemeterref11_counts.mono_l k
    refine ⟨?_, ?_⟩
    · intro y0 y1 y2 y3 y4
      unfold telemeterref11_counts.j0
      repeat' first
      | (with_reducible exact ih0 _ _ _ _ _)
      | (with_reducible exact ih1 _ _ _ _ _ _)
      | (with_reducible exact telemeterref11_gcd.mono _ _ _)
      | (with_reducible exact telemeterref11_over.mono _ _ _ _)
      | (with_reducible exact telemeterref11_rest.mono _ _ _ _)
      | (with_reducible exact LeO.refl _)
      | (with_reducible exact LeO.none _)
      | (with_reducible refine LeO.ite ?_ ?_)
      | (with_reducible refine LeO.bind ?_ (fun _ => ?_))
      | exact ih0 _ _ _ _ _
      | exact ih1 _ _ _ _ _ _
      | exact telemeterref11_gcd.mono _ _ _
      | exact telemeterref11_over.mono _ _ _ _
      | exact telemeterref11_rest.mono _ _ _ _
      | exact LeO.none _
      | refine LeO.ite ?_ ?_
      | refine LeO.bind ?_ (fun _ => ?_)
    · intro y0 y1 y2 y3 y4 y5
      unfold telemeterref11_counts.j1
      repeat' first
      | (with_reducible exact ih0 _ _ _ _ _)
      | (with_reducible exact ih1 _ _ _ _ _ _)
      | (with_reducible exact telemeterref11_gcd.mono _ _ _)
      | (with_reducible exact telemeterref11_over.mono _ _ _ _)
      | (with_reducible exact telemeterref11_rest.mono _ _ _ _)
      | (with_reducible exact LeO.refl _)
      | (with_reducible exact LeO.none _)
      | (with_reducible refine LeO.ite ?_ ?_)
      | (with_reducible refine LeO.bind ?_ (fun _ => ?_))
      | exact ih0 _ _ _ _ _
      | exact ih1 _ _ _ _ _ _
      | exact telemeterref11_gcd.mono _ _ _
      | exact telemeterref11_over.mono _ _ _ _
      | exact telemeterref11_rest.mono _ _ _ _
      | exact LeO.none _
      | refine LeO.ite ?_ ?_
      | refine LeO.bind ?_ (fun _ => ?_)
theorem telemeterref11_counts.mono : ∀ a0 a1 a2 a3 k, LeO (telemeterref11_counts.f k a0 a1 a2 a3) (telemeterref11_counts.f (k + 1) a0 a1 a2 a3) := by
  intro a0 a1 a2 a3 k
  obtain ⟨ih0, ih1⟩ := telemeterref11_counts.mono_l k
  unfold telemeterref11_counts.f
  repeat' first
      | (with_reducible exact ih0 _ _ _ _ _)
      | (with_reducible exact ih1 _ _ _ _ _ _)
      | (with_reducible exact telemeterref11_gcd.mono _ _ _)
      | (with_reducible exact telemeterref11_over.mono _ _ _ _)
      | (with_reducible exact telemeterref11_rest.mono _ _ _ _)
      | (with_reducible exact LeO.refl _)
      | (with_reducible exact LeO.none _)
      | (with_reducible refine LeO.ite ?_ ?_)
      | (with_reducible refine LeO.bind ?_ (fun _ => ?_))
      | exact ih0 _ _ _ _ _
      | exact ih1 _ _ _ _ _ _
      | exact telemeterref11_gcd.mono _ _ _
      | exact telemeterref11_over.mono _ _ _ _
      | exact telemeterref11_rest.mono _ _ _ _
      | exact LeO.none _
      | refine LeO.ite ?_ ?_
      | refine LeO.bind ?_ (fun _ => ?_)
set_option maxHeartbeats 8000000 in
set_option maxRecDepth 100000 in
theorem telemeterref11_counts.calls (k : Nat) (a0 : Int) (a1_0 : Int) (a1_1 : Int) (a2 : Int) (r1 : Int) (r2 : Int) (w : World) (h : telemeterref11_counts.f k a0 a1_0 a1_1 a2 = some (r1, r2)) :
    Calls Try.prog 40 #[.int .u64 a0, .agg #[.int .u64 a1_0, .int .u64 a1_1], .int .u64 a2] w fun e w' => e = .returned (.tuple #[.int .u64 r1, .int .u64 r2]) ∧ Below w.heap.size w w' := by
  have hu93 := Try.underlying93
  have HB := Aside0.mk (Below.refl w.heap.size w)
  have H : ((telemeterref11_times.f a1_0 a2).bind fun bt165 => (if a2 = 0 then (telemeterref11_counts.j0 k a0 a1_0 0 a1_0 a1_1) else (telemeterref11_counts.j0 k a0 bt165.1 bt165.2 a1_0 a1_1))) = some (r1, r2) := h
  clear h
  replace H := Option.bind_eq_some_iff.mp H
  obtain ⟨⟨t165, t166⟩, A40, H⟩ := H
  replace H : (if a2 = 0 then (telemeterref11_counts.j0 k a0 a1_0 0 a1_0 a1_1) else (telemeterref11_counts.j0 k a0 t165 t166 a1_0 a1_1)) = some (r1, r2) := H
  have A4 := Aside0.mk A40
  clear A40
  have HC5 := Aside0.mk H
  clear H
  go_enter Try.func40, Try.ntmps40
  go_upto_if 22 with (first | ((with_reducible refine gate_dst (N := 4) rfl ?_); refine box_event ?hg (N := 4) ?hd (cs := #[.int .u64 a1_0, .int .u64 a1_1]) (t := 93) ?hr ?_; (case hd => rfl); (case hg => rfl); (case hr => first | (go_simp; done) | (go_simp; rfl)); intro gb164 hg w6 hbox hb; have n0_ := Aside0.mk (below_step (by repeat (first | (with_reducible first | exact HB.out | apply below_alloc | apply pw_below_drewN | apply below_drew1) | exact HB.out)) hb); have n1_ := Aside0.mk (hbox); have n2_ := Aside0.mk ((by rw [hg]; exact (below_size (by repeat (first | (with_reducible first | exact HB.out | apply below_alloc | apply pw_below_drewN | apply below_drew1) | exact HB.out))) : w.heap.size ≤ gb164)); have n3_ := Aside0.mk ((by rw [hg]; exact (below_size (by repeat (first | (with_reducible first | exact HB.out | apply below_alloc | apply pw_below_drewN | apply below_drew1) | exact HB.out))) : w.heap.size ≤ gb164)); clear HB; have HB := n0_; have BK164 := n1_; have GW164 := n2_; have GE164 := n3_; clear n0_ n1_ n2_ n3_; clear hb hbox hg; have hcz7_0 : w6.cell? ⟨gb164, 0, none⟩ = some (.int .u64 a1_0) := (blk_cell BK164.out 0).trans rfl; have hcz7_1 : w6.cell? ⟨gb164, 1, none⟩ = some (.int .u64 a1_1) := (blk_cell BK164.out 1).trans rfl; have hfz7_0 := blk_frozen BK164.out 0; have hfz7_1 := blk_frozen BK164.out 1) | (go_at_call 43; (with_reducible refine (telemeterref11_times.calls a1_0 a2 t165 t166 _ A4.out).mono ?_); rintro e w' ⟨rfl, ⟨nd, rfl⟩⟩; (try first | exact ⟨rfl, _, World.drewN_drewN _ _ _⟩ | exact ⟨rfl, _, Eq.trans (World.drewN_drewN _ _ _) (congrArg (World.drewN _) (Nat.add_assoc _ _ _))⟩)))
  repeat (go_quiet (first | ((with_reducible refine gate_dst (N := 4) rfl ?_); refine box_event ?hg (N := 4) ?hd (cs := #[.int .u64 a1_0, .int .u64 a1_1]) (t := 93) ?hr ?_; (case hd => rfl); (case hg => rfl); (case hr => first | (go_simp; done) | (go_simp; rfl)); intro gb164 hg w6 hbox hb; have n0_ := Aside0.mk (below_step (by repeat (first | (with_reducible first | exact HB.out | apply below_alloc | apply pw_below_drewN | apply below_drew1) | exact HB.out)) hb); have n1_ := Aside0.mk (hbox); have n2_ := Aside0.mk ((by rw [hg]; exact (below_size (by repeat (first | (with_reducible first | exact HB.out | apply below_alloc | apply pw_below_drewN | apply below_drew1) | exact HB.out))) : w.heap.size ≤ gb164)); have n3_ := Aside0.mk ((by rw [hg]; exact (below_size (by repeat (first | (with_reducible first | exact HB.out | apply below_alloc | apply pw_below_drewN | apply below_drew1) | exact HB.out))) : w.heap.size ≤ gb164)); clear HB; have HB := n0_; have BK164 := n1_; have GW164 := n2_; have GE164 := n3_; clear n0_ n1_ n2_ n3_; clear hb hbox hg; have hcz7_0 : w6.cell? ⟨gb164, 0, none⟩ = some (.int .u64 a1_0) := (blk_cell BK164.out 0).trans rfl; have hcz7_1 : w6.cell? ⟨gb164, 1, none⟩ = some (.int .u64 a1_1) := (blk_cell BK164.out 1).trans rfl; have hfz7_0 := blk_frozen BK164.out 0; have hfz7_1 := blk_frozen BK164.out 1) | (go_at_call 43; (with_reducible refine (telemeterref11_times.calls a1_0 a2 t165 t166 _ A4.out).mono ?_); rintro e w' ⟨rfl, ⟨nd, rfl⟩⟩; (try first | exact ⟨rfl, _, World.drewN_drewN _ _ _⟩ | exact ⟨rfl, _, Eq.trans (World.drewN_drewN _ _ _) (congrArg (World.drewN _) (Nat.add_assoc _ _ _))⟩))); go_upto_if 22 with (first | ((with_reducible refine gate_dst (N := 4) rfl ?_); refine box_event ?hg (N := 4) ?hd (cs := #[.int .u64 a1_0, .int .u64 a1_1]) (t := 93) ?hr ?_; (case hd => rfl); (case hg => rfl); (case hr => first | (go_simp; done) | (go_simp; rfl)); intro gb164 hg w6 hbox hb; have n0_ := Aside0.mk (below_step (by repeat (first | (with_reducible first | exact HB.out | apply below_alloc | apply pw_below_drewN | apply below_drew1) | exact HB.out)) hb); have n1_ := Aside0.mk (hbox); have n2_ := Aside0.mk ((by rw [hg]; exact (below_size (by repeat (first | (with_reducible first | exact HB.out | apply below_alloc | apply pw_below_drewN | apply below_drew1) | exact HB.out))) : w.heap.size ≤ gb164)); have n3_ := Aside0.mk ((by rw [hg]; exact (below_size (by repeat (first | (with_reducible first | exact HB.out | apply below_alloc | apply pw_below_drewN | apply below_drew1) | exact HB.out))) : w.heap.size ≤ gb164)); clear HB; have HB := n0_; have BK164 := n1_; have GW164 := n2_; have GE164 := n3_; clear n0_ n1_ n2_ n3_; clear hb hbox hg; have hcz7_0 : w6.cell? ⟨gb164, 0, none⟩ = some (.int .u64 a1_0) := (blk_cell BK164.out 0).trans rfl; have hcz7_1 : w6.cell? ⟨gb164, 1, none⟩ = some (.int .u64 a1_1) := (blk_cell BK164.out 1).trans rfl; have hfz7_0 := blk_frozen BK164.out 0; have hfz7_1 := blk_frozen BK164.out 1) | (go_at_call 43; (with_reducible refine (telemeterref11_times.calls a1_0 a2 t165 t166 _ A4.out).mono ?_); rintro e w' ⟨rfl, ⟨nd, rfl⟩⟩; (try first | exact ⟨rfl, _, World.drewN_drewN _ _ _⟩ | exact ⟨rfl, _, Eq.trans (World.drewN_drewN _ _ _) (congrArg (World.drewN _) (Nat.add_assoc _ _ _))⟩))))
  (try simp only [Act.put, List.setIfInBounds_toArray, List.set_cons_zero, List.set_cons_succ])
  go_cut [8, 9] (fun v8 v9 wc => ∃ (kq : Nat) (x8_4 : Int) (x9_4 : Int), v8 = .int .u64 x8_4 ∧ v9 = .int .u64 x9_4 ∧ Aside0 (telemeterref11_counts.j0 kq a0 x8_4 x9_4 a1_0 a1_1 = some (r1, r2)) ∧ Aside0 (kq ≤ k) ∧ Aside0 (wc.heap[gb164]? = some (.cells #[.int .u64 a1_0, .int .u64 a1_1] 93 (0, 0))) ∧ Aside0 (Below w.heap.size w wc))
  case first =>
    have H := HC5.out
    clear HC5
    by_cases c8 : a2 = 0
    · rw [if_pos c8] at H
      have c8b0 : (a2 == 0) = true := beq_iff_eq.mpr c8
      have c8b1 : (a2 != 0) = false := bne_eq_false_iff_eq.mpr c8
      clear c8
      (first | rw [c8b0] | (simp only [i64_w, i32_w]; rw [c8b0]) | skip)
      have H' := Aside0.mk H
      clear H
      have hcz9_0 : w6.cell? ⟨gb164, 0, none⟩ = some (.int .u64 a1_0) := (blk_cell BK164.out 0).trans rfl
      have hcz9_1 : w6.cell? ⟨gb164, 1, none⟩ = some (.int .u64 a1_1) := (blk_cell BK164.out 1).trans rfl
      have hfz9_0 := blk_frozen BK164.out 0
      have hfz9_1 := blk_frozen BK164.out 1
      go_wp2
      repeat (go_quiet (fail); try go_wp2)
      go_meet
      case rel => exact ⟨_, (a1_0), (0), (by first | rfl | (simp; done) | (simp [*]; done)), (by first | rfl | (simp; done) | (simp [*]; done)), H', ⟨by first | omega | exact Nat.le_refl _⟩, ⟨by (with_reducible repeat (first | refine blk_drewN ?_ _ | refine blk_drew ?_ | refine blk_alloc ?_ _)); exact BK164.out⟩, ⟨by repeat (first | (with_reducible first | exact HB.out | apply below_alloc | apply pw_below_drewN | apply below_drew1 | refine below_set ?_ GE164.out) | exact HB.out)⟩⟩
    · rw [if_neg c8] at H
      have c8b0 : (a2 == 0) = false := beq_eq_false_iff_ne.mpr c8
      have c8b1 : (a2 != 0) = true := bne_iff_ne.mpr c8
      (first | rw [c8b0] | (simp only [i64_w, i32_w]; rw [c8b0]) | skip)
      have H' := Aside0.mk H
      clear H
      go_wp2
      repeat (go_quiet (fail); try go_wp2)
      go_meet
      case rel => exact ⟨_, (t165), (t166), (by first | rfl | (simp; done) | (simp [*]; done)), (by first | rfl | (simp; done) | (simp [*]; done)), H', ⟨by first | omega | exact Nat.le_refl _⟩, ⟨by (with_reducible repeat (first | refine blk_drewN ?_ _ | refine blk_drew ?_ | refine blk_alloc ?_ _)); exact BK164.out⟩, ⟨by repeat (first | (with_reducible first | exact HB.out | apply below_alloc | apply pw_below_drewN | apply below_drew1 | refine below_set ?_ GE164.out) | exact HB.out)⟩⟩
  case rest =>
    clear HC5
    try clear p2
    try clear c4
    try clear c8
    try clear c8b0
    try clear c8b1
    try clear hcz7_0
    try clear hcz7_1
    try clear hcz9_0
    try clear hcz9_1
    try clear hfz7_0
    try clear hfz7_1
    try clear hfz9_0
    try clear hfz9_1
    obtain ⟨kq, x8_4, x9_4, rfl, rfl, HA, HJ4, BK164, HB⟩ := hcut
    cases kq with
    | zero => exact absurd HA.out (by simp [telemeterref11_counts.j0])
    | succ kj4 =>
      have H := HA.out
      clear HA
      simp only [telemeterref11_counts.j0] at H
      replace H := Option.bind_eq_some_iff.mp H
      obtain ⟨⟨t167, t168⟩, A100, H⟩ := H
      replace H : (if t167 > x8_4 then (telemeterref11_counts.j1 kj4 a0 x8_4 x9_4 true a1_0 a1_1) else (if t167 = x8_4 then (telemeterref11_counts.j1 kj4 a0 x8_4 x9_4 (decide (t168 ≥ x9_4)) a1_0 a1_1) else (telemeterref11_counts.j1 kj4 a0 x8_4 x9_4 false a1_0 a1_1))) = some (r1, r2) := H
      have A10 := Aside0.mk A100
      clear A100
      have HC11 := Aside0.mk H
      clear H
      have hcz12_0 : wc.cell? ⟨gb164, 0, none⟩ = some (.int .u64 a1_0) := (blk_cell BK164.out 0).trans rfl
      have hcz12_1 : wc.cell? ⟨gb164, 1, none⟩ = some (.int .u64 a1_1) := (blk_cell BK164.out 1).trans rfl
      have hfz12_0 := blk_frozen BK164.out 0
      have hfz12_1 := blk_frozen BK164.out 1
      go_upto_region 6 with (first | (go_at_call 31; (with_reducible refine (telemeterref11_product.calls a0 a1_1 t167 t168 _ A10.out).mono ?_); rintro e w' ⟨rfl, ⟨nd, rfl⟩⟩; (try first | exact ⟨rfl, _, World.drewN_drewN _ _ _⟩ | exact ⟨rfl, _, Eq.trans (World.drewN_drewN _ _ _) (congrArg (World.drewN _) (Nat.add_assoc _ _ _))⟩)))
      repeat (go_quiet (first | (go_at_call 31; (with_reducible refine (telemeterref11_product.calls a0 a1_1 t167 t168 _ A10.out).mono ?_); rintro e w' ⟨rfl, ⟨nd, rfl⟩⟩; (try first | exact ⟨rfl, _, World.drewN_drewN _ _ _⟩ | exact ⟨rfl, _, Eq.trans (World.drewN_drewN _ _ _) (congrArg (World.drewN _) (Nat.add_assoc _ _ _))⟩))); go_upto_region 6 with (first | (go_at_call 31; (with_reducible refine (telemeterref11_product.calls a0 a1_1 t167 t168 _ A10.out).mono ?_); rintro e w' ⟨rfl, ⟨nd, rfl⟩⟩; (try first | exact ⟨rfl, _, World.drewN_drewN _ _ _⟩ | exact ⟨rfl, _, Eq.trans (World.drewN_drewN _ _ _) (congrArg (World.drewN _) (Nat.add_assoc _ _ _))⟩))))
      (try simp only [Act.put, List.setIfInBounds_toArray, List.set_cons_zero, List.set_cons_succ])
      go_cut [44] (fun v44 wc => ∃ (kq : Nat) (x44_10 : Bool), v44 = .bool x44_10 ∧ Aside0 (telemeterref11_counts.j1 kq a0 x8_4 x9_4 x44_10 a1_0 a1_1 = some (r1, r2)) ∧ Aside0 (kq ≤ kj4) ∧ Aside0 (wc.heap[gb164]? = some (.cells #[.int .u64 a1_0, .int .u64 a1_1] 93 (0, 0))) ∧ Aside0 (Below w.heap.size w wc))
      case first =>
        have H := HC11.out
        clear HC11
        by_cases c13 : t167 > x8_4
        · rw [if_pos c13] at H
          have c13b0 : decide (x8_4 < t167) = true := decide_eq_true c13
          clear c13
          (first | rw [c13b0] | (simp only [i64_w, i32_w]; rw [c13b0]) | skip)
          have H' := Aside0.mk H
          clear H
          go_wp2
          repeat (go_quiet (fail); try go_wp2)
          go_meet
          case rel => exact ⟨_, (true), (by first | rfl | (simp; done) | (simp [*]; done)), H', ⟨by have := HJ4.out; first | omega | exact Nat.le_refl _⟩, ⟨by (with_reducible repeat (first | refine blk_drewN ?_ _ | refine blk_drew ?_ | refine blk_alloc ?_ _)); exact BK164.out⟩, ⟨by repeat (first | (with_reducible first | exact HB.out | apply below_alloc | apply pw_below_drewN | apply below_drew1 | refine below_set ?_ GE164.out) | exact HB.out)⟩⟩
        · rw [if_neg c13] at H
          have c13b0 : decide (x8_4 < t167) = false := decide_eq_false c13
          clear c13
          (first | rw [c13b0] | (simp only [i64_w, i32_w]; rw [c13b0]) | skip)
          by_cases c14 : t167 = x8_4
          · rw [if_pos c14] at H
            have c14b0 : (t167 == x8_4) = true := beq_iff_eq.mpr c14
            have c14b1 : (t167 != x8_4) = false := bne_eq_false_iff_eq.mpr c14
            clear c14
            have H' := Aside0.mk H
            clear H
            go_wp2
            repeat (go_quiet (fail); try go_wp2)
            go_meet
            case rel => exact ⟨_, (decide (t168 ≥ x9_4)), (by first | rfl | (simp; done) | (simp [*]; done)), H', ⟨by have := HJ4.out; first | omega | exact Nat.le_refl _⟩, ⟨by (with_reducible repeat (first | refine blk_drewN ?_ _ | refine blk_drew ?_ | refine blk_alloc ?_ _)); exact BK164.out⟩, ⟨by repeat (first | (with_reducible first | exact HB.out | apply below_alloc | apply pw_below_drewN | apply below_drew1 | refine below_set ?_ GE164.out) | exact HB.out)⟩⟩
          · rw [if_neg c14] at H
            have c14b0 : (t167 == x8_4) = false := beq_eq_false_iff_ne.mpr c14
            have c14b1 : (t167 != x8_4) = true := bne_iff_ne.mpr c14
            have H' := Aside0.mk H
            clear H
            go_wp2
            repeat (go_quiet (fail); try go_wp2)
            go_meet
            case rel => exact ⟨_, (false), (by first | rfl | (simp; done) | (simp [*]; done)), H', ⟨by have := HJ4.out; first | omega | exact Nat.le_refl _⟩, ⟨by (with_reducible repeat (first | refine blk_drewN ?_ _ | refine blk_drew ?_ | refine blk_alloc ?_ _)); exact BK164.out⟩, ⟨by repeat (first | (with_reducible first | exact HB.out | apply below_alloc | apply pw_below_drewN | apply below_drew1 | refine below_set ?_ GE164.out) | exact HB.out)⟩⟩
      case rest =>
        clear HC11
        try clear c1
        try clear p2
        try clear c4
        try clear c8
        try clear c8b0
        try clear c8b1
        try clear c13
        try clear c13b0
        try clear c14
        try clear c14b0
        try clear c14b1
        try clear hcz12_0
        try clear hcz12_1
        try clear hcz7_0
        try clear hcz7_1
        try clear hcz9_0
        try clear hcz9_1
        try clear hfz12_0
        try clear hfz12_1
        try clear hfz7_0
        try clear hfz7_1
        try clear hfz9_0
        try clear hfz9_1
        try clear p2
        obtain ⟨kq, x44_10, rfl, HA, HJ10, BK164, HB⟩ := hcut
        cases kq with
        | zero => exact absurd HA.out (by simp [telemeterref11_counts.j1])
        | succ kj10 =>
          have H := HA.out
          clear HA
          simp only [telemeterref11_counts.j1] at H
          by_cases c15 : x44_10 = true
          · subst c15
            have H1 : (some (a0, 1)) = some (r1, r2) := by rw [if_pos rfl] at H; exact H
            clear H
            have H := H1
            clear H1
            simp only [Option.some.injEq, Prod.mk.injEq] at H
            obtain ⟨rfl, rfl⟩ := H
            go_wp2
            repeat (go_quiet (fail); try go_wp2)
            go_ret2
            exact ⟨by first | rfl | (simp [errW_none, errW_some] <;> rfl) | (simp [*, errW_none, errW_some] <;> rfl), by repeat (first | (with_reducible first | exact HB.out | apply below_alloc | apply pw_below_drewN | apply below_drew1 | refine below_set ?_ GE164.out) | exact HB.out)⟩
          · replace c15 := Bool.eq_false_iff.mpr c15
            subst c15
            have H1 : (if a1_1 = 18446744073709551615 then (some (a1_0, 1)) else ((telemeterref11_rest.f kj10 x8_4 x9_4 (IntKind.u64.wrap (a1_1 + 1))).bind fun t169 => ((telemeterref11_gcd.f kj10 (IntKind.u64.wrap (a1_1 + 1)) t169).bind fun t170 => ((telemeterref11_over.f kj10 x8_4 x9_4 t170).bind fun t171 => (if t170 = 0 then (none) else (some (t171, IntKind.u64.wrap (Int.tdiv (IntKind.u64.wrap (a1_1 + 1)) t170)))))))) = some (r1, r2) := by rw [if_neg (show ¬ (false = true) by decide)] at H; exact H
            clear H
            have H := H1
            clear H1
            by_cases c16 : a1_1 = 18446744073709551615
            · rw [if_pos c16] at H
              have c16b0 : (a1_1 == 18446744073709551615) = true := beq_iff_eq.mpr c16
              have c16b1 : (a1_1 != 18446744073709551615) = false := bne_eq_false_iff_eq.mpr c16
              clear c16
              simp only [Option.some.injEq, Prod.mk.injEq] at H
              obtain ⟨rfl, rfl⟩ := H
              have hcz17_0 : wc.cell? ⟨gb164, 0, none⟩ = some (.int .u64 a1_0) := (blk_cell BK164.out 0).trans rfl
              have hcz17_1 : wc.cell? ⟨gb164, 1, none⟩ = some (.int .u64 a1_1) := (blk_cell BK164.out 1).trans rfl
              have hfz17_0 := blk_frozen BK164.out 0
              have hfz17_1 := blk_frozen BK164.out 1
              go_wp2
              repeat (go_quiet (fail); try go_wp2)
              go_ret2
              exact ⟨by first | rfl | (simp [errW_none, errW_some] <;> rfl) | (simp [*, errW_none, errW_some] <;> rfl), by repeat (first | (with_reducible first | exact HB.out | apply below_alloc | apply pw_below_drewN | apply below_drew1 | refine below_set ?_ GE164.out) | exact HB.out)⟩
            · rw [if_neg c16] at H
              have c16b0 : (a1_1 == 18446744073709551615) = false := beq_eq_false_iff_ne.mpr c16
              have c16b1 : (a1_1 != 18446744073709551615) = true := bne_iff_ne.mpr c16
              replace H := Option.bind_eq_some_iff.mp H
              obtain ⟨t169, A180, H⟩ := H
              replace H : ((telemeterref11_gcd.f kj10 (IntKind.u64.wrap (a1_1 + 1)) t169).bind fun t170 => ((telemeterref11_over.f kj10 x8_4 x9_4 t170).bind fun t171 => (if t170 = 0 then (none) else (some (t171, IntKind.u64.wrap (Int.tdiv (IntKind.u64.wrap (a1_1 + 1)) t170)))))) = some (r1, r2) := H
              have A18 := Aside0.mk A180
              clear A180
              replace H := Option.bind_eq_some_iff.mp H
              obtain ⟨t170, A190, H⟩ := H
              replace H : ((telemeterref11_over.f kj10 x8_4 x9_4 t170).bind fun t171 => (if t170 = 0 then (none) else (some (t171, IntKind.u64.wrap (Int.tdiv (IntKind.u64.wrap (a1_1 + 1)) t170))))) = some (r1, r2) := H
              have A19 := Aside0.mk A190
              clear A190
              replace H := Option.bind_eq_some_iff.mp H
              obtain ⟨t171, A200, H⟩ := H
              replace H : (if t170 = 0 then (none) else (some (t171, IntKind.u64.wrap (Int.tdiv (IntKind.u64.wrap (a1_1 + 1)) t170)))) = some (r1, r2) := H
              have A20 := Aside0.mk A200
              clear A200
              by_cases c21 : t170 = 0
              · rw [if_pos c21] at H
                exact absurd H (by simp)
              · rw [if_neg c21] at H
                have c21b0 : (t170 == 0) = false := beq_eq_false_iff_ne.mpr c21
                have c21b1 : (t170 != 0) = true := bne_iff_ne.mpr c21
                simp only [Option.some.injEq, Prod.mk.injEq] at H
                obtain ⟨rfl, rfl⟩ := H
                have hcz22_0 : wc.cell? ⟨gb164, 0, none⟩ = some (.int .u64 a1_0) := (blk_cell BK164.out 0).trans rfl
                have hcz22_1 : wc.cell? ⟨gb164, 1, none⟩ = some (.int .u64 a1_1) := (blk_cell BK164.out 1).trans rfl
                have hfz22_0 := blk_frozen BK164.out 0
                have hfz22_1 := blk_frozen BK164.out 1
                go_wp2_with (first | (go_at_call 56; (with_reducible refine (telemeterref11_rest.calls kj10 x8_4 x9_4 (IntKind.u64.wrap (a1_1 + 1)) t169 _ A18.out).mono ?_); rintro e w' ⟨rfl, ⟨nd, rfl⟩⟩; (try first | exact ⟨rfl, _, World.drewN_drewN _ _ _⟩ | exact ⟨rfl, _, Eq.trans (World.drewN_drewN _ _ _) (congrArg (World.drewN _) (Nat.add_assoc _ _ _))⟩)) | (go_at_call 55; (with_reducible refine (telemeterref11_gcd.calls kj10 (IntKind.u64.wrap (a1_1 + 1)) t169 t170 _ A19.out).mono ?_); rintro e w' ⟨rfl, ⟨nd, rfl⟩⟩; (try first | exact ⟨rfl, _, World.drewN_drewN _ _ _⟩ | exact ⟨rfl, _, Eq.trans (World.drewN_drewN _ _ _) (congrArg (World.drewN _) (Nat.add_assoc _ _ _))⟩)) | (go_at_call 57; (with_reducible refine (telemeterref11_over.calls kj10 x8_4 x9_4 t170 t171 _ A20.out).mono ?_); rintro e w' ⟨rfl, ⟨nd, rfl⟩⟩; (try first | exact ⟨rfl, _, World.drewN_drewN _ _ _⟩ | exact ⟨rfl, _, Eq.trans (World.drewN_drewN _ _ _) (congrArg (World.drewN _) (Nat.add_assoc _ _ _))⟩)))
                repeat (go_quiet (first | (go_at_call 56; (with_reducible refine (telemeterref11_rest.calls kj10 x8_4 x9_4 (IntKind.u64.wrap (a1_1 + 1)) t169 _ A18.out).mono ?_); rintro e w' ⟨rfl, ⟨nd, rfl⟩⟩; (try first | exact ⟨rfl, _, World.drewN_drewN _ _ _⟩ | exact ⟨rfl, _, Eq.trans (World.drewN_drewN _ _ _) (congrArg (World.drewN _) (Nat.add_assoc _ _ _))⟩)) | (go_at_call 55; (with_reducible refine (telemeterref11_gcd.calls kj10 (IntKind.u64.wrap (a1_1 + 1)) t169 t170 _ A19.out).mono ?_); rintro e w' ⟨rfl, ⟨nd, rfl⟩⟩; (try first | exact ⟨rfl, _, World.drewN_drewN _ _ _⟩ | exact ⟨rfl, _, Eq.trans (World.drewN_drewN _ _ _) (congrArg (World.drewN _) (Nat.add_assoc _ _ _))⟩)) | (go_at_call 57; (with_reducible refine (telemeterref11_over.calls kj10 x8_4 x9_4 t170 t171 _ A20.out).mono ?_); rintro e w' ⟨rfl, ⟨nd, rfl⟩⟩; (try first | exact ⟨rfl, _, World.drewN_drewN _ _ _⟩ | exact ⟨rfl, _, Eq.trans (World.drewN_drewN _ _ _) (congrArg (World.drewN _) (Nat.add_assoc _ _ _))⟩))); try go_wp2_with (first | (go_at_call 56; (with_reducible refine (telemeterref11_rest.calls kj10 x8_4 x9_4 (IntKind.u64.wrap (a1_1 + 1)) t169 _ A18.out).mono ?_); rintro e w' ⟨rfl, ⟨nd, rfl⟩⟩; (try first | exact ⟨rfl, _, World.drewN_drewN _ _ _⟩ | exact ⟨rfl, _, Eq.trans (World.drewN_drewN _ _ _) (congrArg (World.drewN _) (Nat.add_assoc _ _ _))⟩)) | (go_at_call 55; (with_reducible refine (telemeterref11_gcd.calls kj10 (IntKind.u64.wrap (a1_1 + 1)) t169 t170 _ A19.out).mono ?_); rintro e w' ⟨rfl, ⟨nd, rfl⟩⟩; (try first | exact ⟨rfl, _, World.drewN_drewN _ _ _⟩ | exact ⟨rfl, _, Eq.trans (World.drewN_drewN _ _ _) (congrArg (World.drewN _) (Nat.add_assoc _ _ _))⟩)) | (go_at_call 57; (with_reducible refine (telemeterref11_over.calls kj10 x8_4 x9_4 t170 t171 _ A20.out).mono ?_); rintro e w' ⟨rfl, ⟨nd, rfl⟩⟩; (try first | exact ⟨rfl, _, World.drewN_drewN _ _ _⟩ | exact ⟨rfl, _, Eq.trans (World.drewN_drewN _ _ _) (congrArg (World.drewN _) (Nat.add_assoc _ _ _))⟩))))
                go_ret2
                exact ⟨by first | rfl | (simp [errW_none, errW_some] <;> rfl) | (simp [*, errW_none, errW_some] <;> rfl), by repeat (first | (with_reducible first | exact HB.out | apply below_alloc | apply pw_below_drewN | apply below_drew1 | refine below_set ?_ GE164.out) | exact HB.out)⟩

end Go.Proofs.Ythlmgamdnclmhaa.R
