/-
  RollbackSaves: the walk over the runs (printed by a program).
-/
import Derived.Test.YtnofmmceafkkoaaGreatRsR0
import Derived.Test.YtnofmmceafkkoaaGreatRsR1
import Derived.Test.YtnofmmceafkkoaaGreatRsR2
import Derived.Test.YtnofmmceafkkoaaGreatRsR3
import Derived.Test.YtnofmmceafkkoaaGreatRsR4
import Derived.Test.YtnofmmceafkkoaaGreatRsR5
import Derived.Test.YtnofmmceafkkoaaGreatRsR6
import Derived.Test.YtnofmmceafkkoaaGreatRsR7
import Derived.Test.YtnofmmceafkkoaaGreatRsR8
import Derived.Test.YtnofmmceafkkoaaGreatRsR9
import Derived.Test.YtnofmmceafkkoaaGreatRsP
set_option linter.unusedVariables false
set_option linter.unusedSimpArgs false
set_option maxRecDepth 100000
namespace Go.Proofs.YtnofmmceafkkoaaGreat
open Go.RowKit
theorem six {p : Nat → Bool} (a : (p 0 && p (0 + 1)) = true) (b : (p 2 && p (2 + 1)) = true) (c : (p 4 && p (4 + 1)) = true) : ∀ s, s < 6 → p s = true
  | 0, _ => (Bool.and_eq_true_iff.1 a).1
  | 1, _ => (Bool.and_eq_true_iff.1 a).2
  | 2, _ => (Bool.and_eq_true_iff.1 b).1
  | 3, _ => (Bool.and_eq_true_iff.1 b).2
  | 4, _ => (Bool.and_eq_true_iff.1 c).1
  | 5, _ => (Bool.and_eq_true_iff.1 c).2
  | s + 6, h => absurd h (by omega)
theorem four {p : Nat → Bool} (a : p 0 = true) (b : p 1 = true) (c : p 2 = true) (d : p 3 = true) : ∀ s, s < 4 → p s = true
  | 0, _ => a
  | 1, _ => b
  | 2, _ => c
  | 3, _ => d
  | s + 4, h => absurd h (by omega)
theorem pick {p : Nat → Bool} {k : Nat} (l : List (PSigma fun s => p s = true)) (h : (List.range 6).all (fun s => !Nat.testBit k s || l.any fun x => decide (x.1 = s)) = true) : ∀ s, s < 6 → Nat.testBit k s = true → p s = true := by
  intro s hs hb
  have h1 := List.all_eq_true.1 h s (List.mem_range.2 hs)
  rw [hb, Bool.not_true, Bool.false_or] at h1
  obtain ⟨⟨s', hp⟩, _, e⟩ := List.any_eq_true.1 h1
  have e := of_decide_eq_true e
  dsimp only at e
  rw [← e]; exact hp
theorem RU1 : ∀ k, k < 16 → ∀ s, s < 4 → run1 k s = true
  | 0, _ => four ru1_0_0 ru1_0_1 ru1_0_2 ru1_0_3
  | 1, _ => four ru1_1_0 ru1_1_1 ru1_1_2 ru1_1_3
  | 2, _ => four ru1_2_0 ru1_2_1 ru1_2_2 ru1_2_3
  | 3, _ => four ru1_3_0 ru1_3_1 ru1_3_2 ru1_3_3
  | 4, _ => four ru1_4_0 ru1_4_1 ru1_4_2 ru1_4_3
  | 5, _ => four ru1_5_0 ru1_5_1 ru1_5_2 ru1_5_3
  | 6, _ => four ru1_6_0 ru1_6_1 ru1_6_2 ru1_6_3
  | 7, _ => four ru1_7_0 ru1_7_1 ru1_7_2 ru1_7_3
  | 8, _ => four ru1_8_0 ru1_8_1 ru1_8_2 ru1_8_3
  | 9, _ => four ru1_9_0 ru1_9_1 ru1_9_2 ru1_9_3
  | 10, _ => four ru1_10_0 ru1_10_1 ru1_10_2 ru1_10_3
  | 11, _ => four ru1_11_0 ru1_11_1 ru1_11_2 ru1_11_3
  | 12, _ => four ru1_12_0 ru1_12_1 ru1_12_2 ru1_12_3
  | 13, _ => four ru1_13_0 ru1_13_1 ru1_13_2 ru1_13_3
  | 14, _ => four ru1_14_0 ru1_14_1 ru1_14_2 ru1_14_3
  | 15, _ => four ru1_15_0 ru1_15_1 ru1_15_2 ru1_15_3
  | k + 16, h => absurd h (by omega)
theorem RU1x : ∀ k, k < 16 → (run1x k && run1r k) = true
  | 0, _ => ru1x_0
  | 1, _ => ru1x_1
  | 2, _ => ru1x_2
  | 3, _ => ru1x_3
  | 4, _ => ru1x_4
  | 5, _ => ru1x_5
  | 6, _ => ru1x_6
  | 7, _ => ru1x_7
  | 8, _ => ru1x_8
  | 9, _ => ru1x_9
  | 10, _ => ru1x_10
  | 11, _ => ru1x_11
  | 12, _ => ru1x_12
  | 13, _ => ru1x_13
  | 14, _ => ru1x_14
  | 15, _ => ru1x_15
  | k + 16, h => absurd h (by omega)
theorem RU2 : ∀ k, k < 16 → run2 k = true
  | 0, _ => ru2_0
  | 1, _ => ru2_1
  | 2, _ => ru2_2
  | 3, _ => ru2_3
  | 4, _ => ru2_4
  | 5, _ => ru2_5
  | 6, _ => ru2_6
  | 7, _ => ru2_7
  | 8, _ => ru2_8
  | 9, _ => ru2_9
  | 10, _ => ru2_10
  | 11, _ => ru2_11
  | 12, _ => ru2_12
  | 13, _ => ru2_13
  | 14, _ => ru2_14
  | 15, _ => ru2_15
  | k + 16, h => absurd h (by omega)
theorem RU3 : ∀ k, k < 64 → ∀ s, s < 6 → run3 k s = true
  | 0, _ => six ru3_0_0 ru3_0_2 ru3_0_4
  | 1, _ => six ru3_1_0 ru3_1_2 ru3_1_4
  | 2, _ => six ru3_2_0 ru3_2_2 ru3_2_4
  | 3, _ => six ru3_3_0 ru3_3_2 ru3_3_4
  | 4, _ => six ru3_4_0 ru3_4_2 ru3_4_4
  | 5, _ => six ru3_5_0 ru3_5_2 ru3_5_4
  | 6, _ => six ru3_6_0 ru3_6_2 ru3_6_4
  | 7, _ => six ru3_7_0 ru3_7_2 ru3_7_4
  | 8, _ => six ru3_8_0 ru3_8_2 ru3_8_4
  | 9, _ => six ru3_9_0 ru3_9_2 ru3_9_4
  | 10, _ => six ru3_10_0 ru3_10_2 ru3_10_4
  | 11, _ => six ru3_11_0 ru3_11_2 ru3_11_4
  | 12, _ => six ru3_12_0 ru3_12_2 ru3_12_4
  | 13, _ => six ru3_13_0 ru3_13_2 ru3_13_4
  | 14, _ => six ru3_14_0 ru3_14_2 ru3_14_4
  | 15, _ => six ru3_15_0 ru3_15_2 ru3_15_4
  | 16, _ => six ru3_16_0 ru3_16_2 ru3_16_4
  | 17, _ => six ru3_17_0 ru3_17_2 ru3_17_4
  | 18, _ => six ru3_18_0 ru3_18_2 ru3_18_4
  | 19, _ => six ru3_19_0 ru3_19_2 ru3_19_4
  | 20, _ => six ru3_20_0 ru3_20_2 ru3_20_4
  | 21, _ => six ru3_21_0 ru3_21_2 ru3_21_4
  | 22, _ => six ru3_22_0 ru3_22_2 ru3_22_4
  | 23, _ => six ru3_23_0 ru3_23_2 ru3_23_4
  | 24, _ => six ru3_24_0 ru3_24_2 ru3_24_4
  | 25, _ => six ru3_25_0 ru3_25_2 ru3_25_4
  | 26, _ => six ru3_26_0 ru3_26_2 ru3_26_4
  | 27, _ => six ru3_27_0 ru3_27_2 ru3_27_4
  | 28, _ => six ru3_28_0 ru3_28_2 ru3_28_4
  | 29, _ => six ru3_29_0 ru3_29_2 ru3_29_4
  | 30, _ => six ru3_30_0 ru3_30_2 ru3_30_4
  | 31, _ => six ru3_31_0 ru3_31_2 ru3_31_4
  | 32, _ => six ru3_32_0 ru3_32_2 ru3_32_4
  | 33, _ => six ru3_33_0 ru3_33_2 ru3_33_4
  | 34, _ => six ru3_34_0 ru3_34_2 ru3_34_4
  | 35, _ => six ru3_35_0 ru3_35_2 ru3_35_4
  | 36, _ => six ru3_36_0 ru3_36_2 ru3_36_4
  | 37, _ => six ru3_37_0 ru3_37_2 ru3_37_4
  | 38, _ => six ru3_38_0 ru3_38_2 ru3_38_4
  | 39, _ => six ru3_39_0 ru3_39_2 ru3_39_4
  | 40, _ => six ru3_40_0 ru3_40_2 ru3_40_4
  | 41, _ => six ru3_41_0 ru3_41_2 ru3_41_4
  | 42, _ => six ru3_42_0 ru3_42_2 ru3_42_4
  | 43, _ => six ru3_43_0 ru3_43_2 ru3_43_4
  | 44, _ => six ru3_44_0 ru3_44_2 ru3_44_4
  | 45, _ => six ru3_45_0 ru3_45_2 ru3_45_4
  | 46, _ => six ru3_46_0 ru3_46_2 ru3_46_4
  | 47, _ => six ru3_47_0 ru3_47_2 ru3_47_4
  | 48, _ => six ru3_48_0 ru3_48_2 ru3_48_4
  | 49, _ => six ru3_49_0 ru3_49_2 ru3_49_4
  | 50, _ => six ru3_50_0 ru3_50_2 ru3_50_4
  | 51, _ => six ru3_51_0 ru3_51_2 ru3_51_4
  | 52, _ => six ru3_52_0 ru3_52_2 ru3_52_4
  | 53, _ => six ru3_53_0 ru3_53_2 ru3_53_4
  | 54, _ => six ru3_54_0 ru3_54_2 ru3_54_4
  | 55, _ => six ru3_55_0 ru3_55_2 ru3_55_4
  | 56, _ => six ru3_56_0 ru3_56_2 ru3_56_4
  | 57, _ => six ru3_57_0 ru3_57_2 ru3_57_4
  | 58, _ => six ru3_58_0 ru3_58_2 ru3_58_4
  | 59, _ => six ru3_59_0 ru3_59_2 ru3_59_4
  | 60, _ => six ru3_60_0 ru3_60_2 ru3_60_4
  | 61, _ => six ru3_61_0 ru3_61_2 ru3_61_4
  | 62, _ => six ru3_62_0 ru3_62_2 ru3_62_4
  | 63, _ => six ru3_63_0 ru3_63_2 ru3_63_4
  | k + 64, h => absurd h (by omega)
theorem RU3x : ∀ k, k < 64 → (run3x k && run5x k) = true
  | 0, _ => ru3x_0
  | 1, _ => ru3x_1
  | 2, _ => ru3x_2
  | 3, _ => ru3x_3
  | 4, _ => ru3x_4
  | 5, _ => ru3x_5
  | 6, _ => ru3x_6
  | 7, _ => ru3x_7
  | 8, _ => ru3x_8
  | 9, _ => ru3x_9
  | 10, _ => ru3x_10
  | 11, _ => ru3x_11
  | 12, _ => ru3x_12
  | 13, _ => ru3x_13
  | 14, _ => ru3x_14
  | 15, _ => ru3x_15
  | 16, _ => ru3x_16
  | 17, _ => ru3x_17
  | 18, _ => ru3x_18
  | 19, _ => ru3x_19
  | 20, _ => ru3x_20
  | 21, _ => ru3x_21
  | 22, _ => ru3x_22
  | 23, _ => ru3x_23
  | 24, _ => ru3x_24
  | 25, _ => ru3x_25
  | 26, _ => ru3x_26
  | 27, _ => ru3x_27
  | 28, _ => ru3x_28
  | 29, _ => ru3x_29
  | 30, _ => ru3x_30
  | 31, _ => ru3x_31
  | 32, _ => ru3x_32
  | 33, _ => ru3x_33
  | 34, _ => ru3x_34
  | 35, _ => ru3x_35
  | 36, _ => ru3x_36
  | 37, _ => ru3x_37
  | 38, _ => ru3x_38
  | 39, _ => ru3x_39
  | 40, _ => ru3x_40
  | 41, _ => ru3x_41
  | 42, _ => ru3x_42
  | 43, _ => ru3x_43
  | 44, _ => ru3x_44
  | 45, _ => ru3x_45
  | 46, _ => ru3x_46
  | 47, _ => ru3x_47
  | 48, _ => ru3x_48
  | 49, _ => ru3x_49
  | 50, _ => ru3x_50
  | 51, _ => ru3x_51
  | 52, _ => ru3x_52
  | 53, _ => ru3x_53
  | 54, _ => ru3x_54
  | 55, _ => ru3x_55
  | 56, _ => ru3x_56
  | 57, _ => ru3x_57
  | 58, _ => ru3x_58
  | 59, _ => ru3x_59
  | 60, _ => ru3x_60
  | 61, _ => ru3x_61
  | 62, _ => ru3x_62
  | 63, _ => ru3x_63
  | k + 64, h => absurd h (by omega)
theorem RU4 : ∀ k, k < 64 → k ≠ 0 → (run4E1 k && (run4H0 k && run4H1 k)) = true
  | 0, _ => fun h => absurd rfl h
  | 1, _ => fun _ => ru4_1
  | 2, _ => fun _ => ru4_2
  | 3, _ => fun _ => ru4_3
  | 4, _ => fun _ => ru4_4
  | 5, _ => fun _ => ru4_5
  | 6, _ => fun _ => ru4_6
  | 7, _ => fun _ => ru4_7
  | 8, _ => fun _ => ru4_8
  | 9, _ => fun _ => ru4_9
  | 10, _ => fun _ => ru4_10
  | 11, _ => fun _ => ru4_11
  | 12, _ => fun _ => ru4_12
  | 13, _ => fun _ => ru4_13
  | 14, _ => fun _ => ru4_14
  | 15, _ => fun _ => ru4_15
  | 16, _ => fun _ => ru4_16
  | 17, _ => fun _ => ru4_17
  | 18, _ => fun _ => ru4_18
  | 19, _ => fun _ => ru4_19
  | 20, _ => fun _ => ru4_20
  | 21, _ => fun _ => ru4_21
  | 22, _ => fun _ => ru4_22
  | 23, _ => fun _ => ru4_23
  | 24, _ => fun _ => ru4_24
  | 25, _ => fun _ => ru4_25
  | 26, _ => fun _ => ru4_26
  | 27, _ => fun _ => ru4_27
  | 28, _ => fun _ => ru4_28
  | 29, _ => fun _ => ru4_29
  | 30, _ => fun _ => ru4_30
  | 31, _ => fun _ => ru4_31
  | 32, _ => fun _ => ru4_32
  | 33, _ => fun _ => ru4_33
  | 34, _ => fun _ => ru4_34
  | 35, _ => fun _ => ru4_35
  | 36, _ => fun _ => ru4_36
  | 37, _ => fun _ => ru4_37
  | 38, _ => fun _ => ru4_38
  | 39, _ => fun _ => ru4_39
  | 40, _ => fun _ => ru4_40
  | 41, _ => fun _ => ru4_41
  | 42, _ => fun _ => ru4_42
  | 43, _ => fun _ => ru4_43
  | 44, _ => fun _ => ru4_44
  | 45, _ => fun _ => ru4_45
  | 46, _ => fun _ => ru4_46
  | 47, _ => fun _ => ru4_47
  | 48, _ => fun _ => ru4_48
  | 49, _ => fun _ => ru4_49
  | 50, _ => fun _ => ru4_50
  | 51, _ => fun _ => ru4_51
  | 52, _ => fun _ => ru4_52
  | 53, _ => fun _ => ru4_53
  | 54, _ => fun _ => ru4_54
  | 55, _ => fun _ => ru4_55
  | 56, _ => fun _ => ru4_56
  | 57, _ => fun _ => ru4_57
  | 58, _ => fun _ => ru4_58
  | 59, _ => fun _ => ru4_59
  | 60, _ => fun _ => ru4_60
  | 61, _ => fun _ => ru4_61
  | 62, _ => fun _ => ru4_62
  | 63, _ => fun _ => ru4_63
  | k + 64, h => absurd h (by omega)
theorem RU5 : ∀ k, k < 64 → ∀ s, s < 6 → Nat.testBit k s = true → run5 k s = true
  | 0, _ => pick [] rfl
  | 1, _ => pick [⟨0, ru5_1_0⟩] rfl
  | 2, _ => pick [⟨1, ru5_2_1⟩] rfl
  | 3, _ => pick [⟨0, ru5_3_0⟩, ⟨1, ru5_3_1⟩] rfl
  | 4, _ => pick [⟨2, ru5_4_2⟩] rfl
  | 5, _ => pick [⟨0, ru5_5_0⟩, ⟨2, ru5_5_2⟩] rfl
  | 6, _ => pick [⟨1, ru5_6_1⟩, ⟨2, ru5_6_2⟩] rfl
  | 7, _ => pick [⟨0, ru5_7_0⟩, ⟨1, ru5_7_1⟩, ⟨2, ru5_7_2⟩] rfl
  | 8, _ => pick [⟨3, ru5_8_3⟩] rfl
  | 9, _ => pick [⟨0, ru5_9_0⟩, ⟨3, ru5_9_3⟩] rfl
  | 10, _ => pick [⟨1, ru5_10_1⟩, ⟨3, ru5_10_3⟩] rfl
  | 11, _ => pick [⟨0, ru5_11_0⟩, ⟨1, ru5_11_1⟩, ⟨3, ru5_11_3⟩] rfl
  | 12, _ => pick [⟨2, ru5_12_2⟩, ⟨3, ru5_12_3⟩] rfl
  | 13, _ => pick [⟨0, ru5_13_0⟩, ⟨2, ru5_13_2⟩, ⟨3, ru5_13_3⟩] rfl
  | 14, _ => pick [⟨1, ru5_14_1⟩, ⟨2, ru5_14_2⟩, ⟨3, ru5_14_3⟩] rfl
  | 15, _ => pick [⟨0, ru5_15_0⟩, ⟨1, ru5_15_1⟩, ⟨2, ru5_15_2⟩, ⟨3, ru5_15_3⟩] rfl
  | 16, _ => pick [⟨4, ru5_16_4⟩] rfl
  | 17, _ => pick [⟨0, ru5_17_0⟩, ⟨4, ru5_17_4⟩] rfl
  | 18, _ => pick [⟨1, ru5_18_1⟩, ⟨4, ru5_18_4⟩] rfl
  | 19, _ => pick [⟨0, ru5_19_0⟩, ⟨1, ru5_19_1⟩, ⟨4, ru5_19_4⟩] rfl
  | 20, _ => pick [⟨2, ru5_20_2⟩, ⟨4, ru5_20_4⟩] rfl
  | 21, _ => pick [⟨0, ru5_21_0⟩, ⟨2, ru5_21_2⟩, ⟨4, ru5_21_4⟩] rfl
  | 22, _ => pick [⟨1, ru5_22_1⟩, ⟨2, ru5_22_2⟩, ⟨4, ru5_22_4⟩] rfl
  | 23, _ => pick [⟨0, ru5_23_0⟩, ⟨1, ru5_23_1⟩, ⟨2, ru5_23_2⟩, ⟨4, ru5_23_4⟩] rfl
  | 24, _ => pick [⟨3, ru5_24_3⟩, ⟨4, ru5_24_4⟩] rfl
  | 25, _ => pick [⟨0, ru5_25_0⟩, ⟨3, ru5_25_3⟩, ⟨4, ru5_25_4⟩] rfl
  | 26, _ => pick [⟨1, ru5_26_1⟩, ⟨3, ru5_26_3⟩, ⟨4, ru5_26_4⟩] rfl
  | 27, _ => pick [⟨0, ru5_27_0⟩, ⟨1, ru5_27_1⟩, ⟨3, ru5_27_3⟩, ⟨4, ru5_27_4⟩] rfl
  | 28, _ => pick [⟨2, ru5_28_2⟩, ⟨3, ru5_28_3⟩, ⟨4, ru5_28_4⟩] rfl
  | 29, _ => pick [⟨0, ru5_29_0⟩, ⟨2, ru5_29_2⟩, ⟨3, ru5_29_3⟩, ⟨4, ru5_29_4⟩] rfl
  | 30, _ => pick [⟨1, ru5_30_1⟩, ⟨2, ru5_30_2⟩, ⟨3, ru5_30_3⟩, ⟨4, ru5_30_4⟩] rfl
  | 31, _ => pick [⟨0, ru5_31_0⟩, ⟨1, ru5_31_1⟩, ⟨2, ru5_31_2⟩, ⟨3, ru5_31_3⟩, ⟨4, ru5_31_4⟩] rfl
  | 32, _ => pick [⟨5, ru5_32_5⟩] rfl
  | 33, _ => pick [⟨0, ru5_33_0⟩, ⟨5, ru5_33_5⟩] rfl
  | 34, _ => pick [⟨1, ru5_34_1⟩, ⟨5, ru5_34_5⟩] rfl
  | 35, _ => pick [⟨0, ru5_35_0⟩, ⟨1, ru5_35_1⟩, ⟨5, ru5_35_5⟩] rfl
  | 36, _ => pick [⟨2, ru5_36_2⟩, ⟨5, ru5_36_5⟩] rfl
  | 37, _ => pick [⟨0, ru5_37_0⟩, ⟨2, ru5_37_2⟩, ⟨5, ru5_37_5⟩] rfl
  | 38, _ => pick [⟨1, ru5_38_1⟩, ⟨2, ru5_38_2⟩, ⟨5, ru5_38_5⟩] rfl
  | 39, _ => pick [⟨0, ru5_39_0⟩, ⟨1, ru5_39_1⟩, ⟨2, ru5_39_2⟩, ⟨5, ru5_39_5⟩] rfl
  | 40, _ => pick [⟨3, ru5_40_3⟩, ⟨5, ru5_40_5⟩] rfl
  | 41, _ => pick [⟨0, ru5_41_0⟩, ⟨3, ru5_41_3⟩, ⟨5, ru5_41_5⟩] rfl
  | 42, _ => pick [⟨1, ru5_42_1⟩, ⟨3, ru5_42_3⟩, ⟨5, ru5_42_5⟩] rfl
  | 43, _ => pick [⟨0, ru5_43_0⟩, ⟨1, ru5_43_1⟩, ⟨3, ru5_43_3⟩, ⟨5, ru5_43_5⟩] rfl
  | 44, _ => pick [⟨2, ru5_44_2⟩, ⟨3, ru5_44_3⟩, ⟨5, ru5_44_5⟩] rfl
  | 45, _ => pick [⟨0, ru5_45_0⟩, ⟨2, ru5_45_2⟩, ⟨3, ru5_45_3⟩, ⟨5, ru5_45_5⟩] rfl
  | 46, _ => pick [⟨1, ru5_46_1⟩, ⟨2, ru5_46_2⟩, ⟨3, ru5_46_3⟩, ⟨5, ru5_46_5⟩] rfl
  | 47, _ => pick [⟨0, ru5_47_0⟩, ⟨1, ru5_47_1⟩, ⟨2, ru5_47_2⟩, ⟨3, ru5_47_3⟩, ⟨5, ru5_47_5⟩] rfl
  | 48, _ => pick [⟨4, ru5_48_4⟩, ⟨5, ru5_48_5⟩] rfl
  | 49, _ => pick [⟨0, ru5_49_0⟩, ⟨4, ru5_49_4⟩, ⟨5, ru5_49_5⟩] rfl
  | 50, _ => pick [⟨1, ru5_50_1⟩, ⟨4, ru5_50_4⟩, ⟨5, ru5_50_5⟩] rfl
  | 51, _ => pick [⟨0, ru5_51_0⟩, ⟨1, ru5_51_1⟩, ⟨4, ru5_51_4⟩, ⟨5, ru5_51_5⟩] rfl
  | 52, _ => pick [⟨2, ru5_52_2⟩, ⟨4, ru5_52_4⟩, ⟨5, ru5_52_5⟩] rfl
  | 53, _ => pick [⟨0, ru5_53_0⟩, ⟨2, ru5_53_2⟩, ⟨4, ru5_53_4⟩, ⟨5, ru5_53_5⟩] rfl
  | 54, _ => pick [⟨1, ru5_54_1⟩, ⟨2, ru5_54_2⟩, ⟨4, ru5_54_4⟩, ⟨5, ru5_54_5⟩] rfl
  | 55, _ => pick [⟨0, ru5_55_0⟩, ⟨1, ru5_55_1⟩, ⟨2, ru5_55_2⟩, ⟨4, ru5_55_4⟩, ⟨5, ru5_55_5⟩] rfl
  | 56, _ => pick [⟨3, ru5_56_3⟩, ⟨4, ru5_56_4⟩, ⟨5, ru5_56_5⟩] rfl
  | 57, _ => pick [⟨0, ru5_57_0⟩, ⟨3, ru5_57_3⟩, ⟨4, ru5_57_4⟩, ⟨5, ru5_57_5⟩] rfl
  | 58, _ => pick [⟨1, ru5_58_1⟩, ⟨3, ru5_58_3⟩, ⟨4, ru5_58_4⟩, ⟨5, ru5_58_5⟩] rfl
  | 59, _ => pick [⟨0, ru5_59_0⟩, ⟨1, ru5_59_1⟩, ⟨3, ru5_59_3⟩, ⟨4, ru5_59_4⟩, ⟨5, ru5_59_5⟩] rfl
  | 60, _ => pick [⟨2, ru5_60_2⟩, ⟨3, ru5_60_3⟩, ⟨4, ru5_60_4⟩, ⟨5, ru5_60_5⟩] rfl
  | 61, _ => pick [⟨0, ru5_61_0⟩, ⟨2, ru5_61_2⟩, ⟨3, ru5_61_3⟩, ⟨4, ru5_61_4⟩, ⟨5, ru5_61_5⟩] rfl
  | 62, _ => pick [⟨1, ru5_62_1⟩, ⟨2, ru5_62_2⟩, ⟨3, ru5_62_3⟩, ⟨4, ru5_62_4⟩, ⟨5, ru5_62_5⟩] rfl
  | 63, _ => pick [⟨0, ru5_63_0⟩, ⟨1, ru5_63_1⟩, ⟨2, ru5_63_2⟩, ⟨3, ru5_63_3⟩, ⟨4, ru5_63_4⟩, ⟨5, ru5_63_5⟩] rfl
  | k + 64, h => absurd h (by omega)
theorem RU6 : ∀ k, k < 64 → k ≠ 0 → run6 k = true
  | 0, _ => fun h => absurd rfl h
  | 1, _ => fun _ => ru6_1
  | 2, _ => fun _ => ru6_2
  | 3, _ => fun _ => ru6_3
  | 4, _ => fun _ => ru6_4
  | 5, _ => fun _ => ru6_5
  | 6, _ => fun _ => ru6_6
  | 7, _ => fun _ => ru6_7
  | 8, _ => fun _ => ru6_8
  | 9, _ => fun _ => ru6_9
  | 10, _ => fun _ => ru6_10
  | 11, _ => fun _ => ru6_11
  | 12, _ => fun _ => ru6_12
  | 13, _ => fun _ => ru6_13
  | 14, _ => fun _ => ru6_14
  | 15, _ => fun _ => ru6_15
  | 16, _ => fun _ => ru6_16
  | 17, _ => fun _ => ru6_17
  | 18, _ => fun _ => ru6_18
  | 19, _ => fun _ => ru6_19
  | 20, _ => fun _ => ru6_20
  | 21, _ => fun _ => ru6_21
  | 22, _ => fun _ => ru6_22
  | 23, _ => fun _ => ru6_23
  | 24, _ => fun _ => ru6_24
  | 25, _ => fun _ => ru6_25
  | 26, _ => fun _ => ru6_26
  | 27, _ => fun _ => ru6_27
  | 28, _ => fun _ => ru6_28
  | 29, _ => fun _ => ru6_29
  | 30, _ => fun _ => ru6_30
  | 31, _ => fun _ => ru6_31
  | 32, _ => fun _ => ru6_32
  | 33, _ => fun _ => ru6_33
  | 34, _ => fun _ => ru6_34
  | 35, _ => fun _ => ru6_35
  | 36, _ => fun _ => ru6_36
  | 37, _ => fun _ => ru6_37
  | 38, _ => fun _ => ru6_38
  | 39, _ => fun _ => ru6_39
  | 40, _ => fun _ => ru6_40
  | 41, _ => fun _ => ru6_41
  | 42, _ => fun _ => ru6_42
  | 43, _ => fun _ => ru6_43
  | 44, _ => fun _ => ru6_44
  | 45, _ => fun _ => ru6_45
  | 46, _ => fun _ => ru6_46
  | 47, _ => fun _ => ru6_47
  | 48, _ => fun _ => ru6_48
  | 49, _ => fun _ => ru6_49
  | 50, _ => fun _ => ru6_50
  | 51, _ => fun _ => ru6_51
  | 52, _ => fun _ => ru6_52
  | 53, _ => fun _ => ru6_53
  | 54, _ => fun _ => ru6_54
  | 55, _ => fun _ => ru6_55
  | 56, _ => fun _ => ru6_56
  | 57, _ => fun _ => ru6_57
  | 58, _ => fun _ => ru6_58
  | 59, _ => fun _ => ru6_59
  | 60, _ => fun _ => ru6_60
  | 61, _ => fun _ => ru6_61
  | 62, _ => fun _ => ru6_62
  | 63, _ => fun _ => ru6_63
  | k + 64, h => absurd h (by omega)
section
variable {w0 : World} {N : Nat} {g : Nm → Value} {z : Nat → Option Obj} {b : Nat → MV} {k p n0 : Nat} {d50 d51 : List (List DV)} {w : Nat → Cel} {H : List Wr}
theorem fIn1_ok (h : I1 d50 d51 k b) (hl : d50.length ≤ 20) (hlt : (b 7).i < d50.length) : ∀ f ∈ fIn1, f.holds QR (vb b g z) := by
  have h0 := h.i0
  have hn := h.ln
  have hf : (((b 50).d.length : Nat) : Int) = d50.length := by rw [h.f]
  exact facts_cons ⟨(by show (0 : Int) ≤ (b 7).i; omega), (by show (b 7).i ≤ 20; omega)⟩ (facts_cons ⟨(by show (0 : Int) ≤ (b 8).i; omega), (by show (b 8).i ≤ 20; omega)⟩ (facts_cons ⟨(by show (0 : Int) ≤ (((b 50).d.length : Nat) : Int); omega), (by show (((b 50).d.length : Nat) : Int) ≤ 20; omega)⟩
    (facts_cons ⟨(by show (-20 : Int) ≤ (b 7).i - (b 8).i; omega), (by show (b 7).i - (b 8).i ≤ -1; omega)⟩ (facts_cons ⟨(by show (-20 : Int) ≤ (b 7).i - (((b 50).d.length : Nat) : Int); omega), (by show (b 7).i - (((b 50).d.length : Nat) : Int) ≤ -1; omega)⟩ facts_nil))))
theorem fOut1_ok (h : I1 d50 d51 k b) (hl : d50.length ≤ 20) (hge : ¬ (b 7).i < d50.length) : ∀ f ∈ fOut1, f.holds QR (vb b g z) := by
  have h0 := h.i0
  have h1 := h.i1
  have hn := h.ln
  have hf : (((b 50).d.length : Nat) : Int) = d50.length := by rw [h.f]
  exact facts_cons ⟨(by show (0 : Int) ≤ (b 7).i; omega), (by show (b 7).i ≤ 20; omega)⟩ (facts_cons ⟨(by show (0 : Int) ≤ (b 8).i; omega), (by show (b 8).i ≤ 20; omega)⟩ (facts_cons ⟨(by show (0 : Int) ≤ (((b 50).d.length : Nat) : Int); omega), (by show (((b 50).d.length : Nat) : Int) ≤ 20; omega)⟩
    (facts_cons ⟨(by show (0 : Int) ≤ (b 7).i - (b 8).i; omega), (by show (b 7).i - (b 8).i ≤ 0; omega)⟩ facts_nil)))
theorem or_pow_lt {k s n : Nat} (hk : k < 2 ^ n) (hs : s < n) : k ||| 2 ^ s < 2 ^ n := Nat.or_lt_two_pow hk (Nat.pow_lt_pow_right (by decide) hs)
theorem I1.next {s : Nat} {b' : Nat → MV} (h : I1 d50 d51 k b) (hl : d50.length ≤ 20) (hlt : (b 7).i < d50.length) (hs : s < 4) (hlen : (b' 0).d.length = (b 0).d.length + 1) (hk : KI 4 (k ||| 2 ^ s) ((b 0).d.length + 1) b') (h50 : (b' 50).d = (b 50).d) (h51 : (b' 51).d = (b 51).d) (h8 : (b' 8).i = (b 8).i) (h7 : (b' 7).i = (b 7).i + 1) : I1 d50 d51 (k ||| 2 ^ s) b' := by
  have h0 := h.i0
  have hn := h.n
  exact ⟨by rw [h50, h.f], by rw [h51, h.s], by rw [h8, h.ln], by omega, by omega, by rw [hlen]; omega, or_pow_lt (n := 4) h.k16 hs, by rw [hlen]; exact hk⟩
theorem rd1_00 (h : I1 d50 d51 k b) (hl : d50.length ≤ 20) (hlt : (b 7).i < d50.length) {x : Int} (hx : (vb b g z).i (.f2 (100 + 0) (.v 50) (.v 7)) = x) (x0 : 0 ≤ x) (x1 : x ≤ 255) (hs : x.tmod 4 = 0) (y0 : 0 ≤ x) (y1 : x ≤ 200) :
    Tri Tryz.prog N chB (At w0 N (vb b g z) (st1 k)) fun e a w => e = .normal ∧ ∃ k' b', (I1 d50 d51 k' b' ∧ (b' 7).i = (b 7).i + 1) ∧ At w0 N (vb b' g z) (st1 k') a w := by
  have r26 : (vb b g z).i (.f2 3 (.f2 (100 + 0) (.v 50) (.v 7)) (.num 26)) = x.tmod 26 := by rw [(vb_std b g z).rem, hx]; rfl
  have m26 := tmod26 x0
  have fg : ∀ f ∈ fg10 0, f.holds QR (vb b g z) := facts_cons (by show (0 : Int) ≤ (vb b g z).i (.f2 3 (.f2 (100 + 0) (.v 50) (.v 7)) (.num 4)) ∧ (vb b g z).i (.f2 3 (.f2 (100 + 0) (.v 50) (.v 7)) (.num 4)) ≤ 0; rw [(vb_std b g z).rem, hx]; show (0 : Int) ≤ x.tmod 4 ∧ x.tmod 4 ≤ 0; omega)
    (facts_cons (by show (0 : Int) ≤ (vb b g z).i (.f2 (100 + 0) (.v 50) (.v 7)) ∧ (vb b g z).i (.f2 (100 + 0) (.v 50) (.v 7)) ≤ 200; rw [hx]; omega) (facts_cons (by show (0 : Int) ≤ (vb b g z).i (.f2 3 (.f2 (100 + 0) (.v 50) (.v 7)) (.num 26)) ∧ (vb b g z).i (.f2 3 (.f2 (100 + 0) (.v 50) (.v 7)) (.num 26)) ≤ 25; rw [r26]; omega)
    (facts_cons (by show (1 : Int) ≤ ((((vb b g z).s (.f1 10 (.f2 1000 (.f2 3 (.f2 (100 + 0) (.v 50) (.v 7)) (.num 26)) (.num 97)))).size : Nat) : Int) ∧ ((((vb b g z).s (.f1 10 (.f2 1000 (.f2 3 (.f2 (100 + 0) (.v 50) (.v 7)) (.num 26)) (.num 97)))).size : Nat) : Int) ≤ 1; rw [(vb_std b g z).byt, size_one]; decide) facts_nil)))
  have hn := h.n
  have hla := h.kb.la
  cases k with
  | zero =>
    have hr := (Bool.and_eq_true_iff.1 (RU1 _ h.k16 0 (by decide))).1
    unfold run10 at hr
    have e0 : (b 0).d = [] := List.eq_nil_of_length_eq_zero (h.kb.k0.1 rfl)
    have hy : (nb b (r1 0 0 0) 0).d = (b 0).d ++ [enR (((b 0).d.length : Int) + 1) 1 1 (b 2).i 0 0 0 (0 : Nat) false ⟨#[]⟩ true (nb b (r1 0 0 0) 21).s] := by rw [e0]; rfl
    refine (Tri.run (codeM _ _) (envR_ok (facts_app fg (facts_app (fIn1_ok h hl hlt) (fb4_ok h.kb)))) hr (ren_nb (by decide))).post fun e a w hq => ⟨hq.1, 0 ||| 2 ^ 0, nb b (r1 0 0 0), ⟨h.next (s := 0) hl hlt (by decide) (by rw [hy, List.length_append]; rfl) ?_ rfl rfl rfl rfl, rfl⟩, hq.2⟩
    exact h.kb.next (by decide) (by omega) rfl ⟨by omega, by omega⟩ v0_ok (show VCell true _ from (v1_ok _)) hy rfl (by rw [h.kb.q, e0]; rfl) (by rw [e0]; rfl) (by rw [e0]; rfl) h.kb.du (fun i hi => match i, hi with
        | 0, _ => (v1_ok _)
        | 1, _ => v0_ok
        | 2, _ => v0_ok
        | 3, _ => v0_ok
        | i + 4, h => absurd h (by omega))
  | succ k =>
    have hr := (Bool.and_eq_true_iff.1 (RU1 _ h.k16 0 (by decide))).1
    unfold run10 at hr
    have hc := h.kb.c (by omega)
    have hpl := h.kb.pl (by omega)
    have hy : (nb b (r1 (k + 1) 0 0) 0).d = (b 0).d ++ [enR (((b 0).d.length : Int) + 1) 1 1 (b 2).i (b 3).i 0 0 (0 : Nat) (b 20).b (b 21).s true (nb b (r1 (k + 1) 0 0) 21).s] := rfl
    refine (Tri.run (codeM _ _) (envR_ok (facts_app fg (facts_app (fIn1_ok h hl hlt) (fb4_ok h.kb)))) hr (ren_nb (r := r1_100) (by decide))).post fun e a w hq => ⟨hq.1, (k + 1) ||| 2 ^ 0, nb b (r1 (k + 1) 0 0), ⟨h.next (s := 0) hl hlt (by decide) (by rw [hy, List.length_append]; rfl) ?_ rfl rfl rfl rfl, rfl⟩, hq.2⟩
    exact h.kb.next (by decide) (by omega) rfl ⟨by omega, by omega⟩ (hc 0 (by decide)) (show VCell true _ from (v1_ok _)) hy rfl rfl rfl rfl h.kb.du (fun i hi => match i, hi with
        | 0, _ => (v1_ok _)
        | 1, _ => hc 1 (by decide)
        | 2, _ => hc 2 (by decide)
        | 3, _ => hc 3 (by decide)
        | i + 4, h => absurd h (by omega))
theorem rd1_01 (h : I1 d50 d51 k b) (hl : d50.length ≤ 20) (hlt : (b 7).i < d50.length) {x : Int} (hx : (vb b g z).i (.f2 (100 + 0) (.v 50) (.v 7)) = x) (x0 : 0 ≤ x) (x1 : x ≤ 255) (hs : x.tmod 4 = 0) (y0 : 201 ≤ x) (y1 : x ≤ 255) :
    Tri Tryz.prog N chB (At w0 N (vb b g z) (st1 k)) fun e a w => e = .normal ∧ ∃ k' b', (I1 d50 d51 k' b' ∧ (b' 7).i = (b 7).i + 1) ∧ At w0 N (vb b' g z) (st1 k') a w := by
  have r26 : (vb b g z).i (.f2 3 (.f2 (100 + 0) (.v 50) (.v 7)) (.num 26)) = x.tmod 26 := by rw [(vb_std b g z).rem, hx]; rfl
  have m26 := tmod26 x0
  have fg : ∀ f ∈ fg11 0, f.holds QR (vb b g z) := facts_cons (by show (0 : Int) ≤ (vb b g z).i (.f2 3 (.f2 (100 + 0) (.v 50) (.v 7)) (.num 4)) ∧ (vb b g z).i (.f2 3 (.f2 (100 + 0) (.v 50) (.v 7)) (.num 4)) ≤ 0; rw [(vb_std b g z).rem, hx]; show (0 : Int) ≤ x.tmod 4 ∧ x.tmod 4 ≤ 0; omega)
    (facts_cons (by show (201 : Int) ≤ (vb b g z).i (.f2 (100 + 0) (.v 50) (.v 7)) ∧ (vb b g z).i (.f2 (100 + 0) (.v 50) (.v 7)) ≤ 255; rw [hx]; omega) (facts_cons (by show (0 : Int) ≤ (vb b g z).i (.f2 3 (.f2 (100 + 0) (.v 50) (.v 7)) (.num 26)) ∧ (vb b g z).i (.f2 3 (.f2 (100 + 0) (.v 50) (.v 7)) (.num 26)) ≤ 25; rw [r26]; omega)
    (facts_cons (by show (1 : Int) ≤ ((((vb b g z).s (.f1 10 (.f2 1000 (.f2 3 (.f2 (100 + 0) (.v 50) (.v 7)) (.num 26)) (.num 97)))).size : Nat) : Int) ∧ ((((vb b g z).s (.f1 10 (.f2 1000 (.f2 3 (.f2 (100 + 0) (.v 50) (.v 7)) (.num 26)) (.num 97)))).size : Nat) : Int) ≤ 1; rw [(vb_std b g z).byt, size_one]; decide) facts_nil)))
  have hn := h.n
  have hla := h.kb.la
  cases k with
  | zero =>
    have hr := (Bool.and_eq_true_iff.1 (RU1 _ h.k16 0 (by decide))).2
    unfold run11 at hr
    have e0 : (b 0).d = [] := List.eq_nil_of_length_eq_zero (h.kb.k0.1 rfl)
    have hy : (nb b (r1 0 0 1) 0).d = (b 0).d ++ [enR (((b 0).d.length : Int) + 1) 1 1 (b 2).i 0 0 0 (0 : Nat) false ⟨#[]⟩ false (nb b (r1 0 0 1) 21).s] := by rw [e0]; rfl
    refine (Tri.run (codeM _ _) (envR_ok (facts_app fg (facts_app (fIn1_ok h hl hlt) (fb4_ok h.kb)))) hr (ren_nb (by decide))).post fun e a w hq => ⟨hq.1, 0 ||| 2 ^ 0, nb b (r1 0 0 1), ⟨h.next (s := 0) hl hlt (by decide) (by rw [hy, List.length_append]; rfl) ?_ rfl rfl rfl rfl, rfl⟩, hq.2⟩
    exact h.kb.next (by decide) (by omega) rfl ⟨by omega, by omega⟩ v0_ok (show VCell false _ from v0_ok) hy rfl (by rw [h.kb.q, e0]; rfl) (by rw [e0]; rfl) (by rw [e0]; rfl) h.kb.du (fun i hi => match i, hi with
        | 0, _ => v0_ok
        | 1, _ => v0_ok
        | 2, _ => v0_ok
        | 3, _ => v0_ok
        | i + 4, h => absurd h (by omega))
  | succ k =>
    have hr := (Bool.and_eq_true_iff.1 (RU1 _ h.k16 0 (by decide))).2
    unfold run11 at hr
    have hc := h.kb.c (by omega)
    have hpl := h.kb.pl (by omega)
    have hy : (nb b (r1 (k + 1) 0 1) 0).d = (b 0).d ++ [enR (((b 0).d.length : Int) + 1) 1 1 (b 2).i (b 3).i 0 0 (0 : Nat) (b 20).b (b 21).s false (nb b (r1 (k + 1) 0 1) 21).s] := rfl
    refine (Tri.run (codeM _ _) (envR_ok (facts_app fg (facts_app (fIn1_ok h hl hlt) (fb4_ok h.kb)))) hr (ren_nb (r := r1_101) (by decide))).post fun e a w hq => ⟨hq.1, (k + 1) ||| 2 ^ 0, nb b (r1 (k + 1) 0 1), ⟨h.next (s := 0) hl hlt (by decide) (by rw [hy, List.length_append]; rfl) ?_ rfl rfl rfl rfl, rfl⟩, hq.2⟩
    exact h.kb.next (by decide) (by omega) rfl ⟨by omega, by omega⟩ (hc 0 (by decide)) (show VCell false _ from v0_ok) hy rfl rfl rfl rfl h.kb.du (fun i hi => match i, hi with
        | 0, _ => v0_ok
        | 1, _ => hc 1 (by decide)
        | 2, _ => hc 2 (by decide)
        | 3, _ => hc 3 (by decide)
        | i + 4, h => absurd h (by omega))
theorem rd1_10 (h : I1 d50 d51 k b) (hl : d50.length ≤ 20) (hlt : (b 7).i < d50.length) {x : Int} (hx : (vb b g z).i (.f2 (100 + 0) (.v 50) (.v 7)) = x) (x0 : 0 ≤ x) (x1 : x ≤ 255) (hs : x.tmod 4 = 1) (y0 : 0 ≤ x) (y1 : x ≤ 200) :
    Tri Tryz.prog N chB (At w0 N (vb b g z) (st1 k)) fun e a w => e = .normal ∧ ∃ k' b', (I1 d50 d51 k' b' ∧ (b' 7).i = (b 7).i + 1) ∧ At w0 N (vb b' g z) (st1 k') a w := by
  have r26 : (vb b g z).i (.f2 3 (.f2 (100 + 0) (.v 50) (.v 7)) (.num 26)) = x.tmod 26 := by rw [(vb_std b g z).rem, hx]; rfl
  have m26 := tmod26 x0
  have fg : ∀ f ∈ fg10 1, f.holds QR (vb b g z) := facts_cons (by show (1 : Int) ≤ (vb b g z).i (.f2 3 (.f2 (100 + 0) (.v 50) (.v 7)) (.num 4)) ∧ (vb b g z).i (.f2 3 (.f2 (100 + 0) (.v 50) (.v 7)) (.num 4)) ≤ 1; rw [(vb_std b g z).rem, hx]; show (1 : Int) ≤ x.tmod 4 ∧ x.tmod 4 ≤ 1; omega)
    (facts_cons (by show (0 : Int) ≤ (vb b g z).i (.f2 (100 + 0) (.v 50) (.v 7)) ∧ (vb b g z).i (.f2 (100 + 0) (.v 50) (.v 7)) ≤ 200; rw [hx]; omega) (facts_cons (by show (0 : Int) ≤ (vb b g z).i (.f2 3 (.f2 (100 + 0) (.v 50) (.v 7)) (.num 26)) ∧ (vb b g z).i (.f2 3 (.f2 (100 + 0) (.v 50) (.v 7)) (.num 26)) ≤ 25; rw [r26]; omega)
    (facts_cons (by show (1 : Int) ≤ ((((vb b g z).s (.f1 10 (.f2 1000 (.f2 3 (.f2 (100 + 0) (.v 50) (.v 7)) (.num 26)) (.num 97)))).size : Nat) : Int) ∧ ((((vb b g z).s (.f1 10 (.f2 1000 (.f2 3 (.f2 (100 + 0) (.v 50) (.v 7)) (.num 26)) (.num 97)))).size : Nat) : Int) ≤ 1; rw [(vb_std b g z).byt, size_one]; decide) facts_nil)))
  have hn := h.n
  have hla := h.kb.la
  cases k with
  | zero =>
    have hr := (Bool.and_eq_true_iff.1 (RU1 _ h.k16 1 (by decide))).1
    unfold run10 at hr
    have e0 : (b 0).d = [] := List.eq_nil_of_length_eq_zero (h.kb.k0.1 rfl)
    have hy : (nb b (r1 0 1 0) 0).d = (b 0).d ++ [enR (((b 0).d.length : Int) + 1) 1 1 (b 2).i 0 0 0 (1 : Nat) false ⟨#[]⟩ true (nb b (r1 0 1 0) 23).s] := by rw [e0]; rfl
    refine (Tri.run (codeM _ _) (envR_ok (facts_app fg (facts_app (fIn1_ok h hl hlt) (fb4_ok h.kb)))) hr (ren_nb (by decide))).post fun e a w hq => ⟨hq.1, 0 ||| 2 ^ 1, nb b (r1 0 1 0), ⟨h.next (s := 1) hl hlt (by decide) (by rw [hy, List.length_append]; rfl) ?_ rfl rfl rfl rfl, rfl⟩, hq.2⟩
    exact h.kb.next (by decide) (by omega) rfl ⟨by omega, by omega⟩ v0_ok (show VCell true _ from (v1_ok _)) hy rfl (by rw [h.kb.q, e0]; rfl) (by rw [e0]; rfl) (by rw [e0]; rfl) h.kb.du (fun i hi => match i, hi with
        | 0, _ => v0_ok
        | 1, _ => (v1_ok _)
        | 2, _ => v0_ok
        | 3, _ => v0_ok
        | i + 4, h => absurd h (by omega))
  | succ k =>
    have hr := (Bool.and_eq_true_iff.1 (RU1 _ h.k16 1 (by decide))).1
    unfold run10 at hr
    have hc := h.kb.c (by omega)
    have hpl := h.kb.pl (by omega)
    have hy : (nb b (r1 (k + 1) 1 0) 0).d = (b 0).d ++ [enR (((b 0).d.length : Int) + 1) 1 1 (b 2).i (b 3).i 0 0 (1 : Nat) (b 22).b (b 23).s true (nb b (r1 (k + 1) 1 0) 23).s] := rfl
    refine (Tri.run (codeM _ _) (envR_ok (facts_app fg (facts_app (fIn1_ok h hl hlt) (fb4_ok h.kb)))) hr (ren_nb (r := r1_110) (by decide))).post fun e a w hq => ⟨hq.1, (k + 1) ||| 2 ^ 1, nb b (r1 (k + 1) 1 0), ⟨h.next (s := 1) hl hlt (by decide) (by rw [hy, List.length_append]; rfl) ?_ rfl rfl rfl rfl, rfl⟩, hq.2⟩
    exact h.kb.next (by decide) (by omega) rfl ⟨by omega, by omega⟩ (hc 1 (by decide)) (show VCell true _ from (v1_ok _)) hy rfl rfl rfl rfl h.kb.du (fun i hi => match i, hi with
        | 0, _ => hc 0 (by decide)
        | 1, _ => (v1_ok _)
        | 2, _ => hc 2 (by decide)
        | 3, _ => hc 3 (by decide)
        | i + 4, h => absurd h (by omega))
theorem rd1_11 (h : I1 d50 d51 k b) (hl : d50.length ≤ 20) (hlt : (b 7).i < d50.length) {x : Int} (hx : (vb b g z).i (.f2 (100 + 0) (.v 50) (.v 7)) = x) (x0 : 0 ≤ x) (x1 : x ≤ 255) (hs : x.tmod 4 = 1) (y0 : 201 ≤ x) (y1 : x ≤ 255) :
    Tri Tryz.prog N chB (At w0 N (vb b g z) (st1 k)) fun e a w => e = .normal ∧ ∃ k' b', (I1 d50 d51 k' b' ∧ (b' 7).i = (b 7).i + 1) ∧ At w0 N (vb b' g z) (st1 k') a w := by
  have r26 : (vb b g z).i (.f2 3 (.f2 (100 + 0) (.v 50) (.v 7)) (.num 26)) = x.tmod 26 := by rw [(vb_std b g z).rem, hx]; rfl
  have m26 := tmod26 x0
  have fg : ∀ f ∈ fg11 1, f.holds QR (vb b g z) := facts_cons (by show (1 : Int) ≤ (vb b g z).i (.f2 3 (.f2 (100 + 0) (.v 50) (.v 7)) (.num 4)) ∧ (vb b g z).i (.f2 3 (.f2 (100 + 0) (.v 50) (.v 7)) (.num 4)) ≤ 1; rw [(vb_std b g z).rem, hx]; show (1 : Int) ≤ x.tmod 4 ∧ x.tmod 4 ≤ 1; omega)
    (facts_cons (by show (201 : Int) ≤ (vb b g z).i (.f2 (100 + 0) (.v 50) (.v 7)) ∧ (vb b g z).i (.f2 (100 + 0) (.v 50) (.v 7)) ≤ 255; rw [hx]; omega) (facts_cons (by show (0 : Int) ≤ (vb b g z).i (.f2 3 (.f2 (100 + 0) (.v 50) (.v 7)) (.num 26)) ∧ (vb b g z).i (.f2 3 (.f2 (100 + 0) (.v 50) (.v 7)) (.num 26)) ≤ 25; rw [r26]; omega)
    (facts_cons (by show (1 : Int) ≤ ((((vb b g z).s (.f1 10 (.f2 1000 (.f2 3 (.f2 (100 + 0) (.v 50) (.v 7)) (.num 26)) (.num 97)))).size : Nat) : Int) ∧ ((((vb b g z).s (.f1 10 (.f2 1000 (.f2 3 (.f2 (100 + 0) (.v 50) (.v 7)) (.num 26)) (.num 97)))).size : Nat) : Int) ≤ 1; rw [(vb_std b g z).byt, size_one]; decide) facts_nil)))
  have hn := h.n
  have hla := h.kb.la
  cases k with
  | zero =>
    have hr := (Bool.and_eq_true_iff.1 (RU1 _ h.k16 1 (by decide))).2
    unfold run11 at hr
    have e0 : (b 0).d = [] := List.eq_nil_of_length_eq_zero (h.kb.k0.1 rfl)
    have hy : (nb b (r1 0 1 1) 0).d = (b 0).d ++ [enR (((b 0).d.length : Int) + 1) 1 1 (b 2).i 0 0 0 (1 : Nat) false ⟨#[]⟩ false (nb b (r1 0 1 1) 23).s] := by rw [e0]; rfl
    refine (Tri.run (codeM _ _) (envR_ok (facts_app fg (facts_app (fIn1_ok h hl hlt) (fb4_ok h.kb)))) hr (ren_nb (by decide))).post fun e a w hq => ⟨hq.1, 0 ||| 2 ^ 1, nb b (r1 0 1 1), ⟨h.next (s := 1) hl hlt (by decide) (by rw [hy, List.length_append]; rfl) ?_ rfl rfl rfl rfl, rfl⟩, hq.2⟩
    exact h.kb.next (by decide) (by omega) rfl ⟨by omega, by omega⟩ v0_ok (show VCell false _ from v0_ok) hy rfl (by rw [h.kb.q, e0]; rfl) (by rw [e0]; rfl) (by rw [e0]; rfl) h.kb.du (fun i hi => match i, hi with
        | 0, _ => v0_ok
        | 1, _ => v0_ok
        | 2, _ => v0_ok
        | 3, _ => v0_ok
        | i + 4, h => absurd h (by omega))
  | succ k =>
    have hr := (Bool.and_eq_true_iff.1 (RU1 _ h.k16 1 (by decide))).2
    unfold run11 at hr
    have hc := h.kb.c (by omega)
    have hpl := h.kb.pl (by omega)
    have hy : (nb b (r1 (k + 1) 1 1) 0).d = (b 0).d ++ [enR (((b 0).d.length : Int) + 1) 1 1 (b 2).i (b 3).i 0 0 (1 : Nat) (b 22).b (b 23).s false (nb b (r1 (k + 1) 1 1) 23).s] := rfl
    refine (Tri.run (codeM _ _) (envR_ok (facts_app fg (facts_app (fIn1_ok h hl hlt) (fb4_ok h.kb)))) hr (ren_nb (r := r1_111) (by decide))).post fun e a w hq => ⟨hq.1, (k + 1) ||| 2 ^ 1, nb b (r1 (k + 1) 1 1), ⟨h.next (s := 1) hl hlt (by decide) (by rw [hy, List.length_append]; rfl) ?_ rfl rfl rfl rfl, rfl⟩, hq.2⟩
    exact h.kb.next (by decide) (by omega) rfl ⟨by omega, by omega⟩ (hc 1 (by decide)) (show VCell false _ from v0_ok) hy rfl rfl rfl rfl h.kb.du (fun i hi => match i, hi with
        | 0, _ => hc 0 (by decide)
        | 1, _ => v0_ok
        | 2, _ => hc 2 (by decide)
        | 3, _ => hc 3 (by decide)
        | i + 4, h => absurd h (by omega))
theorem rd1_20 (h : I1 d50 d51 k b) (hl : d50.length ≤ 20) (hlt : (b 7).i < d50.length) {x : Int} (hx : (vb b g z).i (.f2 (100 + 0) (.v 50) (.v 7)) = x) (x0 : 0 ≤ x) (x1 : x ≤ 255) (hs : x.tmod 4 = 2) (y0 : 0 ≤ x) (y1 : x ≤ 200) :
    Tri Tryz.prog N chB (At w0 N (vb b g z) (st1 k)) fun e a w => e = .normal ∧ ∃ k' b', (I1 d50 d51 k' b' ∧ (b' 7).i = (b 7).i + 1) ∧ At w0 N (vb b' g z) (st1 k') a w := by
  have r26 : (vb b g z).i (.f2 3 (.f2 (100 + 0) (.v 50) (.v 7)) (.num 26)) = x.tmod 26 := by rw [(vb_std b g z).rem, hx]; rfl
  have m26 := tmod26 x0
  have fg : ∀ f ∈ fg10 2, f.holds QR (vb b g z) := facts_cons (by show (2 : Int) ≤ (vb b g z).i (.f2 3 (.f2 (100 + 0) (.v 50) (.v 7)) (.num 4)) ∧ (vb b g z).i (.f2 3 (.f2 (100 + 0) (.v 50) (.v 7)) (.num 4)) ≤ 2; rw [(vb_std b g z).rem, hx]; show (2 : Int) ≤ x.tmod 4 ∧ x.tmod 4 ≤ 2; omega)
    (facts_cons (by show (0 : Int) ≤ (vb b g z).i (.f2 (100 + 0) (.v 50) (.v 7)) ∧ (vb b g z).i (.f2 (100 + 0) (.v 50) (.v 7)) ≤ 200; rw [hx]; omega) (facts_cons (by show (0 : Int) ≤ (vb b g z).i (.f2 3 (.f2 (100 + 0) (.v 50) (.v 7)) (.num 26)) ∧ (vb b g z).i (.f2 3 (.f2 (100 + 0) (.v 50) (.v 7)) (.num 26)) ≤ 25; rw [r26]; omega)
    (facts_cons (by show (1 : Int) ≤ ((((vb b g z).s (.f1 10 (.f2 1000 (.f2 3 (.f2 (100 + 0) (.v 50) (.v 7)) (.num 26)) (.num 97)))).size : Nat) : Int) ∧ ((((vb b g z).s (.f1 10 (.f2 1000 (.f2 3 (.f2 (100 + 0) (.v 50) (.v 7)) (.num 26)) (.num 97)))).size : Nat) : Int) ≤ 1; rw [(vb_std b g z).byt, size_one]; decide) facts_nil)))
  have hn := h.n
  have hla := h.kb.la
  cases k with
  | zero =>
    have hr := (Bool.and_eq_true_iff.1 (RU1 _ h.k16 2 (by decide))).1
    unfold run10 at hr
    have e0 : (b 0).d = [] := List.eq_nil_of_length_eq_zero (h.kb.k0.1 rfl)
    have hy : (nb b (r1 0 2 0) 0).d = (b 0).d ++ [enR (((b 0).d.length : Int) + 1) 1 1 (b 2).i 0 0 0 (2 : Nat) false ⟨#[]⟩ true (nb b (r1 0 2 0) 25).s] := by rw [e0]; rfl
    refine (Tri.run (codeM _ _) (envR_ok (facts_app fg (facts_app (fIn1_ok h hl hlt) (fb4_ok h.kb)))) hr (ren_nb (by decide))).post fun e a w hq => ⟨hq.1, 0 ||| 2 ^ 2, nb b (r1 0 2 0), ⟨h.next (s := 2) hl hlt (by decide) (by rw [hy, List.length_append]; rfl) ?_ rfl rfl rfl rfl, rfl⟩, hq.2⟩
    exact h.kb.next (by decide) (by omega) rfl ⟨by omega, by omega⟩ v0_ok (show VCell true _ from (v1_ok _)) hy rfl (by rw [h.kb.q, e0]; rfl) (by rw [e0]; rfl) (by rw [e0]; rfl) h.kb.du (fun i hi => match i, hi with
        | 0, _ => v0_ok
        | 1, _ => v0_ok
        | 2, _ => (v1_ok _)
        | 3, _ => v0_ok
        | i + 4, h => absurd h (by omega))
  | succ k =>
    have hr := (Bool.and_eq_true_iff.1 (RU1 _ h.k16 2 (by decide))).1
    unfold run10 at hr
    have hc := h.kb.c (by omega)
    have hpl := h.kb.pl (by omega)
    have hy : (nb b (r1 (k + 1) 2 0) 0).d = (b 0).d ++ [enR (((b 0).d.length : Int) + 1) 1 1 (b 2).i (b 3).i 0 0 (2 : Nat) (b 24).b (b 25).s true (nb b (r1 (k + 1) 2 0) 25).s] := rfl
    refine (Tri.run (codeM _ _) (envR_ok (facts_app fg (facts_app (fIn1_ok h hl hlt) (fb4_ok h.kb)))) hr (ren_nb (r := r1_120) (by decide))).post fun e a w hq => ⟨hq.1, (k + 1) ||| 2 ^ 2, nb b (r1 (k + 1) 2 0), ⟨h.next (s := 2) hl hlt (by decide) (by rw [hy, List.length_append]; rfl) ?_ rfl rfl rfl rfl, rfl⟩, hq.2⟩
    exact h.kb.next (by decide) (by omega) rfl ⟨by omega, by omega⟩ (hc 2 (by decide)) (show VCell true _ from (v1_ok _)) hy rfl rfl rfl rfl h.kb.du (fun i hi => match i, hi with
        | 0, _ => hc 0 (by decide)
        | 1, _ => hc 1 (by decide)
        | 2, _ => (v1_ok _)
        | 3, _ => hc 3 (by decide)
        | i + 4, h => absurd h (by omega))
theorem rd1_21 (h : I1 d50 d51 k b) (hl : d50.length ≤ 20) (hlt : (b 7).i < d50.length) {x : Int} (hx : (vb b g z).i (.f2 (100 + 0) (.v 50) (.v 7)) = x) (x0 : 0 ≤ x) (x1 : x ≤ 255) (hs : x.tmod 4 = 2) (y0 : 201 ≤ x) (y1 : x ≤ 255) :
    Tri Tryz.prog N chB (At w0 N (vb b g z) (st1 k)) fun e a w => e = .normal ∧ ∃ k' b', (I1 d50 d51 k' b' ∧ (b' 7).i = (b 7).i + 1) ∧ At w0 N (vb b' g z) (st1 k') a w := by
  have r26 : (vb b g z).i (.f2 3 (.f2 (100 + 0) (.v 50) (.v 7)) (.num 26)) = x.tmod 26 := by rw [(vb_std b g z).rem, hx]; rfl
  have m26 := tmod26 x0
  have fg : ∀ f ∈ fg11 2, f.holds QR (vb b g z) := facts_cons (by show (2 : Int) ≤ (vb b g z).i (.f2 3 (.f2 (100 + 0) (.v 50) (.v 7)) (.num 4)) ∧ (vb b g z).i (.f2 3 (.f2 (100 + 0) (.v 50) (.v 7)) (.num 4)) ≤ 2; rw [(vb_std b g z).rem, hx]; show (2 : Int) ≤ x.tmod 4 ∧ x.tmod 4 ≤ 2; omega)
    (facts_cons (by show (201 : Int) ≤ (vb b g z).i (.f2 (100 + 0) (.v 50) (.v 7)) ∧ (vb b g z).i (.f2 (100 + 0) (.v 50) (.v 7)) ≤ 255; rw [hx]; omega) (facts_cons (by show (0 : Int) ≤ (vb b g z).i (.f2 3 (.f2 (100 + 0) (.v 50) (.v 7)) (.num 26)) ∧ (vb b g z).i (.f2 3 (.f2 (100 + 0) (.v 50) (.v 7)) (.num 26)) ≤ 25; rw [r26]; omega)
    (facts_cons (by show (1 : Int) ≤ ((((vb b g z).s (.f1 10 (.f2 1000 (.f2 3 (.f2 (100 + 0) (.v 50) (.v 7)) (.num 26)) (.num 97)))).size : Nat) : Int) ∧ ((((vb b g z).s (.f1 10 (.f2 1000 (.f2 3 (.f2 (100 + 0) (.v 50) (.v 7)) (.num 26)) (.num 97)))).size : Nat) : Int) ≤ 1; rw [(vb_std b g z).byt, size_one]; decide) facts_nil)))
  have hn := h.n
  have hla := h.kb.la
  cases k with
  | zero =>
    have hr := (Bool.and_eq_true_iff.1 (RU1 _ h.k16 2 (by decide))).2
    unfold run11 at hr
    have e0 : (b 0).d = [] := List.eq_nil_of_length_eq_zero (h.kb.k0.1 rfl)
    have hy : (nb b (r1 0 2 1) 0).d = (b 0).d ++ [enR (((b 0).d.length : Int) + 1) 1 1 (b 2).i 0 0 0 (2 : Nat) false ⟨#[]⟩ false (nb b (r1 0 2 1) 25).s] := by rw [e0]; rfl
    refine (Tri.run (codeM _ _) (envR_ok (facts_app fg (facts_app (fIn1_ok h hl hlt) (fb4_ok h.kb)))) hr (ren_nb (by decide))).post fun e a w hq => ⟨hq.1, 0 ||| 2 ^ 2, nb b (r1 0 2 1), ⟨h.next (s := 2) hl hlt (by decide) (by rw [hy, List.length_append]; rfl) ?_ rfl rfl rfl rfl, rfl⟩, hq.2⟩
    exact h.kb.next (by decide) (by omega) rfl ⟨by omega, by omega⟩ v0_ok (show VCell false _ from v0_ok) hy rfl (by rw [h.kb.q, e0]; rfl) (by rw [e0]; rfl) (by rw [e0]; rfl) h.kb.du (fun i hi => match i, hi with
        | 0, _ => v0_ok
        | 1, _ => v0_ok
        | 2, _ => v0_ok
        | 3, _ => v0_ok
        | i + 4, h => absurd h (by omega))
  | succ k =>
    have hr := (Bool.and_eq_true_iff.1 (RU1 _ h.k16 2 (by decide))).2
    unfold run11 at hr
    have hc := h.kb.c (by omega)
    have hpl := h.kb.pl (by omega)
    have hy : (nb b (r1 (k + 1) 2 1) 0).d = (b 0).d ++ [enR (((b 0).d.length : Int) + 1) 1 1 (b 2).i (b 3).i 0 0 (2 : Nat) (b 24).b (b 25).s false (nb b (r1 (k + 1) 2 1) 25).s] := rfl
    refine (Tri.run (codeM _ _) (envR_ok (facts_app fg (facts_app (fIn1_ok h hl hlt) (fb4_ok h.kb)))) hr (ren_nb (r := r1_121) (by decide))).post fun e a w hq => ⟨hq.1, (k + 1) ||| 2 ^ 2, nb b (r1 (k + 1) 2 1), ⟨h.next (s := 2) hl hlt (by decide) (by rw [hy, List.length_append]; rfl) ?_ rfl rfl rfl rfl, rfl⟩, hq.2⟩
    exact h.kb.next (by decide) (by omega) rfl ⟨by omega, by omega⟩ (hc 2 (by decide)) (show VCell false _ from v0_ok) hy rfl rfl rfl rfl h.kb.du (fun i hi => match i, hi with
        | 0, _ => hc 0 (by decide)
        | 1, _ => hc 1 (by decide)
        | 2, _ => v0_ok
        | 3, _ => hc 3 (by decide)
        | i + 4, h => absurd h (by omega))
theorem rd1_30 (h : I1 d50 d51 k b) (hl : d50.length ≤ 20) (hlt : (b 7).i < d50.length) {x : Int} (hx : (vb b g z).i (.f2 (100 + 0) (.v 50) (.v 7)) = x) (x0 : 0 ≤ x) (x1 : x ≤ 255) (hs : x.tmod 4 = 3) (y0 : 0 ≤ x) (y1 : x ≤ 200) :
    Tri Tryz.prog N chB (At w0 N (vb b g z) (st1 k)) fun e a w => e = .normal ∧ ∃ k' b', (I1 d50 d51 k' b' ∧ (b' 7).i = (b 7).i + 1) ∧ At w0 N (vb b' g z) (st1 k') a w := by
  have r26 : (vb b g z).i (.f2 3 (.f2 (100 + 0) (.v 50) (.v 7)) (.num 26)) = x.tmod 26 := by rw [(vb_std b g z).rem, hx]; rfl
  have m26 := tmod26 x0
  have fg : ∀ f ∈ fg10 3, f.holds QR (vb b g z) := facts_cons (by show (3 : Int) ≤ (vb b g z).i (.f2 3 (.f2 (100 + 0) (.v 50) (.v 7)) (.num 4)) ∧ (vb b g z).i (.f2 3 (.f2 (100 + 0) (.v 50) (.v 7)) (.num 4)) ≤ 3; rw [(vb_std b g z).rem, hx]; show (3 : Int) ≤ x.tmod 4 ∧ x.tmod 4 ≤ 3; omega)
    (facts_cons (by show (0 : Int) ≤ (vb b g z).i (.f2 (100 + 0) (.v 50) (.v 7)) ∧ (vb b g z).i (.f2 (100 + 0) (.v 50) (.v 7)) ≤ 200; rw [hx]; omega) (facts_cons (by show (0 : Int) ≤ (vb b g z).i (.f2 3 (.f2 (100 + 0) (.v 50) (.v 7)) (.num 26)) ∧ (vb b g z).i (.f2 3 (.f2 (100 + 0) (.v 50) (.v 7)) (.num 26)) ≤ 25; rw [r26]; omega)
    (facts_cons (by show (1 : Int) ≤ ((((vb b g z).s (.f1 10 (.f2 1000 (.f2 3 (.f2 (100 + 0) (.v 50) (.v 7)) (.num 26)) (.num 97)))).size : Nat) : Int) ∧ ((((vb b g z).s (.f1 10 (.f2 1000 (.f2 3 (.f2 (100 + 0) (.v 50) (.v 7)) (.num 26)) (.num 97)))).size : Nat) : Int) ≤ 1; rw [(vb_std b g z).byt, size_one]; decide) facts_nil)))
  have hn := h.n
  have hla := h.kb.la
  cases k with
  | zero =>
    have hr := (Bool.and_eq_true_iff.1 (RU1 _ h.k16 3 (by decide))).1
    unfold run10 at hr
    have e0 : (b 0).d = [] := List.eq_nil_of_length_eq_zero (h.kb.k0.1 rfl)
    have hy : (nb b (r1 0 3 0) 0).d = (b 0).d ++ [enR (((b 0).d.length : Int) + 1) 1 1 (b 2).i 0 0 0 (3 : Nat) false ⟨#[]⟩ true (nb b (r1 0 3 0) 27).s] := by rw [e0]; rfl
    refine (Tri.run (codeM _ _) (envR_ok (facts_app fg (facts_app (fIn1_ok h hl hlt) (fb4_ok h.kb)))) hr (ren_nb (by decide))).post fun e a w hq => ⟨hq.1, 0 ||| 2 ^ 3, nb b (r1 0 3 0), ⟨h.next (s := 3) hl hlt (by decide) (by rw [hy, List.length_append]; rfl) ?_ rfl rfl rfl rfl, rfl⟩, hq.2⟩
    exact h.kb.next (by decide) (by omega) rfl ⟨by omega, by omega⟩ v0_ok (show VCell true _ from (v1_ok _)) hy rfl (by rw [h.kb.q, e0]; rfl) (by rw [e0]; rfl) (by rw [e0]; rfl) h.kb.du (fun i hi => match i, hi with
        | 0, _ => v0_ok
        | 1, _ => v0_ok
        | 2, _ => v0_ok
        | 3, _ => (v1_ok _)
        | i + 4, h => absurd h (by omega))
  | succ k =>
    have hr := (Bool.and_eq_true_iff.1 (RU1 _ h.k16 3 (by decide))).1
    unfold run10 at hr
    have hc := h.kb.c (by omega)
    have hpl := h.kb.pl (by omega)
    have hy : (nb b (r1 (k + 1) 3 0) 0).d = (b 0).d ++ [enR (((b 0).d.length : Int) + 1) 1 1 (b 2).i (b 3).i 0 0 (3 : Nat) (b 26).b (b 27).s true (nb b (r1 (k + 1) 3 0) 27).s] := rfl
    refine (Tri.run (codeM _ _) (envR_ok (facts_app fg (facts_app (fIn1_ok h hl hlt) (fb4_ok h.kb)))) hr (ren_nb (r := r1_130) (by decide))).post fun e a w hq => ⟨hq.1, (k + 1) ||| 2 ^ 3, nb b (r1 (k + 1) 3 0), ⟨h.next (s := 3) hl hlt (by decide) (by rw [hy, List.length_append]; rfl) ?_ rfl rfl rfl rfl, rfl⟩, hq.2⟩
    exact h.kb.next (by decide) (by omega) rfl ⟨by omega, by omega⟩ (hc 3 (by decide)) (show VCell true _ from (v1_ok _)) hy rfl rfl rfl rfl h.kb.du (fun i hi => match i, hi with
        | 0, _ => hc 0 (by decide)
        | 1, _ => hc 1 (by decide)
        | 2, _ => hc 2 (by decide)
        | 3, _ => (v1_ok _)
        | i + 4, h => absurd h (by omega))
theorem rd1_31 (h : I1 d50 d51 k b) (hl : d50.length ≤ 20) (hlt : (b 7).i < d50.length) {x : Int} (hx : (vb b g z).i (.f2 (100 + 0) (.v 50) (.v 7)) = x) (x0 : 0 ≤ x) (x1 : x ≤ 255) (hs : x.tmod 4 = 3) (y0 : 201 ≤ x) (y1 : x ≤ 255) :
    Tri Tryz.prog N chB (At w0 N (vb b g z) (st1 k)) fun e a w => e = .normal ∧ ∃ k' b', (I1 d50 d51 k' b' ∧ (b' 7).i = (b 7).i + 1) ∧ At w0 N (vb b' g z) (st1 k') a w := by
  have r26 : (vb b g z).i (.f2 3 (.f2 (100 + 0) (.v 50) (.v 7)) (.num 26)) = x.tmod 26 := by rw [(vb_std b g z).rem, hx]; rfl
  have m26 := tmod26 x0
  have fg : ∀ f ∈ fg11 3, f.holds QR (vb b g z) := facts_cons (by show (3 : Int) ≤ (vb b g z).i (.f2 3 (.f2 (100 + 0) (.v 50) (.v 7)) (.num 4)) ∧ (vb b g z).i (.f2 3 (.f2 (100 + 0) (.v 50) (.v 7)) (.num 4)) ≤ 3; rw [(vb_std b g z).rem, hx]; show (3 : Int) ≤ x.tmod 4 ∧ x.tmod 4 ≤ 3; omega)
    (facts_cons (by show (201 : Int) ≤ (vb b g z).i (.f2 (100 + 0) (.v 50) (.v 7)) ∧ (vb b g z).i (.f2 (100 + 0) (.v 50) (.v 7)) ≤ 255; rw [hx]; omega) (facts_cons (by show (0 : Int) ≤ (vb b g z).i (.f2 3 (.f2 (100 + 0) (.v 50) (.v 7)) (.num 26)) ∧ (vb b g z).i (.f2 3 (.f2 (100 + 0) (.v 50) (.v 7)) (.num 26)) ≤ 25; rw [r26]; omega)
    (facts_cons (by show (1 : Int) ≤ ((((vb b g z).s (.f1 10 (.f2 1000 (.f2 3 (.f2 (100 + 0) (.v 50) (.v 7)) (.num 26)) (.num 97)))).size : Nat) : Int) ∧ ((((vb b g z).s (.f1 10 (.f2 1000 (.f2 3 (.f2 (100 + 0) (.v 50) (.v 7)) (.num 26)) (.num 97)))).size : Nat) : Int) ≤ 1; rw [(vb_std b g z).byt, size_one]; decide) facts_nil)))
  have hn := h.n
  have hla := h.kb.la
  cases k with
  | zero =>
    have hr := (Bool.and_eq_true_iff.1 (RU1 _ h.k16 3 (by decide))).2
    unfold run11 at hr
    have e0 : (b 0).d = [] := List.eq_nil_of_length_eq_zero (h.kb.k0.1 rfl)
    have hy : (nb b (r1 0 3 1) 0).d = (b 0).d ++ [enR (((b 0).d.length : Int) + 1) 1 1 (b 2).i 0 0 0 (3 : Nat) false ⟨#[]⟩ false (nb b (r1 0 3 1) 27).s] := by rw [e0]; rfl
    refine (Tri.run (codeM _ _) (envR_ok (facts_app fg (facts_app (fIn1_ok h hl hlt) (fb4_ok h.kb)))) hr (ren_nb (by decide))).post fun e a w hq => ⟨hq.1, 0 ||| 2 ^ 3, nb b (r1 0 3 1), ⟨h.next (s := 3) hl hlt (by decide) (by rw [hy, List.length_append]; rfl) ?_ rfl rfl rfl rfl, rfl⟩, hq.2⟩
    exact h.kb.next (by decide) (by omega) rfl ⟨by omega, by omega⟩ v0_ok (show VCell false _ from v0_ok) hy rfl (by rw [h.kb.q, e0]; rfl) (by rw [e0]; rfl) (by rw [e0]; rfl) h.kb.du (fun i hi => match i, hi with
        | 0, _ => v0_ok
        | 1, _ => v0_ok
        | 2, _ => v0_ok
        | 3, _ => v0_ok
        | i + 4, h => absurd h (by omega))
  | succ k =>
    have hr := (Bool.and_eq_true_iff.1 (RU1 _ h.k16 3 (by decide))).2
    unfold run11 at hr
    have hc := h.kb.c (by omega)
    have hpl := h.kb.pl (by omega)
    have hy : (nb b (r1 (k + 1) 3 1) 0).d = (b 0).d ++ [enR (((b 0).d.length : Int) + 1) 1 1 (b 2).i (b 3).i 0 0 (3 : Nat) (b 26).b (b 27).s false (nb b (r1 (k + 1) 3 1) 27).s] := rfl
    refine (Tri.run (codeM _ _) (envR_ok (facts_app fg (facts_app (fIn1_ok h hl hlt) (fb4_ok h.kb)))) hr (ren_nb (r := r1_131) (by decide))).post fun e a w hq => ⟨hq.1, (k + 1) ||| 2 ^ 3, nb b (r1 (k + 1) 3 1), ⟨h.next (s := 3) hl hlt (by decide) (by rw [hy, List.length_append]; rfl) ?_ rfl rfl rfl rfl, rfl⟩, hq.2⟩
    exact h.kb.next (by decide) (by omega) rfl ⟨by omega, by omega⟩ (hc 3 (by decide)) (show VCell false _ from v0_ok) hy rfl rfl rfl rfl h.kb.du (fun i hi => match i, hi with
        | 0, _ => hc 0 (by decide)
        | 1, _ => hc 1 (by decide)
        | 2, _ => hc 2 (by decide)
        | 3, _ => v0_ok
        | i + 4, h => absurd h (by omega))
theorem round1 (h : I1 d50 d51 k b) (hb : Byt d50) (hl : d50.length ≤ 20) (hlt : (b 7).i < d50.length) : Tri Tryz.prog N chB (At w0 N (vb b g z) (st1 k)) fun e a w => e = .normal ∧ ∃ k' b', (I1 d50 d51 k' b' ∧ (b' 7).i = (b 7).i + 1) ∧ At w0 N (vb b' g z) (st1 k') a w := by
  obtain ⟨i, hi⟩ := Int.eq_ofNat_of_zero_le h.i0
  obtain ⟨row, hrow⟩ := list_cases (d := d50) (i := i) (by omega)
  obtain ⟨x, rfl, x0, x1⟩ := hb i row hrow
  have hy : ((vb b g z).d (.v 50))[i]? = some [DV.i x] := (congrArg (fun x : List (List DV) => x[i]?) h.f).trans hrow
  have hx : (vb b g z).i (.f2 (100 + 0) (.v 50) (.v 7)) = x := ci_row hy (show (vb b g z).i (.v 7) = i from hi) 0 (by decide) rfl
  by_cases hd : x ≤ 200
  · rcases tmod_cases4 x0 with hs | hs | hs | hs
    · exact rd1_00 h hl hlt hx x0 x1 hs x0 hd
    · exact rd1_10 h hl hlt hx x0 x1 hs x0 hd
    · exact rd1_20 h hl hlt hx x0 x1 hs x0 hd
    · exact rd1_30 h hl hlt hx x0 x1 hs x0 hd
  · rcases tmod_cases4 x0 with hs | hs | hs | hs
    · exact rd1_01 h hl hlt hx x0 x1 hs (by omega) x1
    · exact rd1_11 h hl hlt hx x0 x1 hs (by omega) x1
    · exact rd1_21 h hl hlt hx x0 x1 hs (by omega) x1
    · exact rd1_31 h hl hlt hx x0 x1 hs (by omega) x1
theorem rx1_id : ∀ k, (rx1 k).idEx [] = true ∧ (rx1 k).ok = true
  | 0 => by decide
  | _ + 1 => (by decide : rx1_1.idEx [] = true ∧ rx1_1.ok = true)
theorem rcr_id : ∀ k, (rcr k).idEx [] = true ∧ (rcr k).ok = true
  | 0 => by decide
  | _ + 1 => (by decide : rcr_1.idEx [] = true ∧ rcr_1.ok = true)
theorem rA_id : ∀ k, (rA k).idEx [] = true ∧ (rA k).ok = true
  | 0 => by decide
  | _ + 1 => (by decide : rA_1.idEx [] = true ∧ rA_1.ok = true)
theorem rx3_id : ∀ k, (rx3 k).idEx [] = true ∧ (rx3 k).ok = true
  | 0 => by decide
  | _ + 1 => (by decide : rx3_1.idEx [] = true ∧ rx3_1.ok = true)
theorem rx5_id : ∀ k, (rx5 k).idEx [] = true ∧ (rx5 k).ok = true
  | 0 => by decide
  | _ + 1 => (by decide : rx5_1.idEx [] = true ∧ rx5_1.ok = true)
theorem nb_all {r : Rn} (h : r.idEx [] = true) : nb b r = b := funext fun n => nb_id h rfl
theorem Tri.pre_loop {E : Env} {T : Tab} {n : Nat} (hcode : CodeOk Tryz.prog E T n) {ρ ρ' : Vn} (he : EnvOk E ρ) {j : Nat} {ac r x y : ACd} {l : List ACd} (hcut : cutA j ac = some (l, .seq (.seq r x) y)) {s s' : Lit} {m : List (Bid × Bid)} {nm : Nms} (hend : endsAt .nrm m nm s' (runL Tryz.prog E T n (l ++ [r]) s.frame s.hp) = true) (hr : Ren ρ ρ' nm)
    {Mid : Act → World → Prop} {Post : Exit → Act → World → Prop} (hx : Tri Tryz.prog N x (At w0 N ρ' s') fun e a w => (e = .normal ∧ Mid a w) ∨ (e ≠ .normal ∧ Post e a w)) (hy : Tri Tryz.prog N y Mid Post) : Tri Tryz.prog N ac (At w0 N ρ s) Post := by
  have split : ∀ (l : List ACd) (fr : Fr) (h : Hp) (fr' : Fr) (h' : Hp), runL Tryz.prog E T n (l ++ [r]) fr h = .nrm fr' h' → ∃ fr1 h1, runL Tryz.prog E T n l fr h = .nrm fr1 h1 ∧ aev Tryz.prog E T n r fr1 h1 = .nrm fr' h' := by
    intro l
    induction l with
    | nil =>
      intro fr h fr' h' e
      refine ⟨fr, h, rfl, ?_⟩
      have e' : RC.casesOn (motive := fun _ => RC) (aev Tryz.prog E T n r fr h) .no RC.nrm (fun _ _ _ => .no) (fun _ _ => .no) = .nrm fr' h' := e
      cases hc : aev Tryz.prog E T n r fr h with
      | nrm f q => rw [hc] at e'; exact e'
      | no => rw [hc] at e'; cases e'
      | ex i f q => rw [hc] at e'; cases e'
      | ret f q => rw [hc] at e'; cases e'
    | cons c l ih =>
      intro fr h fr' h' e
      have e' : RC.casesOn (motive := fun _ => RC) (aev Tryz.prog E T n c fr h) .no (runL Tryz.prog E T n (l ++ [r])) (fun _ _ _ => .no) (fun _ _ => .no) = .nrm fr' h' := e
      cases hc : aev Tryz.prog E T n c fr h with
      | nrm f q =>
        rw [hc] at e'
        obtain ⟨f1, q1, k1, k2⟩ := ih f q fr' h' e'
        refine ⟨f1, q1, ?_, k2⟩
        show RC.casesOn (motive := fun _ => RC) (aev Tryz.prog E T n c fr h) .no (runL Tryz.prog E T n l) (fun _ _ _ => .no) (fun _ _ => .no) = _
        rw [hc]; exact k1
      | no => rw [hc] at e'; cases e'
      | ex i f q => rw [hc] at e'; cases e'
      | ret f q => rw [hc] at e'; cases e'
  cases hrun : runL Tryz.prog E T n (l ++ [r]) s.frame s.hp with
  | no => rw [hrun] at hend; cases hend
  | ex id f q => rw [hrun] at hend; cases hend
  | ret f q => rw [hrun] at hend; cases hend
  | nrm fr' h' =>
    rw [hrun] at hend
    obtain ⟨fr1, h1, k1, k2⟩ := split l _ _ _ _ hrun
    refine Tri.preH hcode he (r := .seq (.seq r x) y) (fr' := fr1) (h' := h1) ?_ hcut k1
    refine Tri.seq (Mid := Mid) ?_ hy
    refine Tri.seq (Mid := At w0 N ρ' s') ?_ hx
    intro c hcc a w hat
    obtain ⟨φ, q1, q2, q3, q4, q5⟩ := hat
    refine wp_mono (hcode N c r hcc fr1 h1 _ k2 (by simp) ρ φ a w he q1 q2 q5) ?_
    rintro e a' w' ⟨rfl, φ', p1, p2, p3, p4⟩
    exact ⟨trivial, .inl ⟨rfl, At.fits hend hr p1 p2.rel (q3.step p2) (p3.trans q4) (by omega)⟩⟩
theorem loop1 (hb : Byt d50) (hl : d50.length ≤ 20) : Tri Tryz.prog N (.block 0 (.loop chB)) (fun a w => ∃ j : Nat × (Nat → MV), I1 d50 d51 j.1 j.2 ∧ At w0 N (vb j.2 g z) (st1 j.1) a w) fun e a w => e = .normal ∧ ∃ k b, (I1 d50 d51 k b ∧ (b 7).i = d50.length) ∧ At w0 N (vb b g z) (st1x k) a w := by
  refine Tri.block ?_
  refine (Tri.loop (Post := fun e a w => e = .exit 0 ∧ ∃ k b, (I1 d50 d51 k b ∧ (b 7).i = d50.length) ∧ At w0 N (vb b g z) (st1x k) a w) (fun j : Nat × (Nat → MV) => d50.length - (j.2 7).i.toNat) (fun j a w => I1 d50 d51 j.1 j.2 ∧ At w0 N (vb j.2 g z) (st1 j.1) a w) fun j => Tri.imp fun hj => ?_).post fun e a w h => .inl ⟨.inr h.1, rfl, h.2⟩
  obtain ⟨k, b⟩ := j
  have hj : I1 d50 d51 k b := hj
  have h0 := hj.i0
  by_cases hlt : (b 7).i < d50.length
  · refine (round1 hj hb hl hlt).post fun e a w hq => .inl ⟨hq.1, ?_⟩
    obtain ⟨_, k', b', ⟨h1, h2⟩, h3⟩ := hq
    exact ⟨(k', b'), (by show d50.length - (b' 7).i.toNat < d50.length - (b 7).i.toNat; rw [h2]; omega), h1, h3⟩
  · have hr := (Bool.and_eq_true_iff.1 (RU1x k hj.k16)).1
    unfold run1x at hr
    have hid : (rx1 k).idEx [] = true := (rx1_id k).1
    have hok : (rx1 k).ok = true := (rx1_id k).2
    refine (Tri.run (codeM _ _) (envR_ok (fOut1_ok hj hl hlt)) hr (ren_nb hok)).post fun e a w hq => .inr ⟨by rw [hq.1]; exact fun h => (nomatch h), hq.1, k, b, ⟨hj, by have := hj.i1; omega⟩, ?_⟩
    have := hq.2
    rw [nb_all hid] at this
    exact this
def kcOf (s : Lit) : List AC := match s.mem with
  | (_, .cells c) :: _ => c
  | _ => []
def kc (k : Nat) : List AC := kcOf (stCr k)
theorem retK : ∀ k, k < 16 → retOf chRes (stCr k).frame (stCr k).hp = .ok (.t [.a (kc k), .c (.i .i64 (.ofNat 1)), .c (.b true)]) (stCr k).hp
  | 0, _ => by kernel_rfl
  | 1, _ => by kernel_rfl
  | 2, _ => by kernel_rfl
  | 3, _ => by kernel_rfl
  | 4, _ => by kernel_rfl
  | 5, _ => by kernel_rfl
  | 6, _ => by kernel_rfl
  | 7, _ => by kernel_rfl
  | 8, _ => by kernel_rfl
  | 9, _ => by kernel_rfl
  | 10, _ => by kernel_rfl
  | 11, _ => by kernel_rfl
  | 12, _ => by kernel_rfl
  | 13, _ => by kernel_rfl
  | 14, _ => by kernel_rfl
  | 15, _ => by kernel_rfl
  | k + 16, h => absurd h (by omega)
def Cfin (g : Nm → Value) (z : Nat → Option Obj) (d50 d51 : List (List DV)) (ρ : Vn) (v : AV) (h : Hp) : Prop := ∃ k b, I1 d50 d51 k b ∧ (b 7).i = d50.length ∧ ρ = vb b g z ∧ v = .t [.a (kc k), .c (.i .i64 (.ofNat 1)), .c (.b true)] ∧ h = (stCr k).hp
theorem chg_tri (hb : Byt d50) (hl : d50.length ≤ 20) (h50 : (b 50).d = d50) (h51 : (b 51).d = d51) : Tri Tryz.prog N chBody (At w0 N (vb b g z) sC0) fun e a w => e = .ret ∧ ∃ ρ' s' v, retOf chRes s'.frame s'.hp = .ok v s'.hp ∧ Cfin g z d50 d51 ρ' v s'.hp ∧ At w0 N ρ' s' a w := by
  have f0 : ∀ f ∈ fC0, f.holds QR (vb b g z) := facts_cons ⟨Int.natCast_nonneg _, (by show (((b 50).d.length : Nat) : Int) ≤ 20; rw [h50]; omega)⟩ facts_nil
  have hcut : cutA 5 chBody = some (cutL 5 chBody, .seq (.seq chRi (.block (nat_lit 0) (.loop chB))) chRe) := by rw [← chX_eq]; exact chCut
  refine Tri.pre_loop (codeC _ _) (envR_ok f0) hcut runS (ren_nb (by decide)) (Mid := fun a w => ∃ k b, (I1 d50 d51 k b ∧ (b 7).i = d50.length) ∧ At w0 N (vb b g z) (st1x k) a w) ?_ ?_
  · refine ((loop1 (d51 := d51) hb hl).pre fun a w hat => ⟨(0, nb b rS), ?_, hat⟩).post fun e a w h => .inl h
    exact ⟨h50, h51, (by show (((b 50).d.length : Nat) : Int) = _; rw [h50]), (by show (0 : Int) ≤ 0; omega), (by show (0 : Int) ≤ _; omega), rfl, (show (0 : Nat) < 16 by decide),
      ⟨⟨(show (0 : Nat) ≤ 4000 by decide), fun i row hr => (nomatch hr)⟩, (show (0 : Nat) ≤ 900 by decide), rfl, fun h => absurd rfl h, rfl, rfl, Nat.le_refl _, ⟨fun _ => rfl, fun _ => rfl⟩, fun h => absurd rfl h⟩⟩
  · refine Tri.ex fun k => Tri.ex fun b' => Tri.imp fun hk => ?_
    have hr := (Bool.and_eq_true_iff.1 (RU1x k hk.1.k16)).2
    unfold run1r at hr
    have hid : (rcr k).idEx [] = true := (rcr_id k).1
    have hok : (rcr k).ok = true := (rcr_id k).2
    refine (Tri.run (codeM _ _) (envR_ok facts_nil) hr (ren_nb hok)).post fun e a w hq => ⟨hq.1, vb b' g z, stCr k, _, retK k hk.1.k16, ⟨k, b', hk.1, hk.2, rfl, rfl, rfl⟩, ?_⟩
    have := hq.2
    rw [nb_all hid] at this
    exact this
def lc1 : List AOp := (regA lwRC).take (nat_lit 1)
def lc2 : List AOp := (regA lwRC).drop (nat_lit 2)
theorem lwRC_eq : lwRC = .reg (lc1 ++ ⟨some (.x2, .xc), .call ⟨.x0, .x0, .x8⟩ [.t .x2 .xb, .k (.c (.b false))], none⟩ :: lc2) := by kernel_rfl
noncomputable def callL : CallF := callBy (tblM []) (aev Tryz.prog (envR []) (tblM []) (nat_lit 60))
theorem runC1 : endsR [] rPc.nms sPL (aregion Tryz.prog (envR []) callL lc1 sP0.frame sP0.hp) = true := by kernel_rfl
theorem evsC : evs sPL.frame [.t .x2 .xb, .k (.c (.b false))] = some [.c (.ds (.i .u8 .nil) (.v 50)), .c (.b false)] := by kernel_rfl
theorem RUA : ∀ k, k < 16 → endsR (at2 tm k 2) (rA k).nms (stA k) (aregion Tryz.prog (envR []) callL lc2 (setDst (some (.x2, .xc)) (.t [.a (kc k), .c (.i .i64 (.ofNat 1)), .c (.b true)]) sPL.frame) (stCr k).hp) = true
  | 0, _ => by kernel_rfl
  | 1, _ => by kernel_rfl
  | 2, _ => by kernel_rfl
  | 3, _ => by kernel_rfl
  | 4, _ => by kernel_rfl
  | 5, _ => by kernel_rfl
  | 6, _ => by kernel_rfl
  | 7, _ => by kernel_rfl
  | 8, _ => by kernel_rfl
  | 9, _ => by kernel_rfl
  | 10, _ => by kernel_rfl
  | 11, _ => by kernel_rfl
  | 12, _ => by kernel_rfl
  | 13, _ => by kernel_rfl
  | 14, _ => by kernel_rfl
  | 15, _ => by kernel_rfl
  | k + 16, h => absurd h (by omega)
theorem call_tri (hb : Byt d50) (hl : d50.length ≤ 20) (h50 : (b 50).d = d50) (h51 : (b 51).d = d51) : Tri Tryz.prog N lwRC (At w0 N (vb b g z) sP0) fun e a w => e = .normal ∧ ∃ z' k b', (I1 d50 d51 k b' ∧ (b' 7).i = d50.length) ∧ At w0 N (vb b' g z') (stA k) a w := by
  rw [lwRC_eq]
  refine Tri.regcallM (call := callL) (call2 := callL) (E2 := envR []) (callM [] _) (callM [] _) (envR_ok facts_nil) runC1 (ren_nb (by decide)) evsC ?_
  intro φ tmps w us hf hr ho hu
  cases hu with
  | @cons _ v1 _ _ x1 t1 =>
    cases t1 with
    | @cons _ v2 _ _ x2 t2 =>
      cases t2
      have e50 : (nb b rPc 50).d = d50 := h50
      have e51 : (nb b rPc 51).d = d51 := h51
      have y1 : SlD φ.z (.i .u8 .nil) (nb b rPc 50).d v1 := x1
      refine (law_mem (ρ := vb (nb b rPc) g φ.z) (s0 := sC0) (ac := chBody) (res := chRes) (args := [.c (.ds (.i .u8 .nil) (.v 50)), .c (.b false)]) (Fin := Cfin g φ.z d50 d51) Tryz.func8 (by kernel_rfl) ⟨_, rfl, rfl⟩ rfl (.cons y1 (.cons x2 .nil)) w (fun b x hb => (hr.frz.at_ b x hb).1) (chg_tri hb hl e50 e51)).mono ?_
      rintro e w' ⟨u, ρ', φ', v, h', rfl, ⟨k, b', h1, h2, rfl, rfl, rfl⟩, hvu, hr', ho'⟩
      refine ⟨u, rfl, vb b' g φ.z, φ', _, _, envR_ok facts_nil, ?_, hvu, hr', ?_, stA k, _, _, vb b' g φ.z, RUA k h1.k16, ?_, fun a w hat => ⟨rfl, φ.z, k, b', ⟨h1, h2⟩, hat⟩⟩
      · intro i j v hv
        obtain ⟨q1, q2⟩ := hf i j v hv
        refine ⟨q1, ?_⟩
        have hm := frame_get (l := sPL.fr) hv
        have hm' : (i, j, v) ∈ [((.x0, .x0, .c (.ds (.i .u8 .nil) (.v 50))) : D16 × D16 × AV), (.x0, .x1, .c (.ds (.i .u8 .nil) (.v 51))), (.x0, .x4, .c (.b false)), (.x2, .xb, .c (.ds (.i .u8 .nil) (.v 50)))] := hm
        have hz : ∀ b x, φ.z b = some x → φ'.z b = some x := hr'.frz.zin
        have s50 : ∀ x, VV (vb (nb b rPc) g z) φ (.c (.ds (.i .u8 .nil) (.v 50))) x → VV (vb b' g φ.z) φ' (.c (.ds (.i .u8 .nil) (.v 50))) x := fun x hx => by
          have hx' : SlD φ.z (.i .u8 .nil) (nb b rPc 50).d x := hx
          rw [e50, ← h1.f] at hx'
          exact SlG.le hz (RowD.le hz _) hx'
        have s51 : ∀ x, VV (vb (nb b rPc) g z) φ (.c (.ds (.i .u8 .nil) (.v 51))) x → VV (vb b' g φ.z) φ' (.c (.ds (.i .u8 .nil) (.v 51))) x := fun x hx => by
          have hx' : SlD φ.z (.i .u8 .nil) (nb b rPc 51).d x := hx
          rw [e51, ← h1.s] at hx'
          exact SlG.le hz (RowD.le hz _) hx'
        simp only [List.mem_cons, List.not_mem_nil, or_false, Prod.mk.injEq] at hm'
        rcases hm' with ⟨rfl, rfl, rfl⟩ | ⟨rfl, rfl, rfl⟩ | ⟨rfl, rfl, rfl⟩ | ⟨rfl, rfl, rfl⟩
        · exact s50 _ q2
        · exact s51 _ q2
        · exact q2
        · exact s50 _ q2
      · exact ⟨fun b hb => (ho'.old b (Nat.lt_of_lt_of_le hb ho.size)).trans (ho.old b hb), Nat.le_trans ho.size ho'.size, ho'.os.trans ho.os, ho'.tape.trans ho.tape, ho'.output.trans ho.output, fun id x hi hx => Nat.le_trans ho.size (ho'.live id x hi hx)⟩
      · have hid : (rA k).idEx [] = true := (rA_id k).1
        have hok : (rA k).ok = true := (rA_id k).2
        have := ren_nb (b := b') (g := g) (z := φ.z) hok
        rw [nb_all hid] at this
        exact this
structure I3L (d51 : List (List DV)) (w : Nat → Cel) (k n0 : Nat) (H : List Wr) (b : Nat → MV) : Prop extends I3 d51 w k n0 H b where
  ix : (b 7).i = H.length
  ln : (b 8).i = d51.length
  hl : H.length ≤ d51.length
  yl : (b 0).d.length = n0 + H.length
  n20 : n0 ≤ 20
structure I5 (d51 : List (List DV)) (w : Nat → Cel) (k n0 : Nat) (H : List Wr) (b : Nat → MV) : Prop extends I3 d51 w k n0 H b where
  n60 : 0 ≤ (b 6).i
  n6 : (b 6).i + H.length = d51.length
  yl : ((b 0).d.length : Int) = n0 + d51.length + (b 6).i
  n20 : n0 ≤ 20
theorem fL2_ok (h51 : (b 51).d = d51) (hl : d51.length ≤ 20) : ∀ f ∈ fL2, f.holds QR (vb b g z) := facts_cons ⟨Int.natCast_nonneg _, (by show (((b 51).d.length : Nat) : Int) ≤ 20; rw [h51]; omega)⟩ facts_nil
theorem start3 (h : I1 d50 d51 k b) (h7 : (b 7).i = d50.length) (hl : d50.length ≤ 20) (hl2 : d51.length ≤ 20) : ∃ w n0, I3L d51 w k n0 [] (nb b (r2 k)) := by
  have hn := h.n
  cases k with
  | zero =>
    have e0 := h.kb.k0.1 rfl
    refine ⟨fun _ => (false, ⟨#[]⟩), (b 0).d.length, ⟨⟨h.s, (by decide), ⟨h.kb.y, h.kb.n, h.kb.la, fun e => absurd rfl e, h.kb.du, h.kb.q, Nat.le_refl _, h.kb.k0, fun e => absurd rfl e⟩, h.kb.la, fun j x hx => (nomatch hx), ⟨_, Ch.nil, fun i hi => rfl⟩, fun i hi => match i, hi with
      | 0, _ => rfl
      | 1, _ => rfl
      | 2, _ => rfl
      | 3, _ => rfl
      | i + 4, h => absurd h (by omega), rfl, rfl, fun i hi => v0_ok, fun x hx => (nomatch hx)⟩, rfl, (by show (((b 51).d.length : Nat) : Int) = _; rw [h.s]), Nat.zero_le _, rfl, by omega⟩⟩
  | succ k =>
    have hc := h.kb.c (by omega)
    have hpl := h.kb.pl (by omega)
    refine ⟨fun i => if i < 4 then ((b (20 + 2 * i)).b, (b (21 + 2 * i)).s) else (false, ⟨#[]⟩), (b 0).d.length, ⟨⟨h.s, (by have := h.k16; omega), ⟨h.kb.y, h.kb.n, h.kb.la, fun _ => hpl, h.kb.du, h.kb.q, Nat.le_refl _, h.kb.k0, fun _ i hi => match i, hi with
      | 0, _ => hc 0 (by decide)
      | 1, _ => hc 1 (by decide)
      | 2, _ => hc 2 (by decide)
      | 3, _ => hc 3 (by decide)
      | 4, _ => v0_ok
      | 5, _ => v0_ok
      | i + 6, h => absurd h (by omega)⟩, h.kb.la, fun j x hx => (nomatch hx), ⟨_, Ch.nil, fun i hi => match i, hi with
      | 0, _ => rfl
      | 1, _ => rfl
      | 2, _ => rfl
      | 3, _ => rfl
      | 4, _ => rfl
      | 5, _ => rfl
      | i + 6, h => absurd h (by omega)⟩, fun i hi => match i, hi with
      | 0, _ => rfl
      | 1, _ => rfl
      | 2, _ => rfl
      | 3, _ => rfl
      | i + 4, h => absurd h (by omega), rfl, rfl, fun i hi => by rw [if_pos hi]; exact hc i hi, fun x hx => (nomatch hx)⟩, rfl, (by show (((b 51).d.length : Nat) : Int) = _; rw [h.s]), Nat.zero_le _, rfl, by omega⟩⟩
theorem fIn3_ok (h : I3L d51 w k n0 H b) (hl : d51.length ≤ 20) (hlt : (b 7).i < d51.length) : ∀ f ∈ fIn3, f.holds QR (vb b g z) := by
  have h0 := h.ix
  have hn := h.ln
  have hf : (((b 51).d.length : Nat) : Int) = d51.length := by rw [h.s]
  exact facts_cons ⟨(by show (0 : Int) ≤ (b 7).i; omega), (by show (b 7).i ≤ 20; omega)⟩ (facts_cons ⟨(by show (0 : Int) ≤ (b 8).i; omega), (by show (b 8).i ≤ 20; omega)⟩ (facts_cons ⟨(by show (0 : Int) ≤ (((b 51).d.length : Nat) : Int); omega), (by show (((b 51).d.length : Nat) : Int) ≤ 20; omega)⟩
    (facts_cons ⟨(by show (-20 : Int) ≤ (b 7).i - (b 8).i; omega), (by show (b 7).i - (b 8).i ≤ -1; omega)⟩ (facts_cons ⟨(by show (-20 : Int) ≤ (b 7).i - (((b 51).d.length : Nat) : Int); omega), (by show (b 7).i - (((b 51).d.length : Nat) : Int) ≤ -1; omega)⟩ facts_nil))))
theorem fOut3_ok (h : I3L d51 w k n0 H b) (hl : d51.length ≤ 20) (hge : ¬ (b 7).i < d51.length) : ∀ f ∈ fOut3, f.holds QR (vb b g z) := by
  have h0 := h.ix
  have h1 := h.hl
  have hn := h.ln
  have hf : (((b 51).d.length : Nat) : Int) = d51.length := by rw [h.s]
  exact facts_cons ⟨(by show (0 : Int) ≤ (b 7).i; omega), (by show (b 7).i ≤ 20; omega)⟩ (facts_cons ⟨(by show (0 : Int) ≤ (b 8).i; omega), (by show (b 8).i ≤ 20; omega)⟩ (facts_cons ⟨(by show (0 : Int) ≤ (((b 51).d.length : Nat) : Int); omega), (by show (((b 51).d.length : Nat) : Int) ≤ 20; omega)⟩
    (facts_cons ⟨(by show (0 : Int) ≤ (b 7).i - (b 8).i; omega), (by show (b 7).i - (b 8).i ≤ 0; omega)⟩ facts_nil)))
theorem fST_ok (h : I3 d51 w k n0 H b) : ∀ f ∈ fST k, f.holds QR (vb b g z) := by
  have h5 := h.sv
  have hla := h.kb.la
  have hp := h.kb.pn
  have hn := h.kb.n
  cases k with
  | zero =>
    have e0 := h.kb.k0.1 rfl
    exact facts_cons ⟨(by show (0 : Int) ≤ (b 5).i; omega), (by show (b 5).i ≤ 0; omega)⟩ (facts_cons ⟨(by show (-900 : Int) ≤ (b 5).i - (b 2).i; omega), (by show (b 5).i - (b 2).i ≤ 0; omega)⟩ facts_nil)
  | succ k => exact facts_cons ⟨(by show (0 : Int) ≤ (b 5).i; omega), (by show (b 5).i ≤ 900; omega)⟩ (facts_cons ⟨(by show (-900 : Int) ≤ (b 5).i - (b 2).i; omega), (by show (b 5).i - (b 2).i ≤ 0; omega)⟩ facts_nil)
theorem fS0_ok (h : I3 d51 w k n0 H b) (h0 : n0 = 0) : ∀ f ∈ fS0, f.holds QR (vb b g z) := by
  have h5 := h.sv
  have hla := h.kb.la
  have hn := h.kb.n
  exact facts_cons ⟨(by show (0 : Int) ≤ (b 5).i; omega), (by show (b 5).i ≤ 0; omega)⟩ (facts_cons ⟨(by show (-900 : Int) ≤ (b 5).i - (b 2).i; omega), (by show (b 5).i - (b 2).i ≤ 0; omega)⟩ facts_nil)
theorem fS1_ok (h : I3 d51 w k n0 H b) (h0 : 1 ≤ n0) : ∀ f ∈ fS1, f.holds QR (vb b g z) := by
  have h5 := h.sv
  have hla := h.kb.la
  have hp := h.kb.pn
  have hn := h.kb.n
  exact facts_cons ⟨(by show (1 : Int) ≤ (b 5).i; omega), (by show (b 5).i ≤ 900; omega)⟩ (facts_cons ⟨(by show (-900 : Int) ≤ (b 5).i - (b 2).i; omega), (by show (b 5).i - (b 2).i ≤ 0; omega)⟩ facts_nil)
theorem bit_or {k s t : Nat} (h : k.testBit t = true) : (k ||| 2 ^ s).testBit t = true := by rw [Nat.testBit_or, h]; rfl
theorem bit_self {k s : Nat} : (k ||| 2 ^ s).testBit s = true := by rw [Nat.testBit_or, Nat.testBit_two_pow_self, Bool.or_true]
theorem or_ne {k s : Nat} : k ||| 2 ^ s ≠ 0 := fun e => by have := bit_self (k := k) (s := s); rw [e] at this; simp at this
def dZ : ByteArray := ⟨#[122]⟩
theorem dZ_ok : VCell true dZ := ⟨by decide, fun h => (nomatch h)⟩
theorem I3L.next {s : Nat} {b' : Nat → MV} (h : I3L d51 w k n0 H b) (hl : d51.length ≤ 20) (hlt : (b 7).i < d51.length) (hs : s < 6) {ptx pp : Int}
    (hy : (b' 0).d = (b 0).d ++ [enR (((b 0).d.length : Int) + 1) 1 1 ptx pp 0 0 s (pc k b s).1 (pc k b s).2 true dZ]) (hk : KI 6 (k ||| 2 ^ s) (n0 + H.length + 1) b') (h51 : (b' 51).d = (b 51).d) (h8 : (b' 8).i = (b 8).i) (h7 : (b' 7).i = (b 7).i + 1) (h5 : (b' 5).i = (b 5).i)
    (hw : ∀ i, i < 4 → ((b' (60 + 2 * i)).b, (b' (61 + 2 * i)).s) = ((b (60 + 2 * i)).b, (b (61 + 2 * i)).s)) (hc : ∀ i, i < 6 → pc (k ||| 2 ^ s) b' i = updC (pc k b) s (true, dZ) i) : I3L d51 w (k ||| 2 ^ s) n0 (H ++ [(s, pc k b s, (true, dZ))]) b' := by
  have h0 := h.ix
  obtain ⟨c, c1, c2⟩ := h.ch
  have hyl := h.yl
  have e1 : (H ++ [(s, pc k b s, (true, dZ))]).length = H.length + 1 := by simp
  refine ⟨⟨by rw [h51, h.s], or_pow_lt (n := 6) h.k64 hs, by rw [e1]; exact hk, by rw [h5, h.sv], ?_, ?_, fun i hi => by rw [hw i hi, h.ws i hi], h.w4, h.w5, h.wv, ?_⟩, by rw [h7, e1]; omega, by rw [h8, h.ln], by rw [e1]; omega, by rw [hy, List.length_append, e1, hyl]; rfl, h.n20⟩
  · rw [hy]
    exact h.rw.snoc hyl.symm (s, pc k b s, (true, dZ)) ptx pp
  · refine ⟨updC c s (true, dZ), ?_, fun i hi => ?_⟩
    · rw [c2 s hs]; exact c1.snoc s _
    · rw [hc i hi]
      unfold updC
      split
      · rfl
      · exact c2 i hi
  · intro x hx
    rcases List.mem_append.1 hx with hx | hx
    · exact ⟨(h.sl x hx).1, bit_or (h.sl x hx).2⟩
    · rw [List.mem_singleton.1 hx]; exact ⟨hs, bit_self⟩
theorem rd3_0 (h : I3L d51 w k n0 H b) (hl : d51.length ≤ 20) (hlt : (b 7).i < d51.length) {x : Int} (hx : (vb b g z).i (.f2 (100 + 0) (.v 51) (.v 7)) = x) (x0 : 0 ≤ x) (x1 : x ≤ 255) (hs : x.tmod 6 = 0) :
    Tri Tryz.prog N lwB3 (At w0 N (vb b g z) (st3 k)) fun e a w' => e = .normal ∧ ∃ k' H' b', (I3L d51 w k' n0 H' b' ∧ (b' 7).i = (b 7).i + 1) ∧ At w0 N (vb b' g z) (st3 k') a w' := by
  have fg : ∀ f ∈ fg3 0, f.holds QR (vb b g z) := facts_cons (by show (0 : Int) ≤ (vb b g z).i (.f2 3 (.f2 (100 + 0) (.v 51) (.v 7)) (.num 6)) ∧ (vb b g z).i (.f2 3 (.f2 (100 + 0) (.v 51) (.v 7)) (.num 6)) ≤ 0; rw [(vb_std b g z).rem, hx]; show (0 : Int) ≤ x.tmod 6 ∧ x.tmod 6 ≤ 0; omega)
    (facts_cons (by show (0 : Int) ≤ (vb b g z).i (.f2 (100 + 0) (.v 51) (.v 7)) ∧ (vb b g z).i (.f2 (100 + 0) (.v 51) (.v 7)) ≤ 255; rw [hx]; omega) facts_nil)
  have hla := h.kb.la
  have hyl := h.yl
  have h20 := h.n20
  have hhl := h.hl
  cases k with
  | zero =>
    have hr := RU3 _ h.k64 0 (by decide)
    unfold run3 at hr
    have e0 : (b 0).d = [] := List.eq_nil_of_length_eq_zero (h.kb.k0.1 rfl)
    have ez : n0 + H.length = 0 := by rw [← hyl, e0]; rfl
    have hy : (nb b (r3 0 0) 0).d = (b 0).d ++ [enR (((b 0).d.length : Int) + 1) 1 1 (b 2).i 0 0 0 (0 : Nat) false ⟨#[]⟩ true dZ] := by rw [e0]; rfl
    refine (Tri.run (codeM _ _) (envR_ok (facts_app fg (facts_app (fIn3_ok h hl hlt) (facts_app (fST_ok h.toI3) (fb6_ok h.kb))))) hr (ren_nb (by decide))).post fun e a w' hq => ⟨hq.1, 0 ||| 2 ^ 0, _, nb b (r3 0 0), ⟨h.next (s := 0) hl hlt (by decide) hy ?_ rfl rfl rfl rfl (fun i hi => match i, hi with
      | 0, _ => rfl
      | 1, _ => rfl
      | 2, _ => rfl
      | 3, _ => rfl
      | i + 4, h => absurd h (by omega)) ?_, rfl⟩, hq.2⟩
    · exact h.kb.next (by decide) (by omega) rfl ⟨by omega, by omega⟩ v0_ok dZ_ok hy hyl.symm (by rw [h.kb.q, e0, ez]; rfl) (by rw [e0]; rfl) (by rw [e0]; rfl) h.kb.du (fun i hi => match i, hi with
      | 0, _ => dZ_ok
      | 1, _ => v0_ok
      | 2, _ => v0_ok
      | 3, _ => v0_ok
      | 4, _ => v0_ok
      | 5, _ => v0_ok
      | i + 6, h => absurd h (by omega))
    · intro i hi
      exact match i, hi with
      | 0, _ => rfl
      | 1, _ => rfl
      | 2, _ => rfl
      | 3, _ => rfl
      | 4, _ => rfl
      | 5, _ => rfl
      | i + 6, h => absurd h (by omega)
  | succ k =>
    have hr := RU3 _ h.k64 0 (by decide)
    unfold run3 at hr
    have hc := h.kb.c (by omega)
    have hpl := h.kb.pl (by omega)
    have hy : (nb b (r3 (k + 1) 0) 0).d = (b 0).d ++ [enR (((b 0).d.length : Int) + 1) 1 1 (b 2).i (b 3).i 0 0 (0 : Nat) (b 20).b (b 21).s true dZ] := rfl
    refine (Tri.run (codeM _ _) (envR_ok (facts_app fg (facts_app (fIn3_ok h hl hlt) (facts_app (fST_ok h.toI3) (fb6_ok h.kb))))) hr (ren_nb (r := r3_10) (by decide))).post fun e a w' hq => ⟨hq.1, (k + 1) ||| 2 ^ 0, _, nb b (r3 (k + 1) 0), ⟨h.next (s := 0) hl hlt (by decide) hy ?_ rfl rfl rfl rfl (fun i hi => match i, hi with
      | 0, _ => rfl
      | 1, _ => rfl
      | 2, _ => rfl
      | 3, _ => rfl
      | i + 4, h => absurd h (by omega)) ?_, rfl⟩, hq.2⟩
    · exact h.kb.next (by decide) (by omega) rfl ⟨by omega, by omega⟩ (hc 0 (by decide)) dZ_ok hy hyl.symm rfl rfl rfl h.kb.du (fun i hi => match i, hi with
      | 0, _ => dZ_ok
      | 1, _ => hc 1 (by decide)
      | 2, _ => hc 2 (by decide)
      | 3, _ => hc 3 (by decide)
      | 4, _ => hc 4 (by decide)
      | 5, _ => hc 5 (by decide)
      | i + 6, h => absurd h (by omega))
    · intro i hi
      unfold pc
      rw [if_neg or_ne]
      exact match i, hi with
      | 0, _ => rfl
      | 1, _ => rfl
      | 2, _ => rfl
      | 3, _ => rfl
      | 4, _ => rfl
      | 5, _ => rfl
      | i + 6, h => absurd h (by omega)
theorem rd3_1 (h : I3L d51 w k n0 H b) (hl : d51.length ≤ 20) (hlt : (b 7).i < d51.length) {x : Int} (hx : (vb b g z).i (.f2 (100 + 0) (.v 51) (.v 7)) = x) (x0 : 0 ≤ x) (x1 : x ≤ 255) (hs : x.tmod 6 = 1) :
    Tri Tryz.prog N lwB3 (At w0 N (vb b g z) (st3 k)) fun e a w' => e = .normal ∧ ∃ k' H' b', (I3L d51 w k' n0 H' b' ∧ (b' 7).i = (b 7).i + 1) ∧ At w0 N (vb b' g z) (st3 k') a w' := by
  have fg : ∀ f ∈ fg3 1, f.holds QR (vb b g z) := facts_cons (by show (1 : Int) ≤ (vb b g z).i (.f2 3 (.f2 (100 + 0) (.v 51) (.v 7)) (.num 6)) ∧ (vb b g z).i (.f2 3 (.f2 (100 + 0) (.v 51) (.v 7)) (.num 6)) ≤ 1; rw [(vb_std b g z).rem, hx]; show (1 : Int) ≤ x.tmod 6 ∧ x.tmod 6 ≤ 1; omega)
    (facts_cons (by show (0 : Int) ≤ (vb b g z).i (.f2 (100 + 0) (.v 51) (.v 7)) ∧ (vb b g z).i (.f2 (100 + 0) (.v 51) (.v 7)) ≤ 255; rw [hx]; omega) facts_nil)
  have hla := h.kb.la
  have hyl := h.yl
  have h20 := h.n20
  have hhl := h.hl
  cases k with
  | zero =>
    have hr := RU3 _ h.k64 1 (by decide)
    unfold run3 at hr
    have e0 : (b 0).d = [] := List.eq_nil_of_length_eq_zero (h.kb.k0.1 rfl)
    have ez : n0 + H.length = 0 := by rw [← hyl, e0]; rfl
    have hy : (nb b (r3 0 1) 0).d = (b 0).d ++ [enR (((b 0).d.length : Int) + 1) 1 1 (b 2).i 0 0 0 (1 : Nat) false ⟨#[]⟩ true dZ] := by rw [e0]; rfl
    refine (Tri.run (codeM _ _) (envR_ok (facts_app fg (facts_app (fIn3_ok h hl hlt) (facts_app (fST_ok h.toI3) (fb6_ok h.kb))))) hr (ren_nb (by decide))).post fun e a w' hq => ⟨hq.1, 0 ||| 2 ^ 1, _, nb b (r3 0 1), ⟨h.next (s := 1) hl hlt (by decide) hy ?_ rfl rfl rfl rfl (fun i hi => match i, hi with
      | 0, _ => rfl
      | 1, _ => rfl
      | 2, _ => rfl
      | 3, _ => rfl
      | i + 4, h => absurd h (by omega)) ?_, rfl⟩, hq.2⟩
    · exact h.kb.next (by decide) (by omega) rfl ⟨by omega, by omega⟩ v0_ok dZ_ok hy hyl.symm (by rw [h.kb.q, e0, ez]; rfl) (by rw [e0]; rfl) (by rw [e0]; rfl) h.kb.du (fun i hi => match i, hi with
      | 0, _ => v0_ok
      | 1, _ => dZ_ok
      | 2, _ => v0_ok
      | 3, _ => v0_ok
      | 4, _ => v0_ok
      | 5, _ => v0_ok
      | i + 6, h => absurd h (by omega))
    · intro i hi
      exact match i, hi with
      | 0, _ => rfl
      | 1, _ => rfl
      | 2, _ => rfl
      | 3, _ => rfl
      | 4, _ => rfl
      | 5, _ => rfl
      | i + 6, h => absurd h (by omega)
  | succ k =>
    have hr := RU3 _ h.k64 1 (by decide)
    unfold run3 at hr
    have hc := h.kb.c (by omega)
    have hpl := h.kb.pl (by omega)
    have hy : (nb b (r3 (k + 1) 1) 0).d = (b 0).d ++ [enR (((b 0).d.length : Int) + 1) 1 1 (b 2).i (b 3).i 0 0 (1 : Nat) (b 22).b (b 23).s true dZ] := rfl
    refine (Tri.run (codeM _ _) (envR_ok (facts_app fg (facts_app (fIn3_ok h hl hlt) (facts_app (fST_ok h.toI3) (fb6_ok h.kb))))) hr (ren_nb (r := r3_11) (by decide))).post fun e a w' hq => ⟨hq.1, (k + 1) ||| 2 ^ 1, _, nb b (r3 (k + 1) 1), ⟨h.next (s := 1) hl hlt (by decide) hy ?_ rfl rfl rfl rfl (fun i hi => match i, hi with
      | 0, _ => rfl
      | 1, _ => rfl
      | 2, _ => rfl
      | 3, _ => rfl
      | i + 4, h => absurd h (by omega)) ?_, rfl⟩, hq.2⟩
    · exact h.kb.next (by decide) (by omega) rfl ⟨by omega, by omega⟩ (hc 1 (by decide)) dZ_ok hy hyl.symm rfl rfl rfl h.kb.du (fun i hi => match i, hi with
      | 0, _ => hc 0 (by decide)
      | 1, _ => dZ_ok
      | 2, _ => hc 2 (by decide)
      | 3, _ => hc 3 (by decide)
      | 4, _ => hc 4 (by decide)
      | 5, _ => hc 5 (by decide)
      | i + 6, h => absurd h (by omega))
    · intro i hi
      unfold pc
      rw [if_neg or_ne]
      exact match i, hi with
      | 0, _ => rfl
      | 1, _ => rfl
      | 2, _ => rfl
      | 3, _ => rfl
      | 4, _ => rfl
      | 5, _ => rfl
      | i + 6, h => absurd h (by omega)
theorem rd3_2 (h : I3L d51 w k n0 H b) (hl : d51.length ≤ 20) (hlt : (b 7).i < d51.length) {x : Int} (hx : (vb b g z).i (.f2 (100 + 0) (.v 51) (.v 7)) = x) (x0 : 0 ≤ x) (x1 : x ≤ 255) (hs : x.tmod 6 = 2) :
    Tri Tryz.prog N lwB3 (At w0 N (vb b g z) (st3 k)) fun e a w' => e = .normal ∧ ∃ k' H' b', (I3L d51 w k' n0 H' b' ∧ (b' 7).i = (b 7).i + 1) ∧ At w0 N (vb b' g z) (st3 k') a w' := by
  have fg : ∀ f ∈ fg3 2, f.holds QR (vb b g z) := facts_cons (by show (2 : Int) ≤ (vb b g z).i (.f2 3 (.f2 (100 + 0) (.v 51) (.v 7)) (.num 6)) ∧ (vb b g z).i (.f2 3 (.f2 (100 + 0) (.v 51) (.v 7)) (.num 6)) ≤ 2; rw [(vb_std b g z).rem, hx]; show (2 : Int) ≤ x.tmod 6 ∧ x.tmod 6 ≤ 2; omega)
    (facts_cons (by show (0 : Int) ≤ (vb b g z).i (.f2 (100 + 0) (.v 51) (.v 7)) ∧ (vb b g z).i (.f2 (100 + 0) (.v 51) (.v 7)) ≤ 255; rw [hx]; omega) facts_nil)
  have hla := h.kb.la
  have hyl := h.yl
  have h20 := h.n20
  have hhl := h.hl
  cases k with
  | zero =>
    have hr := RU3 _ h.k64 2 (by decide)
    unfold run3 at hr
    have e0 : (b 0).d = [] := List.eq_nil_of_length_eq_zero (h.kb.k0.1 rfl)
    have ez : n0 + H.length = 0 := by rw [← hyl, e0]; rfl
    have hy : (nb b (r3 0 2) 0).d = (b 0).d ++ [enR (((b 0).d.length : Int) + 1) 1 1 (b 2).i 0 0 0 (2 : Nat) false ⟨#[]⟩ true dZ] := by rw [e0]; rfl
    refine (Tri.run (codeM _ _) (envR_ok (facts_app fg (facts_app (fIn3_ok h hl hlt) (facts_app (fST_ok h.toI3) (fb6_ok h.kb))))) hr (ren_nb (by decide))).post fun e a w' hq => ⟨hq.1, 0 ||| 2 ^ 2, _, nb b (r3 0 2), ⟨h.next (s := 2) hl hlt (by decide) hy ?_ rfl rfl rfl rfl (fun i hi => match i, hi with
      | 0, _ => rfl
      | 1, _ => rfl
      | 2, _ => rfl
      | 3, _ => rfl
      | i + 4, h => absurd h (by omega)) ?_, rfl⟩, hq.2⟩
    · exact h.kb.next (by decide) (by omega) rfl ⟨by omega, by omega⟩ v0_ok dZ_ok hy hyl.symm (by rw [h.kb.q, e0, ez]; rfl) (by rw [e0]; rfl) (by rw [e0]; rfl) h.kb.du (fun i hi => match i, hi with
      | 0, _ => v0_ok
      | 1, _ => v0_ok
      | 2, _ => dZ_ok
      | 3, _ => v0_ok
      | 4, _ => v0_ok
      | 5, _ => v0_ok
      | i + 6, h => absurd h (by omega))
    · intro i hi
      exact match i, hi with
      | 0, _ => rfl
      | 1, _ => rfl
      | 2, _ => rfl
      | 3, _ => rfl
      | 4, _ => rfl
      | 5, _ => rfl
      | i + 6, h => absurd h (by omega)
  | succ k =>
    have hr := RU3 _ h.k64 2 (by decide)
    unfold run3 at hr
    have hc := h.kb.c (by omega)
    have hpl := h.kb.pl (by omega)
    have hy : (nb b (r3 (k + 1) 2) 0).d = (b 0).d ++ [enR (((b 0).d.length : Int) + 1) 1 1 (b 2).i (b 3).i 0 0 (2 : Nat) (b 24).b (b 25).s true dZ] := rfl
    refine (Tri.run (codeM _ _) (envR_ok (facts_app fg (facts_app (fIn3_ok h hl hlt) (facts_app (fST_ok h.toI3) (fb6_ok h.kb))))) hr (ren_nb (r := r3_12) (by decide))).post fun e a w' hq => ⟨hq.1, (k + 1) ||| 2 ^ 2, _, nb b (r3 (k + 1) 2), ⟨h.next (s := 2) hl hlt (by decide) hy ?_ rfl rfl rfl rfl (fun i hi => match i, hi with
      | 0, _ => rfl
      | 1, _ => rfl
      | 2, _ => rfl
      | 3, _ => rfl
      | i + 4, h => absurd h (by omega)) ?_, rfl⟩, hq.2⟩
    · exact h.kb.next (by decide) (by omega) rfl ⟨by omega, by omega⟩ (hc 2 (by decide)) dZ_ok hy hyl.symm rfl rfl rfl h.kb.du (fun i hi => match i, hi with
      | 0, _ => hc 0 (by decide)
      | 1, _ => hc 1 (by decide)
      | 2, _ => dZ_ok
      | 3, _ => hc 3 (by decide)
      | 4, _ => hc 4 (by decide)
      | 5, _ => hc 5 (by decide)
      | i + 6, h => absurd h (by omega))
    · intro i hi
      unfold pc
      rw [if_neg or_ne]
      exact match i, hi with
      | 0, _ => rfl
      | 1, _ => rfl
      | 2, _ => rfl
      | 3, _ => rfl
      | 4, _ => rfl
      | 5, _ => rfl
      | i + 6, h => absurd h (by omega)
theorem rd3_3 (h : I3L d51 w k n0 H b) (hl : d51.length ≤ 20) (hlt : (b 7).i < d51.length) {x : Int} (hx : (vb b g z).i (.f2 (100 + 0) (.v 51) (.v 7)) = x) (x0 : 0 ≤ x) (x1 : x ≤ 255) (hs : x.tmod 6 = 3) :
    Tri Tryz.prog N lwB3 (At w0 N (vb b g z) (st3 k)) fun e a w' => e = .normal ∧ ∃ k' H' b', (I3L d51 w k' n0 H' b' ∧ (b' 7).i = (b 7).i + 1) ∧ At w0 N (vb b' g z) (st3 k') a w' := by
  have fg : ∀ f ∈ fg3 3, f.holds QR (vb b g z) := facts_cons (by show (3 : Int) ≤ (vb b g z).i (.f2 3 (.f2 (100 + 0) (.v 51) (.v 7)) (.num 6)) ∧ (vb b g z).i (.f2 3 (.f2 (100 + 0) (.v 51) (.v 7)) (.num 6)) ≤ 3; rw [(vb_std b g z).rem, hx]; show (3 : Int) ≤ x.tmod 6 ∧ x.tmod 6 ≤ 3; omega)
    (facts_cons (by show (0 : Int) ≤ (vb b g z).i (.f2 (100 + 0) (.v 51) (.v 7)) ∧ (vb b g z).i (.f2 (100 + 0) (.v 51) (.v 7)) ≤ 255; rw [hx]; omega) facts_nil)
  have hla := h.kb.la
  have hyl := h.yl
  have h20 := h.n20
  have hhl := h.hl
  cases k with
  | zero =>
    have hr := RU3 _ h.k64 3 (by decide)
    unfold run3 at hr
    have e0 : (b 0).d = [] := List.eq_nil_of_length_eq_zero (h.kb.k0.1 rfl)
    have ez : n0 + H.length = 0 := by rw [← hyl, e0]; rfl
    have hy : (nb b (r3 0 3) 0).d = (b 0).d ++ [enR (((b 0).d.length : Int) + 1) 1 1 (b 2).i 0 0 0 (3 : Nat) false ⟨#[]⟩ true dZ] := by rw [e0]; rfl
    refine (Tri.run (codeM _ _) (envR_ok (facts_app fg (facts_app (fIn3_ok h hl hlt) (facts_app (fST_ok h.toI3) (fb6_ok h.kb))))) hr (ren_nb (by decide))).post fun e a w' hq => ⟨hq.1, 0 ||| 2 ^ 3, _, nb b (r3 0 3), ⟨h.next (s := 3) hl hlt (by decide) hy ?_ rfl rfl rfl rfl (fun i hi => match i, hi with
      | 0, _ => rfl
      | 1, _ => rfl
      | 2, _ => rfl
      | 3, _ => rfl
      | i + 4, h => absurd h (by omega)) ?_, rfl⟩, hq.2⟩
    · exact h.kb.next (by decide) (by omega) rfl ⟨by omega, by omega⟩ v0_ok dZ_ok hy hyl.symm (by rw [h.kb.q, e0, ez]; rfl) (by rw [e0]; rfl) (by rw [e0]; rfl) h.kb.du (fun i hi => match i, hi with
      | 0, _ => v0_ok
      | 1, _ => v0_ok
      | 2, _ => v0_ok
      | 3, _ => dZ_ok
      | 4, _ => v0_ok
      | 5, _ => v0_ok
      | i + 6, h => absurd h (by omega))
    · intro i hi
      exact match i, hi with
      | 0, _ => rfl
      | 1, _ => rfl
      | 2, _ => rfl
      | 3, _ => rfl
      | 4, _ => rfl
      | 5, _ => rfl
      | i + 6, h => absurd h (by omega)
  | succ k =>
    have hr := RU3 _ h.k64 3 (by decide)
    unfold run3 at hr
    have hc := h.kb.c (by omega)
    have hpl := h.kb.pl (by omega)
    have hy : (nb b (r3 (k + 1) 3) 0).d = (b 0).d ++ [enR (((b 0).d.length : Int) + 1) 1 1 (b 2).i (b 3).i 0 0 (3 : Nat) (b 26).b (b 27).s true dZ] := rfl
    refine (Tri.run (codeM _ _) (envR_ok (facts_app fg (facts_app (fIn3_ok h hl hlt) (facts_app (fST_ok h.toI3) (fb6_ok h.kb))))) hr (ren_nb (r := r3_13) (by decide))).post fun e a w' hq => ⟨hq.1, (k + 1) ||| 2 ^ 3, _, nb b (r3 (k + 1) 3), ⟨h.next (s := 3) hl hlt (by decide) hy ?_ rfl rfl rfl rfl (fun i hi => match i, hi with
      | 0, _ => rfl
      | 1, _ => rfl
      | 2, _ => rfl
      | 3, _ => rfl
      | i + 4, h => absurd h (by omega)) ?_, rfl⟩, hq.2⟩
    · exact h.kb.next (by decide) (by omega) rfl ⟨by omega, by omega⟩ (hc 3 (by decide)) dZ_ok hy hyl.symm rfl rfl rfl h.kb.du (fun i hi => match i, hi with
      | 0, _ => hc 0 (by decide)
      | 1, _ => hc 1 (by decide)
      | 2, _ => hc 2 (by decide)
      | 3, _ => dZ_ok
      | 4, _ => hc 4 (by decide)
      | 5, _ => hc 5 (by decide)
      | i + 6, h => absurd h (by omega))
    · intro i hi
      unfold pc
      rw [if_neg or_ne]
      exact match i, hi with
      | 0, _ => rfl
      | 1, _ => rfl
      | 2, _ => rfl
      | 3, _ => rfl
      | 4, _ => rfl
      | 5, _ => rfl
      | i + 6, h => absurd h (by omega)
theorem rd3_4 (h : I3L d51 w k n0 H b) (hl : d51.length ≤ 20) (hlt : (b 7).i < d51.length) {x : Int} (hx : (vb b g z).i (.f2 (100 + 0) (.v 51) (.v 7)) = x) (x0 : 0 ≤ x) (x1 : x ≤ 255) (hs : x.tmod 6 = 4) :
    Tri Tryz.prog N lwB3 (At w0 N (vb b g z) (st3 k)) fun e a w' => e = .normal ∧ ∃ k' H' b', (I3L d51 w k' n0 H' b' ∧ (b' 7).i = (b 7).i + 1) ∧ At w0 N (vb b' g z) (st3 k') a w' := by
  have fg : ∀ f ∈ fg3 4, f.holds QR (vb b g z) := facts_cons (by show (4 : Int) ≤ (vb b g z).i (.f2 3 (.f2 (100 + 0) (.v 51) (.v 7)) (.num 6)) ∧ (vb b g z).i (.f2 3 (.f2 (100 + 0) (.v 51) (.v 7)) (.num 6)) ≤ 4; rw [(vb_std b g z).rem, hx]; show (4 : Int) ≤ x.tmod 6 ∧ x.tmod 6 ≤ 4; omega)
    (facts_cons (by show (0 : Int) ≤ (vb b g z).i (.f2 (100 + 0) (.v 51) (.v 7)) ∧ (vb b g z).i (.f2 (100 + 0) (.v 51) (.v 7)) ≤ 255; rw [hx]; omega) facts_nil)
  have hla := h.kb.la
  have hyl := h.yl
  have h20 := h.n20
  have hhl := h.hl
  cases k with
  | zero =>
    have hr := RU3 _ h.k64 4 (by decide)
    unfold run3 at hr
    have e0 : (b 0).d = [] := List.eq_nil_of_length_eq_zero (h.kb.k0.1 rfl)
    have ez : n0 + H.length = 0 := by rw [← hyl, e0]; rfl
    have hy : (nb b (r3 0 4) 0).d = (b 0).d ++ [enR (((b 0).d.length : Int) + 1) 1 1 (b 2).i 0 0 0 (4 : Nat) false ⟨#[]⟩ true dZ] := by rw [e0]; rfl
    refine (Tri.run (codeM _ _) (envR_ok (facts_app fg (facts_app (fIn3_ok h hl hlt) (facts_app (fST_ok h.toI3) (fb6_ok h.kb))))) hr (ren_nb (by decide))).post fun e a w' hq => ⟨hq.1, 0 ||| 2 ^ 4, _, nb b (r3 0 4), ⟨h.next (s := 4) hl hlt (by decide) hy ?_ rfl rfl rfl rfl (fun i hi => match i, hi with
      | 0, _ => rfl
      | 1, _ => rfl
      | 2, _ => rfl
      | 3, _ => rfl
      | i + 4, h => absurd h (by omega)) ?_, rfl⟩, hq.2⟩
    · exact h.kb.next (by decide) (by omega) rfl ⟨by omega, by omega⟩ v0_ok dZ_ok hy hyl.symm (by rw [h.kb.q, e0, ez]; rfl) (by rw [e0]; rfl) (by rw [e0]; rfl) h.kb.du (fun i hi => match i, hi with
      | 0, _ => v0_ok
      | 1, _ => v0_ok
      | 2, _ => v0_ok
      | 3, _ => v0_ok
      | 4, _ => dZ_ok
      | 5, _ => v0_ok
      | i + 6, h => absurd h (by omega))
    · intro i hi
      exact match i, hi with
      | 0, _ => rfl
      | 1, _ => rfl
      | 2, _ => rfl
      | 3, _ => rfl
      | 4, _ => rfl
      | 5, _ => rfl
      | i + 6, h => absurd h (by omega)
  | succ k =>
    have hr := RU3 _ h.k64 4 (by decide)
    unfold run3 at hr
    have hc := h.kb.c (by omega)
    have hpl := h.kb.pl (by omega)
    have hy : (nb b (r3 (k + 1) 4) 0).d = (b 0).d ++ [enR (((b 0).d.length : Int) + 1) 1 1 (b 2).i (b 3).i 0 0 (4 : Nat) (b 28).b (b 29).s true dZ] := rfl
    refine (Tri.run (codeM _ _) (envR_ok (facts_app fg (facts_app (fIn3_ok h hl hlt) (facts_app (fST_ok h.toI3) (fb6_ok h.kb))))) hr (ren_nb (r := r3_14) (by decide))).post fun e a w' hq => ⟨hq.1, (k + 1) ||| 2 ^ 4, _, nb b (r3 (k + 1) 4), ⟨h.next (s := 4) hl hlt (by decide) hy ?_ rfl rfl rfl rfl (fun i hi => match i, hi with
      | 0, _ => rfl
      | 1, _ => rfl
      | 2, _ => rfl
      | 3, _ => rfl
      | i + 4, h => absurd h (by omega)) ?_, rfl⟩, hq.2⟩
    · exact h.kb.next (by decide) (by omega) rfl ⟨by omega, by omega⟩ (hc 4 (by decide)) dZ_ok hy hyl.symm rfl rfl rfl h.kb.du (fun i hi => match i, hi with
      | 0, _ => hc 0 (by decide)
      | 1, _ => hc 1 (by decide)
      | 2, _ => hc 2 (by decide)
      | 3, _ => hc 3 (by decide)
      | 4, _ => dZ_ok
      | 5, _ => hc 5 (by decide)
      | i + 6, h => absurd h (by omega))
    · intro i hi
      unfold pc
      rw [if_neg or_ne]
      exact match i, hi with
      | 0, _ => rfl
      | 1, _ => rfl
      | 2, _ => rfl
      | 3, _ => rfl
      | 4, _ => rfl
      | 5, _ => rfl
      | i + 6, h => absurd h (by omega)
theorem rd3_5 (h : I3L d51 w k n0 H b) (hl : d51.length ≤ 20) (hlt : (b 7).i < d51.length) {x : Int} (hx : (vb b g z).i (.f2 (100 + 0) (.v 51) (.v 7)) = x) (x0 : 0 ≤ x) (x1 : x ≤ 255) (hs : x.tmod 6 = 5) :
    Tri Tryz.prog N lwB3 (At w0 N (vb b g z) (st3 k)) fun e a w' => e = .normal ∧ ∃ k' H' b', (I3L d51 w k' n0 H' b' ∧ (b' 7).i = (b 7).i + 1) ∧ At w0 N (vb b' g z) (st3 k') a w' := by
  have fg : ∀ f ∈ fg3 5, f.holds QR (vb b g z) := facts_cons (by show (5 : Int) ≤ (vb b g z).i (.f2 3 (.f2 (100 + 0) (.v 51) (.v 7)) (.num 6)) ∧ (vb b g z).i (.f2 3 (.f2 (100 + 0) (.v 51) (.v 7)) (.num 6)) ≤ 5; rw [(vb_std b g z).rem, hx]; show (5 : Int) ≤ x.tmod 6 ∧ x.tmod 6 ≤ 5; omega)
    (facts_cons (by show (0 : Int) ≤ (vb b g z).i (.f2 (100 + 0) (.v 51) (.v 7)) ∧ (vb b g z).i (.f2 (100 + 0) (.v 51) (.v 7)) ≤ 255; rw [hx]; omega) facts_nil)
  have hla := h.kb.la
  have hyl := h.yl
  have h20 := h.n20
  have hhl := h.hl
  cases k with
  | zero =>
    have hr := RU3 _ h.k64 5 (by decide)
    unfold run3 at hr
    have e0 : (b 0).d = [] := List.eq_nil_of_length_eq_zero (h.kb.k0.1 rfl)
    have ez : n0 + H.length = 0 := by rw [← hyl, e0]; rfl
    have hy : (nb b (r3 0 5) 0).d = (b 0).d ++ [enR (((b 0).d.length : Int) + 1) 1 1 (b 2).i 0 0 0 (5 : Nat) false ⟨#[]⟩ true dZ] := by rw [e0]; rfl
    refine (Tri.run (codeM _ _) (envR_ok (facts_app fg (facts_app (fIn3_ok h hl hlt) (facts_app (fST_ok h.toI3) (fb6_ok h.kb))))) hr (ren_nb (by decide))).post fun e a w' hq => ⟨hq.1, 0 ||| 2 ^ 5, _, nb b (r3 0 5), ⟨h.next (s := 5) hl hlt (by decide) hy ?_ rfl rfl rfl rfl (fun i hi => match i, hi with
      | 0, _ => rfl
      | 1, _ => rfl
      | 2, _ => rfl
      | 3, _ => rfl
      | i + 4, h => absurd h (by omega)) ?_, rfl⟩, hq.2⟩
    · exact h.kb.next (by decide) (by omega) rfl ⟨by omega, by omega⟩ v0_ok dZ_ok hy hyl.symm (by rw [h.kb.q, e0, ez]; rfl) (by rw [e0]; rfl) (by rw [e0]; rfl) h.kb.du (fun i hi => match i, hi with
      | 0, _ => v0_ok
      | 1, _ => v0_ok
      | 2, _ => v0_ok
      | 3, _ => v0_ok
      | 4, _ => v0_ok
      | 5, _ => dZ_ok
      | i + 6, h => absurd h (by omega))
    · intro i hi
      exact match i, hi with
      | 0, _ => rfl
      | 1, _ => rfl
      | 2, _ => rfl
      | 3, _ => rfl
      | 4, _ => rfl
      | 5, _ => rfl
      | i + 6, h => absurd h (by omega)
  | succ k =>
    have hr := RU3 _ h.k64 5 (by decide)
    unfold run3 at hr
    have hc := h.kb.c (by omega)
    have hpl := h.kb.pl (by omega)
    have hy : (nb b (r3 (k + 1) 5) 0).d = (b 0).d ++ [enR (((b 0).d.length : Int) + 1) 1 1 (b 2).i (b 3).i 0 0 (5 : Nat) (b 30).b (b 31).s true dZ] := rfl
    refine (Tri.run (codeM _ _) (envR_ok (facts_app fg (facts_app (fIn3_ok h hl hlt) (facts_app (fST_ok h.toI3) (fb6_ok h.kb))))) hr (ren_nb (r := r3_15) (by decide))).post fun e a w' hq => ⟨hq.1, (k + 1) ||| 2 ^ 5, _, nb b (r3 (k + 1) 5), ⟨h.next (s := 5) hl hlt (by decide) hy ?_ rfl rfl rfl rfl (fun i hi => match i, hi with
      | 0, _ => rfl
      | 1, _ => rfl
      | 2, _ => rfl
      | 3, _ => rfl
      | i + 4, h => absurd h (by omega)) ?_, rfl⟩, hq.2⟩
    · exact h.kb.next (by decide) (by omega) rfl ⟨by omega, by omega⟩ (hc 5 (by decide)) dZ_ok hy hyl.symm rfl rfl rfl h.kb.du (fun i hi => match i, hi with
      | 0, _ => hc 0 (by decide)
      | 1, _ => hc 1 (by decide)
      | 2, _ => hc 2 (by decide)
      | 3, _ => hc 3 (by decide)
      | 4, _ => hc 4 (by decide)
      | 5, _ => dZ_ok
      | i + 6, h => absurd h (by omega))
    · intro i hi
      unfold pc
      rw [if_neg or_ne]
      exact match i, hi with
      | 0, _ => rfl
      | 1, _ => rfl
      | 2, _ => rfl
      | 3, _ => rfl
      | 4, _ => rfl
      | 5, _ => rfl
      | i + 6, h => absurd h (by omega)
theorem round3 (h : I3L d51 w k n0 H b) (hb : Byt d51) (hl : d51.length ≤ 20) (hlt : (b 7).i < d51.length) : Tri Tryz.prog N lwB3 (At w0 N (vb b g z) (st3 k)) fun e a w' => e = .normal ∧ ∃ k' H' b', (I3L d51 w k' n0 H' b' ∧ (b' 7).i = (b 7).i + 1) ∧ At w0 N (vb b' g z) (st3 k') a w' := by
  have h0 := h.ix
  obtain ⟨i, hi⟩ := Int.eq_ofNat_of_zero_le (a := (b 7).i) (by omega)
  obtain ⟨row, hrow⟩ := list_cases (d := d51) (i := i) (by omega)
  obtain ⟨x, rfl, x0, x1⟩ := hb i row hrow
  have hy : ((vb b g z).d (.v 51))[i]? = some [DV.i x] := (congrArg (fun x : List (List DV) => x[i]?) h.s).trans hrow
  have hx : (vb b g z).i (.f2 (100 + 0) (.v 51) (.v 7)) = x := ci_row hy (show (vb b g z).i (.v 7) = i from hi) 0 (by decide) rfl
  rcases tmod_cases6 x0 with hs | hs | hs | hs | hs | hs
  · exact rd3_0 h hl hlt hx x0 x1 hs
  · exact rd3_1 h hl hlt hx x0 x1 hs
  · exact rd3_2 h hl hlt hx x0 x1 hs
  · exact rd3_3 h hl hlt hx x0 x1 hs
  · exact rd3_4 h hl hlt hx x0 x1 hs
  · exact rd3_5 h hl hlt hx x0 x1 hs
theorem loop3 (hb : Byt d51) (hl : d51.length ≤ 20) : Tri Tryz.prog N (.block 0 (.loop lwB3)) (fun a w' => ∃ j : Nat × List Wr × (Nat → MV), I3L d51 w j.1 n0 j.2.1 j.2.2 ∧ At w0 N (vb j.2.2 g z) (st3 j.1) a w') fun e a w' => e = .normal ∧ ∃ k H b, (I3L d51 w k n0 H b ∧ H.length = d51.length) ∧ At w0 N (vb b g z) (st4 k) a w' := by
  refine Tri.block ?_
  refine (Tri.loop (Post := fun e a w' => e = .exit 0 ∧ ∃ k H b, (I3L d51 w k n0 H b ∧ H.length = d51.length) ∧ At w0 N (vb b g z) (st4 k) a w') (fun j : Nat × List Wr × (Nat → MV) => d51.length - (j.2.2 7).i.toNat) (fun j a w' => I3L d51 w j.1 n0 j.2.1 j.2.2 ∧ At w0 N (vb j.2.2 g z) (st3 j.1) a w') fun j => Tri.imp fun hj => ?_).post fun e a w' h => .inl ⟨.inr h.1, rfl, h.2⟩
  obtain ⟨k, H, b⟩ := j
  have hj : I3L d51 w k n0 H b := hj
  have h0 := hj.ix
  have h1 := hj.hl
  by_cases hlt : (b 7).i < d51.length
  · refine (round3 hj hb hl hlt).post fun e a w' hq => .inl ⟨hq.1, ?_⟩
    obtain ⟨_, k', H', b', ⟨h1, h2⟩, h3⟩ := hq
    exact ⟨(k', H', b'), (by show d51.length - (b' 7).i.toNat < d51.length - (b 7).i.toNat; rw [h2]; omega), h1, h3⟩
  · have hr := (Bool.and_eq_true_iff.1 (RU3x k hj.k64)).1
    unfold run3x at hr
    have hid : (rx3 k).idEx [] = true := (rx3_id k).1
    have hok : (rx3 k).ok = true := (rx3_id k).2
    refine (Tri.run (codeM _ _) (envR_ok (fOut3_ok hj hl hlt)) hr (ren_nb hok)).post fun e a w' hq => .inr ⟨by rw [hq.1]; exact fun h => (nomatch h), hq.1, k, H, b, ⟨hj, by omega⟩, ?_⟩
    have := hq.2
    rw [nb_all hid] at this
    exact this
end
end Go.Proofs.YtnofmmceafkkoaaGreat
