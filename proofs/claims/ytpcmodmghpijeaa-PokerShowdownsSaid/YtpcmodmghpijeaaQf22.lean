-- Printed by a program of this session (a turned print): out of the translation, for Lean to check.
import Derived.Test.YtpcmodmghpijeaaQ0
namespace Go.Proofs.Ytpcmodmghpijeaa.Q
open Go.RowKit Go.Proofs.YtpcmodmghpijeaaW.PrintWords Go.Proofs.YtpcmodmghpijeaaW.PrintLast Go.Proofs.YtpcmodmghpijeaaW.PrintMore
attribute [local go_sem] max2_int min2_int max_two min_two max_three min_three max_four min_four   -- for this text's walks alone
set_option linter.unusedVariables false
set_option linter.unusedSimpArgs false

/-! ### gameroomref_HandValue: function 22 -/
mutual
def gameroomref_HandValue.l0 : Nat → List Int → List Int → Bool → Int → Option (Int)
  | 0, _, _, _, _ => none
  | k + 1, x0, x3, x4, x5 => if x5 < 5 then (if 0 ≤ x5 then (if x5 < (x0.length : Int) then (if 0 ≤ (wrap64 (Int.tdiv (rd x0 x5) 4)) then (if (wrap64 (Int.tdiv (rd x0 x5) 4)) < (x3.length : Int) then ((some (x3.set ((wrap64 (Int.tdiv (rd x0 x5) 4)) : Int).toNat (wrap64 ((rd x3 (wrap64 (Int.tdiv (rd x0 x5) 4))) + 1)) : List Int)).bind fun y119 => (if x4 = true then (if 0 < (x0.length : Int) then (gameroomref_HandValue.l0 k x0 y119 ((Int.tmod (rd x0 x5) 4) == (Int.tmod (rd x0 0) 4)) (wrap64 (x5 + 1))) else (none)) else (gameroomref_HandValue.l0 k x0 y119 false (wrap64 (x5 + 1))))) else (none)) else (none)) else (none)) else (none)) else (gameroomref_HandValue.l1 k x3 x4 ([] : List Int) 4)
def gameroomref_HandValue.l1 : Nat → List Int → Bool → List Int → Int → Option (Int)
  | 0, _, _, _, _ => none
  | k + 1, x3, x4, x6, x7 => if x7 > 0 then (gameroomref_HandValue.l2 k x3 x4 x6 x7 12) else (gameroomref_HandValue.l3 k x3 x4 x6 (-1) 3)
def gameroomref_HandValue.l2 : Nat → List Int → Bool → List Int → Int → Int → Option (Int)
  | 0, _, _, _, _, _ => none
  | k + 1, x3, x4, x6, x7, x8 => if x8 ≥ 0 then (if 0 ≤ x8 then (if x8 < (x3.length : Int) then (if (rd x3 x8) = x7 then (if x6.length < 17592186044416 then (gameroomref_HandValue.l2 k x3 x4 (x6 ++ [x8]) x7 (wrap64 (x8 - 1))) else (none)) else (gameroomref_HandValue.l2 k x3 x4 x6 x7 (wrap64 (x8 - 1)))) else (none)) else (none)) else (gameroomref_HandValue.l1 k x3 x4 x6 (wrap64 (x7 - 1)))
def gameroomref_HandValue.l3 : Nat → List Int → Bool → List Int → Int → Int → Option (Int)
  | 0, _, _, _, _, _ => none
  | k + 1, x3, x4, x6, x9, x10 => if x10 < 13 then (gameroomref_HandValue.l4 k x3 x4 x6 x9 x10 true 0) else (if x9 ≥ 0 then (gameroomref_HandValue.j5 k x3 x4 x6 x9 0 x4) else (gameroomref_HandValue.j5 k x3 x4 x6 x9 0 false))
def gameroomref_HandValue.l4 : Nat → List Int → Bool → List Int → Int → Int → Bool → Int → Option (Int)
  | 0, _, _, _, _, _, _, _ => none
  | k + 1, x3, x4, x6, x9, x10, x11, x12 => if x12 < 5 then (if x11 = true then (if 0 ≤ (Int.tmod (wrap64 ((wrap64 (x10 - x12)) + 13)) 13) then (if (Int.tmod (wrap64 ((wrap64 (x10 - x12)) + 13)) 13) < (x3.length : Int) then (gameroomref_HandValue.l4 k x3 x4 x6 x9 x10 ((rd x3 (Int.tmod (wrap64 ((wrap64 (x10 - x12)) + 13)) 13)) == 1) (wrap64 (x12 + 1))) else (none)) else (none)) else (gameroomref_HandValue.l4 k x3 x4 x6 x9 x10 false (wrap64 (x12 + 1)))) else (if x11 = true then (gameroomref_HandValue.l3 k x3 x4 x6 x10 (wrap64 (x10 + 1))) else (gameroomref_HandValue.l3 k x3 x4 x6 x9 (wrap64 (x10 + 1))))
def gameroomref_HandValue.j5 : Nat → List Int → Bool → List Int → Int → Int → Bool → Option (Int)
  | 0, _, _, _, _, _, _ => none
  | k + 1, x3, x4, x6, x9, x13, x88 => if x88 = true then (gameroomref_HandValue.j8 k x6 x9 8) else (if 0 < (x6.length : Int) then (if 0 ≤ (rd x6 0) then (if (rd x6 0) < (x3.length : Int) then (if (rd x3 (rd x6 0)) = 4 then (gameroomref_HandValue.j8 k x6 x9 7) else (if (rd x3 (rd x6 0)) = 3 then (if 1 < (x6.length : Int) then (if 0 ≤ (rd x6 1) then (if (rd x6 1) < (x3.length : Int) then (gameroomref_HandValue.j6 k x3 x4 x6 x9 x13 ((rd x3 (rd x6 1)) == 2)) else (none)) else (none)) else (none)) else (gameroomref_HandValue.j6 k x3 x4 x6 x9 x13 false))) else (none)) else (none)) else (none))
def gameroomref_HandValue.j8 : Nat → List Int → Int → Int → Option (Int)
  | 0, _, _, _ => none
  | k + 1, x6, x9, x13 => if x9 ≥ 0 then (gameroomref_HandValue.j9 k (([x9] : List Int)) x13) else (gameroomref_HandValue.j9 k x6 x13)
def gameroomref_HandValue.j9 : Nat → List Int → Int → Option (Int)
  | 0, _, _ => none
  | k + 1, x6, x13 => gameroomref_HandValue.l5 k x6 x13
def gameroomref_HandValue.l5 : Nat → List Int → Int → Option (Int)
  | 0, _, _ => none
  | k + 1, x6, x13 => if (x6.length : Int) < 5 then (if x6.length < 17592186044416 then (gameroomref_HandValue.l5 k (x6 ++ [0]) x13) else (none)) else (gameroomref_HandValue.l6 k x6 x13 0)
def gameroomref_HandValue.l6 : Nat → List Int → Int → Int → Option (Int)
  | 0, _, _, _ => none
  | k + 1, x6, x14, x15 => if x15 < 5 then (if 0 ≤ x15 then (if x15 < (x6.length : Int) then (gameroomref_HandValue.l6 k x6 (wrap64 ((wrap64 (13 * x14)) + (rd x6 x15))) (wrap64 (x15 + 1))) else (none)) else (none)) else (some x14)
def gameroomref_HandValue.j6 : Nat → List Int → Bool → List Int → Int → Int → Bool → Option (Int)
  | 0, _, _, _, _, _, _ => none
  | k + 1, x3, x4, x6, x9, x13, x111 => if x111 = true then (gameroomref_HandValue.j8 k x6 x9 6) else (if x4 = true then (gameroomref_HandValue.j8 k x6 x9 5) else (if x9 ≥ 0 then (gameroomref_HandValue.j8 k x6 x9 4) else (if 0 < (x6.length : Int) then (if 0 ≤ (rd x6 0) then (if (rd x6 0) < (x3.length : Int) then (if (rd x3 (rd x6 0)) = 3 then (gameroomref_HandValue.j8 k x6 x9 3) else (if (rd x3 (rd x6 0)) = 2 then (if 1 < (x6.length : Int) then (if 0 ≤ (rd x6 1) then (if (rd x6 1) < (x3.length : Int) then (gameroomref_HandValue.j7 k x3 x6 x9 x13 ((rd x3 (rd x6 1)) == 2)) else (none)) else (none)) else (none)) else (gameroomref_HandValue.j7 k x3 x6 x9 x13 false))) else (none)) else (none)) else (none))))
def gameroomref_HandValue.j7 : Nat → List Int → List Int → Int → Int → Bool → Option (Int)
  | 0, _, _, _, _, _ => none
  | k + 1, x3, x6, x9, x13, x137 => if x137 = true then (gameroomref_HandValue.j8 k x6 x9 2) else (if 0 < (x6.length : Int) then (if 0 ≤ (rd x6 0) then (if (rd x6 0) < (x3.length : Int) then (if (rd x3 (rd x6 0)) = 2 then (gameroomref_HandValue.j8 k x6 x9 1) else (gameroomref_HandValue.j8 k x6 x9 x13)) else (none)) else (none)) else (none))
end
def gameroomref_HandValue.f (k : Nat) (l0 : List Int) : Option (Int) := if 13 ≤ 35184372088832 then (gameroomref_HandValue.l0 k l0 (List.replicate 13 0) true 0) else (none)
theorem gameroomref_HandValue.mono_l : ∀ k, (∀ y0 y1 y2 y3, LeO (gameroomref_HandValue.l0 k y0 y1 y2 y3) (gameroomref_HandValue.l0 (k + 1) y0 y1 y2 y3)) ∧ (∀ y0 y1 y2 y3, LeO (gameroomref_HandValue.l1 k y0 y1 y2 y3) (gameroomref_HandValue.l1 (k + 1) y0 y1 y2 y3)) ∧ (∀ y0 y1 y2 y3 y4, LeO (gameroomref_HandValue.l2 k y0 y1 y2 y3 y4) (gameroomref_HandValue.l2 (k + 1) y0 y1 y2 y3 y4)) ∧ (∀ y0 y1 y2 y3 y4, LeO (gameroomref_HandValue.l3 k y0 y1 y2 y3 y4) (gameroomref_HandValue.l3 (k + 1) y0 y1 y2 y3 y4)) ∧ (∀ y0 y1 y2 y3 y4 y5 y6, LeO (gameroomref_HandValue.l4 k y0 y1 y2 y3 y4 y5 y6) (gameroomref_HandValue.l4 (k + 1) y0 y1 y2 y3 y4 y5 y6)) ∧ (∀ y0 y1 y2 y3 y4 y5, LeO (gameroomref_HandValue.j5 k y0 y1 y2 y3 y4 y5) (gameroomref_HandValue.j5 (k + 1) y0 y1 y2 y3 y4 y5)) ∧ (∀ y0 y1 y2, LeO (gameroomref_HandValue.j8 k y0 y1 y2) (gameroomref_HandValue.j8 (k + 1) y0 y1 y2)) ∧ (∀ y0 y1, LeO (gameroomref_HandValue.j9 k y0 y1) (gameroomref_HandValue.j9 (k + 1) y0 y1)) ∧ (∀ y0 y1, LeO (gameroomref_HandValue.l5 k y0 y1) (gameroomref_HandValue.l5 (k + 1) y0 y1)) ∧ (∀ y0 y1 y2, LeO (gameroomref_HandValue.l6 k y0 y1 y2) (gameroomref_HandValue.l6 (k + 1) y0 y1 y2)) ∧ (∀ y0 y1 y2 y3 y4 y5, LeO (gameroomref_HandValue.j6 k y0 y1 y2 y3 y4 y5) (gameroomref_HandValue.j6 (k + 1) y0 y1 y2 y3 y4 y5)) ∧ (∀ y0 y1 y2 y3 y4, LeO (gameroomref_HandValue.j7 k y0 y1 y2 y3 y4) (gameroomref_HandValue.j7 (k + 1) y0 y1 y2 y3 y4))
  | 0 => ⟨fun _ _ _ _ r h => by simp [gameroomref_HandValue.l0] at h, fun _ _ _ _ r h => by simp [gameroomref_HandValue.l1] at h, fun _ _ _ _ _ r h => by simp [gameroomref_HandValue.l2] at h, fun _ _ _ _ _ r h => by simp [gameroomref_HandValue.l3] at h, fun _ _ _ _ _ _ _ r h => by simp [gameroomref_HandValue.l4] at h, fun _ _ _ _ _ _ r h => by simp [gameroomref_HandValue.j5] at h, fun _ _ _ r h => by simp [gameroomref_HandValue.j8] at h, fun _ _ r h => by simp [gameroomref_HandValue.j9] at h, fun _ _ r h => by simp [gameroomref_HandValue.l5] at h, fun _ _ _ r h => by simp [gameroomref_HandValue.l6] at h, fun _ _ _ _ _ _ r h => by simp [gameroomref_HandValue.j6] at h, fun _ _ _ _ _ r h => by simp [gameroomref_HandValue.j7] at h⟩
  | k + 1 => by
    obtain ⟨ih0, ih1, ih2, ih3, ih4, ih5, ih6, ih7, ih8, ih9, ih10, ih11⟩ := gameroomref_HandValue.mono_l k
    refine ⟨?_, ?_, ?_, ?_, ?_, ?_, ?_, ?_, ?_, ?_, ?_, ?_⟩
    · intro y0 y1 y2 y3
      unfold gameroomref_HandValue.l0
      repeat' first
      | (with_reducible exact ih0 _ _ _ _)
      | (with_reducible exact ih1 _ _ _ _)
      | (with_reducible exact ih2 _ _ _ _ _)
      | (with_reducible exact ih3 _ _ _ _ _)
      | (with_reducible exact ih4 _ _ _ _ _ _ _)
      | (with_reducible exact ih5 _ _ _ _ _ _)
      | (with_reducible exact ih6 _ _ _)
      | (with_reducible exact ih7 _ _)
      | (with_reducible exact ih8 _ _)
      | (with_reducible exact ih9 _ _ _)
      | (with_reducible exact ih10 _ _ _ _ _ _)
      | (with_reducible exact ih11 _ _ _ _ _)
      | (with_reducible exact LeO.refl _)
      | (with_reducible exact LeO.none _)
      | (with_reducible refine LeO.ite ?_ ?_)
      | (with_reducible refine LeO.bind ?_ (fun _ => ?_))
      | exact ih0 _ _ _ _
      | exact ih1 _ _ _ _
      | exact ih2 _ _ _ _ _
      | exact ih3 _ _ _ _ _
      | exact ih4 _ _ _ _ _ _ _
      | exact ih5 _ _ _ _ _ _
      | exact ih6 _ _ _
      | exact ih7 _ _
      | exact ih8 _ _
      | exact ih9 _ _ _
      | exact ih10 _ _ _ _ _ _
      | exact ih11 _ _ _ _ _
      | exact LeO.none _
      | refine LeO.ite ?_ ?_
      | refine LeO.bind ?_ (fun _ => ?_)
    · intro y0 y1 y2 y3
      unfold gameroomref_HandValue.l1
      repeat' first
      | (with_reducible exact ih0 _ _ _ _)
      | (with_reducible exact ih1 _ _ _ _)
      | (with_reducible exact ih2 _ _ _ _ _)
      | (with_reducible exact ih3 _ _ _ _ _)
      | (with_reducible exact ih4 _ _ _ _ _ _ _)
      | (with_reducible exact ih5 _ _ _ _ _ _)
      | (with_reducible exact ih6 _ _ _)
      | (with_reducible exact ih7 _ _)
      | (with_reducible exact ih8 _ _)
      | (with_reducible exact ih9 _ _ _)
      | (with_reducible exact ih10 _ _ _ _ _ _)
      | (with_reducible exact ih11 _ _ _ _ _)
      | (with_reducible exact LeO.refl _)
      | (with_reducible exact LeO.none _)
      | (with_reducible refine LeO.ite ?_ ?_)
      | (with_reducible refine LeO.bind ?_ (fun _ => ?_))
      | exact ih0 _ _ _ _
      | exact ih1 _ _ _ _
      | exact ih2 _ _ _ _ _
      | exact ih3 _ _ _ _ _
      | exact ih4 _ _ _ _ _ _ _
      | exact ih5 _ _ _ _ _ _
      | exact ih6 _ _ _
      | exact ih7 _ _
      | exact ih8 _ _
      | exact ih9 _ _ _
      | exact ih10 _ _ _ _ _ _
      | exact ih11 _ _ _ _ _
      | exact LeO.none _
      | refine LeO.ite ?_ ?_
      | refine LeO.bind ?_ (fun _ => ?_)
    · intro y0 y1 y2 y3 y4
      unfold gameroomref_HandValue.l2
      repeat' first
      | (with_reducible exact ih0 _ _ _ _)
      | (with_reducible exact ih1 _ _ _ _)
      | (with_reducible exact ih2 _ _ _ _ _)
      | (with_reducible exact ih3 _ _ _ _ _)
      | (with_reducible exact ih4 _ _ _ _ _ _ _)
      | (with_reducible exact ih5 _ _ _ _ _ _)
      | (with_reducible exact ih6 _ _ _)
      | (with_reducible exact ih7 _ _)
      | (with_reducible exact ih8 _ _)
      | (with_reducible exact ih9 _ _ _)
      | (with_reducible exact ih10 _ _ _ _ _ _)
      | (with_reducible exact ih11 _ _ _ _ _)
      | (with_reducible exact LeO.refl _)
      | (with_reducible exact LeO.none _)
      | (with_reducible refine LeO.ite ?_ ?_)
      | (with_reducible refine LeO.bind ?_ (fun _ => ?_))
      | exact ih0 _ _ _ _
      | exact ih1 _ _ _ _
      | exact ih2 _ _ _ _ _
      | exact ih3 _ _ _ _ _
      | exact ih4 _ _ _ _ _ _ _
      | exact ih5 _ _ _ _ _ _
      | exact ih6 _ _ _
      | exact ih7 _ _
      | exact ih8 _ _
      | exact ih9 _ _ _
      | exact ih10 _ _ _ _ _ _
      | exact ih11 _ _ _ _ _
      | exact LeO.none _
      | refine LeO.ite ?_ ?_
      | refine LeO.bind ?_ (fun _ => ?_)
    · intro y0 y1 y2 y3 y4
      unfold gameroomref_HandValue.l3
      repeat' first
      | (with_reducible exact ih0 _ _ _ _)
      | (with_reducible exact ih1 _ _ _ _)
      | (with_reducible exact ih2 _ _ _ _ _)
      | (with_reducible exact ih3 _ _ _ _ _)
      | (with_reducible exact ih4 _ _ _ _ _ _ _)
      | (with_reducible exact ih5 _ _ _ _ _ _)
      | (with_reducible exact ih6 _ _ _)
      | (with_reducible exact ih7 _ _)
      | (with_reducible exact ih8 _ _)
      | (with_reducible exact ih9 _ _ _)
      | (with_reducible exact ih10 _ _ _ _ _ _)
      | (with_reducible exact ih11 _ _ _ _ _)
      | (with_reducible exact LeO.refl _)
      | (with_reducible exact LeO.none _)
      | (with_reducible refine LeO.ite ?_ ?_)
      | (with_reducible refine LeO.bind ?_ (fun _ => ?_))
      | exact ih0 _ _ _ _
      | exact ih1 _ _ _ _
      | exact ih2 _ _ _ _ _
      | exact ih3 _ _ _ _ _
      | exact ih4 _ _ _ _ _ _ _
      | exact ih5 _ _ _ _ _ _
      | exact ih6 _ _ _
      | exact ih7 _ _
      | exact ih8 _ _
      | exact ih9 _ _ _
      | exact ih10 _ _ _ _ _ _
      | exact ih11 _ _ _ _ _
      | exact LeO.none _
      | refine LeO.ite ?_ ?_
      | refine LeO.bind ?_ (fun _ => ?_)
    · intro y0 y1 y2 y3 y4 y5 y6
      unfold gameroomref_HandValue.l4
      repeat' first
      | (with_reducible exact ih0 _ _ _ _)
      | (with_reducible exact ih1 _ _ _ _)
      | (with_reducible exact ih2 _ _ _ _ _)
      | (with_reducible exact ih3 _ _ _ _ _)
      | (with_reducible exact ih4 _ _ _ _ _ _ _)
      | (with_reducible exact ih5 _ _ _ _ _ _)
      | (with_reducible exact ih6 _ _ _)
      | (with_reducible exact ih7 _ _)
      | (with_reducible exact ih8 _ _)
      | (with_reducible exact ih9 _ _ _)
      | (with_reducible exact ih10 _ _ _ _ _ _)
      | (with_reducible exact ih11 _ _ _ _ _)
      | (with_reducible exact LeO.refl _)
      | (with_reducible exact LeO.none _)
      | (with_reducible refine LeO.ite ?_ ?_)
      | (with_reducible refine LeO.bind ?_ (fun _ => ?_))
      | exact ih0 _ _ _ _
      | exact ih1 _ _ _ _
      | exact ih2 _ _ _ _ _
      | exact ih3 _ _ _ _ _
      | exact ih4 _ _ _ _ _ _ _
      | exact ih5 _ _ _ _ _ _
      | exact ih6 _ _ _
      | exact ih7 _ _
      | exact ih8 _ _
      | exact ih9 _ _ _
      | exact ih10 _ _ _ _ _ _
      | exact ih11 _ _ _ _ _
      | exact LeO.none _
      | refine LeO.ite ?_ ?_
      | refine LeO.bind ?_ (fun _ => ?_)
    · intro y0 y1 y2 y3 y4 y5
      unfold gameroomref_HandValue.j5
      repeat' first
      | (with_reducible exact ih0 _ _ _ _)
      | (with_reducible exact ih1 _ _ _ _)
      | (with_reducible exact ih2 _ _ _ _ _)
      | (with_reducible exact ih3 _ _ _ _ _)
      | (with_reducible exact ih4 _ _ _ _ _ _ _)
      | (with_reducible exact ih5 _ _ _ _ _ _)
      | (with_reducible exact ih6 _ _ _)
      | (with_reducible exact ih7 _ _)
      | (with_reducible exact ih8 _ _)
      | (with_reducible exact ih9 _ _ _)
      | (with_reducible exact ih10 _ _ _ _ _ _)
      | (with_reducible exact ih11 _ _ _ _ _)
      | (with_reducible exact LeO.refl _)
      | (with_reducible exact LeO.none _)
      | (with_reducible refine LeO.ite ?_ ?_)
      | (with_reducible refine LeO.bind ?_ (fun _ => ?_))
      | exact ih0 _ _ _ _
      | exact ih1 _ _ _ _
      | exact ih2 _ _ _ _ _
      | exact ih3 _ _ _ _ _
      | exact ih4 _ _ _ _ _ _ _
      | exact ih5 _ _ _ _ _ _
      | exact ih6 _ _ _
      | exact ih7 _ _
      | exact ih8 _ _
      | exact ih9 _ _ _
      | exact ih10 _ _ _ _ _ _
      | exact ih11 _ _ _ _ _
      | exact LeO.none _
      | refine LeO.ite ?_ ?_
      | refine LeO.bind ?_ (fun _ => ?_)
    · intro y0 y1 y2
      unfold gameroomref_HandValue.j8
      repeat' first
      | (with_reducible exact ih0 _ _ _ _)
      | (with_reducible exact ih1 _ _ _ _)
      | (with_reducible exact ih2 _ _ _ _ _)
      | (with_reducible exact ih3 _ _ _ _ _)
      | (with_reducible exact ih4 _ _ _ _ _ _ _)
      | (with_reducible exact ih5 _ _ _ _ _ _)
      | (with_reducible exact ih6 _ _ _)
      | (with_reducible exact ih7 _ _)
      | (with_reducible exact ih8 _ _)
      | (with_reducible exact ih9 _ _ _)
      | (with_reducible exact ih10 _ _ _ _ _ _)
      | (with_reducible exact ih11 _ _ _ _ _)
      | (with_reducible exact LeO.refl _)
      | (with_reducible exact LeO.none _)
      | (with_reducible refine LeO.ite ?_ ?_)
      | (with_reducible refine LeO.bind ?_ (fun _ => ?_))
      | exact ih0 _ _ _ _
      | exact ih1 _ _ _ _
      | exact ih2 _ _ _ _ _
      | exact ih3 _ _ _ _ _
      | exact ih4 _ _ _ _ _ _ _
      | exact ih5 _ _ _ _ _ _
      | exact ih6 _ _ _
      | exact ih7 _ _
      | exact ih8 _ _
      | exact ih9 _ _ _
      | exact ih10 _ _ _ _ _ _
      | exact ih11 _ _ _ _ _
      | exact LeO.none _
      | refine LeO.ite ?_ ?_
      | refine LeO.bind ?_ (fun _ => ?_)
    · intro y0 y1
      unfold gameroomref_HandValue.j9
      repeat' first
      | (with_reducible exact ih0 _ _ _ _)
      | (with_reducible exact ih1 _ _ _ _)
      | (with_reducible exact ih2 _ _ _ _ _)
      | (with_reducible exact ih3 _ _ _ _ _)
      | (with_reducible exact ih4 _ _ _ _ _ _ _)
      | (with_reducible exact ih5 _ _ _ _ _ _)
      | (with_reducible exact ih6 _ _ _)
      | (with_reducible exact ih7 _ _)
      | (with_reducible exact ih8 _ _)
      | (with_reducible exact ih9 _ _ _)
      | (with_reducible exact ih10 _ _ _ _ _ _)
      | (with_reducible exact ih11 _ _ _ _ _)
      | (with_reducible exact LeO.refl _)
      | (with_reducible exact LeO.none _)
      | (with_reducible refine LeO.ite ?_ ?_)
      | (with_reducible refine LeO.bind ?_ (fun _ => ?_))
      | exact ih0 _ _ _ _
      | exact ih1 _ _ _ _
      | exact ih2 _ _ _ _ _
      | exact ih3 _ _ _ _ _
      | exact ih4 _ _ _ _ _ _ _
      | exact ih5 _ _ _ _ _ _
      | exact ih6 _ _ _
      | exact ih7 _ _
      | exact ih8 _ _
      | exact ih9 _ _ _
      | exact ih10 _ _ _ _ _ _
      | exact ih11 _ _ _ _ _
      | exact LeO.none _
      | refine LeO.ite ?_ ?_
      | refine LeO.bind ?_ (fun _ => ?_)
    · intro y0 y1
      unfold gameroomref_HandValue.l5
      repeat' first
      | (with_reducible exact ih0 _ _ _ _)
      | (with_reducible exact ih1 _ _ _ _)
      | (with_reducible exact ih2 _ _ _ _ _)
      | (with_reducible exact ih3 _ _ _ _ _)
      | (with_reducible exact ih4 _ _ _ _ _ _ _)
      | (with_reducible exact ih5 _ _ _ _ _ _)
      | (with_reducible exact ih6 _ _ _)
      | (with_reducible exact ih7 _ _)
      | (with_reducible exact ih8 _ _)
      | (with_reducible exact ih9 _ _ _)
      | (with_reducible exact ih10 _ _ _ _ _ _)
      | (with_reducible exact ih11 _ _ _ _ _)
      | (with_reducible exact LeO.refl _)
      | (with_reducible exact LeO.none _)
      | (with_reducible refine LeO.ite ?_ ?_)
      | (with_reducible refine LeO.bind ?_ (fun _ => ?_))
      | exact ih0 _ _ _ _
      | exact ih1 _ _ _ _
      | exact ih2 _ _ _ _ _
      | exact ih3 _ _ _ _ _
      | exact ih4 _ _ _ _ _ _ _
      | exact ih5 _ _ _ _ _ _
      | exact ih6 _ _ _
      | exact ih7 _ _
      | exact ih8 _ _
      | exact ih9 _ _ _
      | exact ih10 _ _ _ _ _ _
      | exact ih11 _ _ _ _ _
      | exact LeO.none _
      | refine LeO.ite ?_ ?_
      | refine LeO.bind ?_ (fun _ => ?_)
    · intro y0 y1 y2
      unfold gameroomref_HandValue.l6
      repeat' first
      | (with_reducible exact ih0 _ _ _ _)
      | (with_reducible exact ih1 _ _ _ _)
      | (with_reducible exact ih2 _ _ _ _ _)
      | (with_reducible exact ih3 _ _ _ _ _)
      | (with_reducible exact ih4 _ _ _ _ _ _ _)
      | (with_reducible exact ih5 _ _ _ _ _ _)
      | (with_reducible exact ih6 _ _ _)
      | (with_reducible exact ih7 _ _)
      | (with_reducible exact ih8 _ _)
      | (with_reducible exact ih9 _ _ _)
      | (with_reducible exact ih10 _ _ _ _ _ _)
      | (with_reducible exact ih11 _ _ _ _ _)
      | (with_reducible exact LeO.refl _)
      | (with_reducible exact LeO.none _)
      | (with_reducible refine LeO.ite ?_ ?_)
      | (with_reducible refine LeO.bind ?_ (fun _ => ?_))
      | exact ih0 _ _ _ _
      | exact ih1 _ _ _ _
      | exact ih2 _ _ _ _ _
      | exact ih3 _ _ _ _ _
      | exact ih4 _ _ _ _ _ _ _
      | exact ih5 _ _ _ _ _ _
      | exact ih6 _ _ _
      | exact ih7 _ _
      | exact ih8 _ _
      | exact ih9 _ _ _
      | exact ih10 _ _ _ _ _ _
      | exact ih11 _ _ _ _ _
      | exact LeO.none _
      | refine LeO.ite ?_ ?_
      | refine LeO.bind ?_ (fun _ => ?_)
    · intro y0 y1 y2 y3 y4 y5
      unfold gameroomref_HandValue.j6
      repeat' first
      | (with_reducible exact ih0 _ _ _ _)
      | (with_reducible exact ih1 _ _ _ _)
      | (with_reducible exact ih2 _ _ _ _ _)
      | (with_reducible exact ih3 _ _ _ _ _)
      | (with_reducible exact ih4 _ _ _ _ _ _ _)
      | (with_reducible exact ih5 _ _ _ _ _ _)
      | (with_reducible exact ih6 _ _ _)
      | (with_reducible exact ih7 _ _)
      | (with_reducible exact ih8 _ _)
      | (with_reducible exact ih9 _ _ _)
      | (with_reducible exact ih10 _ _ _ _ _ _)
      | (with_reducible exact ih11 _ _ _ _ _)
      | (with_reducible exact LeO.refl _)
      | (with_reducible exact LeO.none _)
      | (with_reducible refine LeO.ite ?_ ?_)
      | (with_reducible refine LeO.bind ?_ (fun _ => ?_))
      | exact ih0 _ _ _ _
      | exact ih1 _ _ _ _
      | exact ih2 _ _ _ _ _
      | exact ih3 _ _ _ _ _
      | exact ih4 _ _ _ _ _ _ _
      | exact ih5 _ _ _ _ _ _
      | exact ih6 _ _ _
      | exact ih7 _ _
      | exact ih8 _ _
      | exact ih9 _ _ _
      | exact ih10 _ _ _ _ _ _
      | exact ih11 _ _ _ _ _
      | exact LeO.none _
      | refine LeO.ite ?_ ?_
      | refine LeO.bind ?_ (fun _ => ?_)
    · intro y0 y1 y2 y3 y4
      unfold gameroomref_HandValue.j7
      repeat' first
      | (with_reducible exact ih0 _ _ _ _)
      | (with_reducible exact ih1 _ _ _ _)
      | (with_reducible exact ih2 _ _ _ _ _)
      | (with_reducible exact ih3 _ _ _ _ _)
      | (with_reducible exact ih4 _ _ _ _ _ _ _)
      | (with_reducible exact ih5 _ _ _ _ _ _)
      | (with_reducible exact ih6 _ _ _)
      | (with_reducible exact ih7 _ _)
      | (with_reducible exact ih8 _ _)
      | (with_reducible exact ih9 _ _ _)
      | (with_reducible exact ih10 _ _ _ _ _ _)
      | (with_reducible exact ih11 _ _ _ _ _)
      | (with_reducible exact LeO.refl _)
      | (with_reducible exact LeO.none _)
      | (with_reducible refine LeO.ite ?_ ?_)
      | (with_reducible refine LeO.bind ?_ (fun _ => ?_))
      | exact ih0 _ _ _ _
      | exact ih1 _ _ _ _
      | exact ih2 _ _ _ _ _
      | exact ih3 _ _ _ _ _
      | exact ih4 _ _ _ _ _ _ _
      | exact ih5 _ _ _ _ _ _
      | exact ih6 _ _ _
      | exact ih7 _ _
      | exact ih8 _ _
      | exact ih9 _ _ _
      | exact ih10 _ _ _ _ _ _
      | exact ih11 _ _ _ _ _
      | exact LeO.none _
      | refine LeO.ite ?_ ?_
      | refine LeO.bind ?_ (fun _ => ?_)
theorem gameroomref_HandValue.mono : ∀ a0 k, LeO (gameroomref_HandValue.f k a0) (gameroomref_HandValue.f (k + 1) a0) := by
  intro a0 k
  obtain ⟨ih0, ih1, ih2, ih3, ih4, ih5, ih6, ih7, ih8, ih9, ih10, ih11⟩ := gameroomref_HandValue.mono_l k
  unfold gameroomref_HandValue.f
  repeat' first
      | (with_reducible exact ih0 _ _ _ _)
      | (with_reducible exact ih1 _ _ _ _)
      | (with_reducible exact ih2 _ _ _ _ _)
      | (with_reducible exact ih3 _ _ _ _ _)
      | (with_reducible exact ih4 _ _ _ _ _ _ _)
      | (with_reducible exact ih5 _ _ _ _ _ _)
      | (with_reducible exact ih6 _ _ _)
      | (with_reducible exact ih7 _ _)
      | (with_reducible exact ih8 _ _)
      | (with_reducible exact ih9 _ _ _)
      | (with_reducible exact ih10 _ _ _ _ _ _)
      | (with_reducible exact ih11 _ _ _ _ _)
      | (with_reducible exact LeO.refl _)
      | (with_reducible exact LeO.none _)
      | (with_reducible refine LeO.ite ?_ ?_)
      | (with_reducible refine LeO.bind ?_ (fun _ => ?_))
      | exact ih0 _ _ _ _
      | exact ih1 _ _ _ _
      | exact ih2 _ _ _ _ _
      | exact ih3 _ _ _ _ _
      | exact ih4 _ _ _ _ _ _ _
      | exact ih5 _ _ _ _ _ _
      | exact ih6 _ _ _
      | exact ih7 _ _
      | exact ih8 _ _
      | exact ih9 _ _ _
      | exact ih10 _ _ _ _ _ _
      | exact ih11 _ _ _ _ _
      | exact LeO.none _
      | refine LeO.ite ?_ ?_
      | refine LeO.bind ?_ (fun _ => ?_)
set_option maxHeartbeats 8000000 in
set_option maxRecDepth 100000 in
theorem gameroomref_HandValue.calls (k : Nat) (A0 : Option Addr) (c0 : Nat) (l0 : List Int) (r : Int) (w : World) (hr0 : Kd.C (Kd.int .i64) w A0 l0.length l0) (hc0 : l0.length ≤ c0) (h : gameroomref_HandValue.f k l0 = some r) :
    Calls Try.prog 22 #[.slice A0 l0.length c0] w fun e w' => e = .returned (.int .i64 r) ∧ Below w.heap.size w w' := by
  have HR0 := Aside0.mk hr0
  have HC0 := Aside0.mk hc0
  clear hr0 hc0
  have HB := Aside0.mk (Below.refl w.heap.size w)
  have H : (if 13 ≤ 35184372088832 then (gameroomref_HandValue.l0 k l0 (List.replicate 13 0) true 0) else (none)) = some r := h
  clear h
  by_cases c2 : 13 ≤ 35184372088832
  · rw [if_pos c2] at H
    have c2b0 := eq_true c2
    have c2b1 : decide (13 ≤ 35184372088832) = true := decide_eq_true c2
    clear c2
    obtain ⟨y114, hy114⟩ : ∃ y_ : List Int, y_ = (List.replicate 13 0) := ⟨_, rfl⟩
    replace H : (gameroomref_HandValue.l0 k l0 y114 true 0) = some r := by first | (rw [hy114]; with_reducible exact H) | (have H2_ := (Option.bind_some _ _).symm.trans H; rw [hy114]; with_reducible exact H2_) | (have H2_ := (Option.bind_some _ _).symm.trans H; with_reducible exact H2_) | with_reducible exact H | (rw [hy114]; exact H) | exact H
    have Ny114 := Aside0.mk hy114
    clear hy114
    have H' := Aside0.mk H
    clear H
    go_enter Try.func22, Try.ntmps22
    go_wp2_with (first | ((with_reducible refine gate_dst (N := 16) rfl ?_); refine Kd.R_make (Kd.int .i64) _ 3 rfl (N := 16) rfl 22 _ _ rfl 13 rfl rfl Try.underlying22 (.int .i64 0) 8 info3 rfl (by decide) (by omega) 0 (ok := fun _ => True) (okp := fun _ => True) rfl (fun _ hk => hk) trivial (by omega) (by omega) (Below.refl _ _) (Nat.le_refl _) ?_; intro v115 w3 ho4 hb hg_ hnew_; clear hg_ hnew_; (first | rw [← Ny114.out] at ho4 | (simp only [Int.reduceToNat] at ho4; rw [← Ny114.out] at ho4)); have n0_ := Aside0.mk (Kd.R_lower ho4 (below_size (by repeat (first | (with_reducible first | exact HB.out | apply below_alloc | apply pw_below_drewN | apply below_drew1) | exact HB.out)))); have n1_ := Aside0.mk (below_step (by repeat (first | (with_reducible first | exact HB.out | apply below_alloc | apply pw_below_drewN | apply below_drew1) | exact HB.out)) hb); clear HB; have HO116 := n0_; have HB := n1_; clear n0_ n1_; clear hb ho4))
    repeat (go_quiet (first | ((with_reducible refine gate_dst (N := 16) rfl ?_); refine Kd.R_make (Kd.int .i64) _ 3 rfl (N := 16) rfl 22 _ _ rfl 13 rfl rfl Try.underlying22 (.int .i64 0) 8 info3 rfl (by decide) (by omega) 0 (ok := fun _ => True) (okp := fun _ => True) rfl (fun _ hk => hk) trivial (by omega) (by omega) (Below.refl _ _) (Nat.le_refl _) ?_; intro v115 w3 ho4 hb hg_ hnew_; clear hg_ hnew_; (first | rw [← Ny114.out] at ho4 | (simp only [Int.reduceToNat] at ho4; rw [← Ny114.out] at ho4)); have n0_ := Aside0.mk (Kd.R_lower ho4 (below_size (by repeat (first | (with_reducible first | exact HB.out | apply below_alloc | apply pw_below_drewN | apply below_drew1) | exact HB.out)))); have n1_ := Aside0.mk (below_step (by repeat (first | (with_reducible first | exact HB.out | apply below_alloc | apply pw_below_drewN | apply below_drew1) | exact HB.out)) hb); clear HB; have HO116 := n0_; have HB := n1_; clear n0_ n1_; clear hb ho4)); try go_wp2_with (first | ((with_reducible refine gate_dst (N := 16) rfl ?_); refine Kd.R_make (Kd.int .i64) _ 3 rfl (N := 16) rfl 22 _ _ rfl 13 rfl rfl Try.underlying22 (.int .i64 0) 8 info3 rfl (by decide) (by omega) 0 (ok := fun _ => True) (okp := fun _ => True) rfl (fun _ hk => hk) trivial (by omega) (by omega) (Below.refl _ _) (Nat.le_refl _) ?_; intro v115 w3 ho4 hb hg_ hnew_; clear hg_ hnew_; (first | rw [← Ny114.out] at ho4 | (simp only [Int.reduceToNat] at ho4; rw [← Ny114.out] at ho4)); have n0_ := Aside0.mk (Kd.R_lower ho4 (below_size (by repeat (first | (with_reducible first | exact HB.out | apply below_alloc | apply pw_below_drewN | apply below_drew1) | exact HB.out)))); have n1_ := Aside0.mk (below_step (by repeat (first | (with_reducible first | exact HB.out | apply below_alloc | apply pw_below_drewN | apply below_drew1) | exact HB.out)) hb); clear HB; have HO116 := n0_; have HB := n1_; clear n0_ n1_; clear hb ho4)))
    go_loopg [4, 5] k (fun kq v4 v5 w' => ∃ (x3_1 : List Int) (x4_1 : Bool) (x5_1 : Int), v4 = .bool x4_1 ∧ v5 = .int .i64 x5_1 ∧ Aside0 (gameroomref_HandValue.l0 kq l0 x3_1 x4_1 x5_1 = some r) ∧ Aside0 (kq ≤ k) ∧ Aside0 (Kd.R (Kd.int .i64) 3 w' w.heap.size (fun _ => True) v115 x3_1) ∧ Aside0 (Below w.heap.size w w'))
    case atStart => exact ⟨(y114), (true), (0), (by first | rfl | (simp; done) | (simp [*]; done)), (by first | rfl | (simp; done) | (simp [*]; done)), H', ⟨Nat.le_refl _⟩, ⟨by (with_reducible repeat (first | apply Kd.R_alloc | apply Kd.R_drewN | apply Kd.R_drew)); exact HO116.out⟩, ⟨by repeat (first | (with_reducible first | exact HB.out | apply below_alloc | apply pw_below_drewN | apply below_drew1) | exact HB.out)⟩⟩
    case round =>
      clear H'
      try clear c2
      try clear c2b0
      try clear c2b1
      try clear p2
      obtain ⟨x3_1, x4_1, x5_1, rfl, rfl, HA, HK1, HO_3, HB⟩ := hrel
      cases gk with
      | zero => exact absurd HA.out (by simp [gameroomref_HandValue.l0])
      | succ k1 =>
        have H := HA.out
        clear HA
        simp only [gameroomref_HandValue.l0] at H
        by_cases c5 : x5_1 < 5
        · rw [if_pos c5] at H
          have c5b0 : decide (x5_1 < 5) = true := decide_eq_true c5
          clear c5
          by_cases c6 : 0 ≤ x5_1
          · rw [if_pos c6] at H
            have c6b0 : decide (0 ≤ x5_1) = true := decide_eq_true c6
            clear c6
            by_cases c7 : x5_1 < (l0.length : Int)
            · rw [if_pos c7] at H
              have c7b0 : decide (x5_1 < (l0.length : Int)) = true := decide_eq_true c7
              clear c7
              obtain ⟨ji8, hji8⟩ : ∃ j_ : Int, (wrap64 (Int.tdiv (rd l0 x5_1) 4)) = j_ := ⟨_, rfl⟩
              replace H : (if 0 ≤ (ji8) then (if (ji8) < (x3_1.length : Int) then ((some (x3_1.set ((ji8) : Int).toNat (wrap64 ((rd x3_1 (ji8)) + 1)) : List Int)).bind fun y119 => (if x4_1 = true then (if 0 < (l0.length : Int) then (gameroomref_HandValue.l0 k1 l0 y119 ((Int.tmod (rd l0 x5_1) 4) == (Int.tmod (rd l0 0) 4)) (wrap64 (x5_1 + 1))) else (none)) else (gameroomref_HandValue.l0 k1 l0 y119 false (wrap64 (x5_1 + 1))))) else (none)) else (none)) = some r := by first | (rw [hji8] at H; exact H) | (simp only [hji8] at H ⊢; exact H)
              have hji8w : (IntKind.i64.wrap (Int.tdiv (rd l0 x5_1) 4)) = ji8 := (i64_w _).trans hji8
              by_cases c9 : 0 ≤ (ji8)
              · rw [if_pos c9] at H
                have c9b0 : decide (0 ≤ (ji8)) = true := decide_eq_true c9
                clear c9
                by_cases c10 : (ji8) < (x3_1.length : Int)
                · rw [if_pos c10] at H
                  have c10b0 : decide ((ji8) < (x3_1.length : Int)) = true := decide_eq_true c10
                  clear c10
                  obtain ⟨y119, hy119⟩ : ∃ y_ : List Int, y_ = (x3_1.set ((ji8) : Int).toNat (wrap64 ((rd x3_1 (ji8)) + 1))) := ⟨_, rfl⟩
                  replace H : (if x4_1 = true then (if 0 < (l0.length : Int) then (gameroomref_HandValue.l0 k1 l0 y119 ((Int.tmod (rd l0 x5_1) 4) == (Int.tmod (rd l0 0) 4)) (wrap64 (x5_1 + 1))) else (none)) else (gameroomref_HandValue.l0 k1 l0 y119 false (wrap64 (x5_1 + 1)))) = some r := by first | (rw [hy119]; with_reducible exact H) | (have H2_ := (Option.bind_some _ _).symm.trans H; rw [hy119]; with_reducible exact H2_) | (have H2_ := (Option.bind_some _ _).symm.trans H; with_reducible exact H2_) | with_reducible exact H | (rw [hy119]; exact H) | exact H
                  have Ny119 := Aside0.mk hy119
                  clear hy119
                  by_cases c12 : x4_1 = true
                  · subst c12
                    have H1 : (if 0 < (l0.length : Int) then (gameroomref_HandValue.l0 k1 l0 y119 ((Int.tmod (rd l0 x5_1) 4) == (Int.tmod (rd l0 0) 4)) (wrap64 (x5_1 + 1))) else (none)) = some r := by rw [if_pos rfl] at H; exact H
                    clear H
                    have H := H1
                    clear H1
                    by_cases c13 : 0 < (l0.length : Int)
                    · rw [if_pos c13] at H
                      have c13b0 : decide (0 < (l0.length : Int)) = true := decide_eq_true c13
                      have c13b1 : decide (0 < l0.length) = true := decide_eq_true (by omega)
                      clear c13
                      have H' := Aside0.mk H
                      clear H
                      have p117 : 0 ≤ (x5_1 : Int) := of_decide_eq_true (by first | (with_reducible assumption) | assumption)
                      have q117 : x5_1 < (l0.length : Int) := of_decide_eq_true (by first | (with_reducible assumption) | assumption)
                      obtain ⟨ad117, e117, hx117_0⟩ := Kd.at_int HR0.out x5_1 p117 q117
                      cases e117
                      replace hx117_0 := (HB.out.cell (World.block_lt_of_cell? w _ hx117_0)).trans hx117_0
                      replace p117 := eq_true p117
                      replace q117 := eq_true q117
                      obtain ⟨Ao14, co14, eo14⟩ := Kd.R_slice HO_3.out
                      subst eo14
                      have p118 : 0 ≤ ((ji8) : Int) := of_decide_eq_true (by first | (with_reducible assumption) | assumption)
                      have q118 : (ji8) < (x3_1.length : Int) := of_decide_eq_true (by first | (with_reducible assumption) | assumption)
                      obtain ⟨ad118, e118, hx118_0⟩ := Kd.at_int (Kd.R_reads' HO_3.out).2.2 (ji8) p118 q118
                      cases e118
                      replace p118 := eq_true p118
                      replace q118 := eq_true q118
                      have p11 : 0 ≤ ((ji8) : Int) := of_decide_eq_true (by first | (with_reducible assumption) | assumption)
                      have q11 : ((ji8) : Int) < ((x3_1.length : Int) : Int) := of_decide_eq_true (by first | (with_reducible assumption) | assumption)
                      obtain ⟨go11, co11, eo11, gb11, gl11, cl11, HG11⟩ := Kd.R_form HO_3.out (by omega)
                      (first | cases eo11 | (injection eo11 with ea_ en_ ec_; (first | subst ea_ | (injection ea_ with ea_; subst ea_)); subst ec_; clear en_))
                      have GB11 := Aside0.mk gb11
                      have GG11 := Aside0.mk HG11
                      clear gb11 gl11 HG11
                      (first | simp only [add_plain] at hx118_0 | skip)
                      obtain ⟨hx11_0, hf11_0⟩ := Kd.R_celln 0 HO_3.out ((ji8) : Int) p11 q11
                      replace p11 := eq_true p11
                      replace q11 := eq_true q11
                      have HP15 := Kd.R_putg HO_3.out ((ji8) : Int) (wrap64 ((rd x3_1 (ji8)) + 1))
                      go_wp2_with (first | ((with_reducible refine gate_store (t := 3) (p := 30) rfl ?_); (try (rw [drewN_self wr]; generalize hq_ : World.drewN wr _ = wr; have n0_ := Aside0.mk (Kd.R_at hq_ HO_3.out); have n1_ := Aside0.mk (below_at hq_ HB.out); clear hq_ HO_3 HB; have HO_3 := n0_; have HB := n1_; clear n0_ n1_; (try (have HP15 := Kd.R_putg HO_3.out ((ji8) : Int) (wrap64 ((rd x3_1 (ji8)) + 1)))))); refine store_event (t := 3) (p := 30) (v := ?vo_w16) (w1 := (wr.setCell ⟨go11, ((ji8) : Int).toNat, none⟩ (.int .i64 (wrap64 ((rd x3_1 (ji8)) + 1))))) ?hg ?ho ?hn ?hr ?_; (case ho => rfl); (case hg => rfl); (case hn => rfl); (case hr => first | (go_simp; done) | (go_simp; rfl)); intro w16 hw; have hg : wr.grownBy w16 (some go11) := (by rw [hw]; exact HP15.2); have hp_ : Kd.R (Kd.int .i64) 3 w16 w.heap.size (fun _ => True) (.slice (some ⟨go11, 0, none⟩) x3_1.length co14) y119 := (by rw [hw, Ny119.out]; exact HP15.1); clear HP15; have n0_ := Aside0.mk (hp_); have n1_ := Aside0.mk ((by rw [hw]; exact below_set (HB.out) GB11.out : Below w.heap.size w w16)); clear HO_3; clear HB; have HO_3 := n0_; have HB := n1_; clear n0_ n1_; clear hg hw hp_; have p120 : 0 ≤ (x5_1 : Int) := of_decide_eq_true (by first | (with_reducible assumption) | assumption); have q120 : x5_1 < (l0.length : Int) := of_decide_eq_true (by first | (with_reducible assumption) | assumption); obtain ⟨ad120, e120, hx120_0⟩ := Kd.at_int HR0.out x5_1 p120 q120; obtain rfl : ad117 = ad120 := (by injection e120); replace hx120_0 := (HB.out.cell (World.block_lt_of_cell? w _ hx120_0)).trans hx120_0; replace p120 := eq_true p120; replace q120 := eq_true q120; have p121 : 0 ≤ (0 : Int) := (by omega); have q121 : 0 < (l0.length : Int) := of_decide_eq_true (by first | (with_reducible assumption) | assumption); obtain ⟨ad121, e121, hx121_0⟩ := Kd.at_int HR0.out 0 p121 q121; obtain rfl : ad117 = ad121 := (by injection e121); have qi121 : (0 < l0.length) = True := eq_true (by omega); (try rw [show ((0 : Int)).toNat = 0 from rfl] at hx121_0); (try rw [Addr.add_zero'] at hx121_0); replace hx121_0 := (HB.out.cell (World.block_lt_of_cell? w _ hx121_0)).trans hx121_0; replace p121 := eq_true p121; replace q121 := eq_true q121))
                      repeat (go_quiet (first | ((with_reducible refine gate_store (t := 3) (p := 30) rfl ?_); (try (rw [drewN_self wr]; generalize hq_ : World.drewN wr _ = wr; have n0_ := Aside0.mk (Kd.R_at hq_ HO_3.out); have n1_ := Aside0.mk (below_at hq_ HB.out); clear hq_ HO_3 HB; have HO_3 := n0_; have HB := n1_; clear n0_ n1_; (try (have HP15 := Kd.R_putg HO_3.out ((ji8) : Int) (wrap64 ((rd x3_1 (ji8)) + 1)))))); refine store_event (t := 3) (p := 30) (v := ?vo_w16) (w1 := (wr.setCell ⟨go11, ((ji8) : Int).toNat, none⟩ (.int .i64 (wrap64 ((rd x3_1 (ji8)) + 1))))) ?hg ?ho ?hn ?hr ?_; (case ho => rfl); (case hg => rfl); (case hn => rfl); (case hr => first | (go_simp; done) | (go_simp; rfl)); intro w16 hw; have hg : wr.grownBy w16 (some go11) := (by rw [hw]; exact HP15.2); have hp_ : Kd.R (Kd.int .i64) 3 w16 w.heap.size (fun _ => True) (.slice (some ⟨go11, 0, none⟩) x3_1.length co14) y119 := (by rw [hw, Ny119.out]; exact HP15.1); clear HP15; have n0_ := Aside0.mk (hp_); have n1_ := Aside0.mk ((by rw [hw]; exact below_set (HB.out) GB11.out : Below w.heap.size w w16)); clear HO_3; clear HB; have HO_3 := n0_; have HB := n1_; clear n0_ n1_; clear hg hw hp_; have p120 : 0 ≤ (x5_1 : Int) := of_decide_eq_true (by first | (with_reducible assumption) | assumption); have q120 : x5_1 < (l0.length : Int) := of_decide_eq_true (by first | (with_reducible assumption) | assumption); obtain ⟨ad120, e120, hx120_0⟩ := Kd.at_int HR0.out x5_1 p120 q120; obtain rfl : ad117 = ad120 := (by injection e120); replace hx120_0 := (HB.out.cell (World.block_lt_of_cell? w _ hx120_0)).trans hx120_0; replace p120 := eq_true p120; replace q120 := eq_true q120; have p121 : 0 ≤ (0 : Int) := (by omega); have q121 : 0 < (l0.length : Int) := of_decide_eq_true (by first | (with_reducible assumption) | assumption); obtain ⟨ad121, e121, hx121_0⟩ := Kd.at_int HR0.out 0 p121 q121; obtain rfl : ad117 = ad121 := (by injection e121); have qi121 : (0 < l0.length) = True := eq_true (by omega); (try rw [show ((0 : Int)).toNat = 0 from rfl] at hx121_0); (try rw [Addr.add_zero'] at hx121_0); replace hx121_0 := (HB.out.cell (World.block_lt_of_cell? w _ hx121_0)).trans hx121_0; replace p121 := eq_true p121; replace q121 := eq_true q121)); try go_wp2_with (first | ((with_reducible refine gate_store (t := 3) (p := 30) rfl ?_); (try (rw [drewN_self wr]; generalize hq_ : World.drewN wr _ = wr; have n0_ := Aside0.mk (Kd.R_at hq_ HO_3.out); have n1_ := Aside0.mk (below_at hq_ HB.out); clear hq_ HO_3 HB; have HO_3 := n0_; have HB := n1_; clear n0_ n1_; (try (have HP15 := Kd.R_putg HO_3.out ((ji8) : Int) (wrap64 ((rd x3_1 (ji8)) + 1)))))); refine store_event (t := 3) (p := 30) (v := ?vo_w16) (w1 := (wr.setCell ⟨go11, ((ji8) : Int).toNat, none⟩ (.int .i64 (wrap64 ((rd x3_1 (ji8)) + 1))))) ?hg ?ho ?hn ?hr ?_; (case ho => rfl); (case hg => rfl); (case hn => rfl); (case hr => first | (go_simp; done) | (go_simp; rfl)); intro w16 hw; have hg : wr.grownBy w16 (some go11) := (by rw [hw]; exact HP15.2); have hp_ : Kd.R (Kd.int .i64) 3 w16 w.heap.size (fun _ => True) (.slice (some ⟨go11, 0, none⟩) x3_1.length co14) y119 := (by rw [hw, Ny119.out]; exact HP15.1); clear HP15; have n0_ := Aside0.mk (hp_); have n1_ := Aside0.mk ((by rw [hw]; exact below_set (HB.out) GB11.out : Below w.heap.size w w16)); clear HO_3; clear HB; have HO_3 := n0_; have HB := n1_; clear n0_ n1_; clear hg hw hp_; have p120 : 0 ≤ (x5_1 : Int) := of_decide_eq_true (by first | (with_reducible assumption) | assumption); have q120 : x5_1 < (l0.length : Int) := of_decide_eq_true (by first | (with_reducible assumption) | assumption); obtain ⟨ad120, e120, hx120_0⟩ := Kd.at_int HR0.out x5_1 p120 q120; obtain rfl : ad117 = ad120 := (by injection e120); replace hx120_0 := (HB.out.cell (World.block_lt_of_cell? w _ hx120_0)).trans hx120_0; replace p120 := eq_true p120; replace q120 := eq_true q120; have p121 : 0 ≤ (0 : Int) := (by omega); have q121 : 0 < (l0.length : Int) := of_decide_eq_true (by first | (with_reducible assumption) | assumption); obtain ⟨ad121, e121, hx121_0⟩ := Kd.at_int HR0.out 0 p121 q121; obtain rfl : ad117 = ad121 := (by injection e121); have qi121 : (0 < l0.length) = True := eq_true (by omega); (try rw [show ((0 : Int)).toNat = 0 from rfl] at hx121_0); (try rw [Addr.add_zero'] at hx121_0); replace hx121_0 := (HB.out.cell (World.block_lt_of_cell? w _ hx121_0)).trans hx121_0; replace p121 := eq_true p121; replace q121 := eq_true q121)))
                      go_roundg k1
                      case measure => have := HK1.out; omega
                      case rel => exact ⟨(y119), (((Int.tmod (rd l0 x5_1) 4) == (Int.tmod (rd l0 0) 4))), (wrap64 (x5_1 + 1)), (by first | rfl | (simp; done) | (simp [*]; done)), (by first | rfl | (simp; done) | (simp [*]; done)), H', ⟨by have := HK1.out; omega⟩, ⟨by (with_reducible repeat (first | apply Kd.R_alloc | apply Kd.R_drewN | apply Kd.R_drew)); exact HO_3.out⟩, ⟨by repeat (first | (with_reducible first | exact HB.out | apply below_alloc | apply pw_below_drewN | apply below_drew1) | exact HB.out)⟩⟩
                    · rw [if_neg c13] at H
                      exact absurd H (by simp)
                  · replace c12 := Bool.eq_false_iff.mpr c12
                    subst c12
                    have H1 : (gameroomref_HandValue.l0 k1 l0 y119 false (wrap64 (x5_1 + 1))) = some r := by rw [if_neg (show ¬ (false = true) by decide)] at H; exact H
                    clear H
                    have H := H1
                    clear H1
                    have H' := Aside0.mk H
                    clear H
                    have p117 : 0 ≤ (x5_1 : Int) := of_decide_eq_true (by first | (with_reducible assumption) | assumption)
                    have q117 : x5_1 < (l0.length : Int) := of_decide_eq_true (by first | (with_reducible assumption) | assumption)
                    obtain ⟨ad117, e117, hx117_0⟩ := Kd.at_int HR0.out x5_1 p117 q117
                    cases e117
                    replace hx117_0 := (HB.out.cell (World.block_lt_of_cell? w _ hx117_0)).trans hx117_0
                    replace p117 := eq_true p117
                    replace q117 := eq_true q117
                    obtain ⟨Ao17, co17, eo17⟩ := Kd.R_slice HO_3.out
                    subst eo17
                    have p118 : 0 ≤ ((ji8) : Int) := of_decide_eq_true (by first | (with_reducible assumption) | assumption)
                    have q118 : (ji8) < (x3_1.length : Int) := of_decide_eq_true (by first | (with_reducible assumption) | assumption)
                    obtain ⟨ad118, e118, hx118_0⟩ := Kd.at_int (Kd.R_reads' HO_3.out).2.2 (ji8) p118 q118
                    cases e118
                    replace p118 := eq_true p118
                    replace q118 := eq_true q118
                    have p11 : 0 ≤ ((ji8) : Int) := of_decide_eq_true (by first | (with_reducible assumption) | assumption)
                    have q11 : ((ji8) : Int) < ((x3_1.length : Int) : Int) := of_decide_eq_true (by first | (with_reducible assumption) | assumption)
                    obtain ⟨go11, co11, eo11, gb11, gl11, cl11, HG11⟩ := Kd.R_form HO_3.out (by omega)
                    (first | cases eo11 | (injection eo11 with ea_ en_ ec_; (first | subst ea_ | (injection ea_ with ea_; subst ea_)); subst ec_; clear en_))
                    have GB11 := Aside0.mk gb11
                    have GG11 := Aside0.mk HG11
                    clear gb11 gl11 HG11
                    (first | simp only [add_plain] at hx118_0 | skip)
                    obtain ⟨hx11_0, hf11_0⟩ := Kd.R_celln 0 HO_3.out ((ji8) : Int) p11 q11
                    replace p11 := eq_true p11
                    replace q11 := eq_true q11
                    have HP18 := Kd.R_putg HO_3.out ((ji8) : Int) (wrap64 ((rd x3_1 (ji8)) + 1))
                    go_wp2_with (first | ((with_reducible refine gate_store (t := 3) (p := 30) rfl ?_); (try (rw [drewN_self wr]; generalize hq_ : World.drewN wr _ = wr; have n0_ := Aside0.mk (Kd.R_at hq_ HO_3.out); have n1_ := Aside0.mk (below_at hq_ HB.out); clear hq_ HO_3 HB; have HO_3 := n0_; have HB := n1_; clear n0_ n1_; (try (have HP18 := Kd.R_putg HO_3.out ((ji8) : Int) (wrap64 ((rd x3_1 (ji8)) + 1)))))); refine store_event (t := 3) (p := 30) (v := ?vo_w19) (w1 := (wr.setCell ⟨go11, ((ji8) : Int).toNat, none⟩ (.int .i64 (wrap64 ((rd x3_1 (ji8)) + 1))))) ?hg ?ho ?hn ?hr ?_; (case ho => rfl); (case hg => rfl); (case hn => rfl); (case hr => first | (go_simp; done) | (go_simp; rfl)); intro w19 hw; have hg : wr.grownBy w19 (some go11) := (by rw [hw]; exact HP18.2); have hp_ : Kd.R (Kd.int .i64) 3 w19 w.heap.size (fun _ => True) (.slice (some ⟨go11, 0, none⟩) x3_1.length co17) y119 := (by rw [hw, Ny119.out]; exact HP18.1); clear HP18; have n0_ := Aside0.mk (hp_); have n1_ := Aside0.mk ((by rw [hw]; exact below_set (HB.out) GB11.out : Below w.heap.size w w19)); clear HO_3; clear HB; have HO_3 := n0_; have HB := n1_; clear n0_ n1_; clear hg hw hp_))
                    repeat (go_quiet (first | ((with_reducible refine gate_store (t := 3) (p := 30) rfl ?_); (try (rw [drewN_self wr]; generalize hq_ : World.drewN wr _ = wr; have n0_ := Aside0.mk (Kd.R_at hq_ HO_3.out); have n1_ := Aside0.mk (below_at hq_ HB.out); clear hq_ HO_3 HB; have HO_3 := n0_; have HB := n1_; clear n0_ n1_; (try (have HP18 := Kd.R_putg HO_3.out ((ji8) : Int) (wrap64 ((rd x3_1 (ji8)) + 1)))))); refine store_event (t := 3) (p := 30) (v := ?vo_w19) (w1 := (wr.setCell ⟨go11, ((ji8) : Int).toNat, none⟩ (.int .i64 (wrap64 ((rd x3_1 (ji8)) + 1))))) ?hg ?ho ?hn ?hr ?_; (case ho => rfl); (case hg => rfl); (case hn => rfl); (case hr => first | (go_simp; done) | (go_simp; rfl)); intro w19 hw; have hg : wr.grownBy w19 (some go11) := (by rw [hw]; exact HP18.2); have hp_ : Kd.R (Kd.int .i64) 3 w19 w.heap.size (fun _ => True) (.slice (some ⟨go11, 0, none⟩) x3_1.length co17) y119 := (by rw [hw, Ny119.out]; exact HP18.1); clear HP18; have n0_ := Aside0.mk (hp_); have n1_ := Aside0.mk ((by rw [hw]; exact below_set (HB.out) GB11.out : Below w.heap.size w w19)); clear HO_3; clear HB; have HO_3 := n0_; have HB := n1_; clear n0_ n1_; clear hg hw hp_)); try go_wp2_with (first | ((with_reducible refine gate_store (t := 3) (p := 30) rfl ?_); (try (rw [drewN_self wr]; generalize hq_ : World.drewN wr _ = wr; have n0_ := Aside0.mk (Kd.R_at hq_ HO_3.out); have n1_ := Aside0.mk (below_at hq_ HB.out); clear hq_ HO_3 HB; have HO_3 := n0_; have HB := n1_; clear n0_ n1_; (try (have HP18 := Kd.R_putg HO_3.out ((ji8) : Int) (wrap64 ((rd x3_1 (ji8)) + 1)))))); refine store_event (t := 3) (p := 30) (v := ?vo_w19) (w1 := (wr.setCell ⟨go11, ((ji8) : Int).toNat, none⟩ (.int .i64 (wrap64 ((rd x3_1 (ji8)) + 1))))) ?hg ?ho ?hn ?hr ?_; (case ho => rfl); (case hg => rfl); (case hn => rfl); (case hr => first | (go_simp; done) | (go_simp; rfl)); intro w19 hw; have hg : wr.grownBy w19 (some go11) := (by rw [hw]; exact HP18.2); have hp_ : Kd.R (Kd.int .i64) 3 w19 w.heap.size (fun _ => True) (.slice (some ⟨go11, 0, none⟩) x3_1.length co17) y119 := (by rw [hw, Ny119.out]; exact HP18.1); clear HP18; have n0_ := Aside0.mk (hp_); have n1_ := Aside0.mk ((by rw [hw]; exact below_set (HB.out) GB11.out : Below w.heap.size w w19)); clear HO_3; clear HB; have HO_3 := n0_; have HB := n1_; clear n0_ n1_; clear hg hw hp_)))
                    go_roundg k1
                    case measure => have := HK1.out; omega
                    case rel => exact ⟨(y119), (false), (wrap64 (x5_1 + 1)), (by first | rfl | (simp; done) | (simp [*]; done)), (by first | rfl | (simp; done) | (simp [*]; done)), H', ⟨by have := HK1.out; omega⟩, ⟨by (with_reducible repeat (first | apply Kd.R_alloc | apply Kd.R_drewN | apply Kd.R_drew)); exact HO_3.out⟩, ⟨by repeat (first | (with_reducible first | exact HB.out | apply below_alloc | apply pw_below_drewN | apply below_drew1) | exact HB.out)⟩⟩
                · rw [if_neg c10] at H
                  exact absurd H (by simp)
              · rw [if_neg c9] at H
                exact absurd H (by simp)
            · rw [if_neg c7] at H
              exact absurd H (by simp)
          · rw [if_neg c6] at H
            exact absurd H (by simp)
        · rw [if_neg c5] at H
          have c5b0 : decide (x5_1 < 5) = false := decide_eq_false c5
          clear c5
          have H' := Aside0.mk H
          clear H
          go_wp2
          repeat (go_quiet (fail); try go_wp2)
          go_loopg [6, 7] k1 (fun kq v6 v7 w' => ∃ (x6_2 : List Int) (x7_2 : Int), v7 = .int .i64 x7_2 ∧ Aside0 (gameroomref_HandValue.l1 kq x3_1 x4_1 x6_2 x7_2 = some r) ∧ Aside0 (kq ≤ k1) ∧ Aside0 (Kd.R (Kd.int .i64) 3 w' w.heap.size (fun k_ => some k_ ≠ (v6 : Value).ownBlock) v115 x3_1) ∧ Aside0 (Kd.R (Kd.int .i64) 3 w' w.heap.size (fun k_ => some k_ ≠ (v115 : Value).ownBlock) v6 x6_2) ∧ Aside0 (Below w.heap.size w w'))
          case atStart => exact ⟨(([] : List Int)), (4), (by first | rfl | (simp; done) | (simp [*]; done)), H', ⟨Nat.le_refl _⟩, ⟨by (with_reducible repeat (first | apply Kd.R_alloc | apply Kd.R_drewN | apply Kd.R_drew)); exact Kd.R_mono HO_3.out (fun _ hk => (by simp [Value.ownBlock]))⟩, ⟨by first | exact Kd.R_nil _ _ _ _ _ | exact Kd.N_nil _ _ _ _ _ | exact Kd.V_nil _ _ _ _ _ | exact Kd.Q_nil _ _ _ _ _ | exact Kd.S_nil _ _ _ _ _⟩, ⟨by repeat (first | (with_reducible first | exact HB.out | apply below_alloc | apply pw_below_drewN | apply below_drew1) | exact HB.out)⟩⟩
          case round =>
            clear H'
            try clear c1
            try clear p1
            try clear q1
            try clear hx1
            try clear qi1
            try clear hf1
            try clear c2
            try clear c2b0
            try clear c2b1
            try clear p2
            try clear c5
            try clear c5b0
            try clear c6
            try clear c6b0
            try clear p6
            try clear c7
            try clear c7b0
            try clear c9
            try clear c9b0
            try clear c10
            try clear c10b0
            try clear p11
            try clear q11
            try clear hx11
            try clear hf11
            try clear c12
            try clear p12
            try clear q12
            try clear hx12
            try clear qi12
            try clear c13
            try clear c13b0
            try clear c13b1
            try clear hx117_0
            try clear hx118_0
            try clear hx11_0
            try clear hx120_0
            try clear hx121_0
            try clear p11
            try clear p117
            try clear p118
            try clear p120
            try clear p121
            try clear p2
            try clear q11
            try clear q117
            try clear q118
            try clear q120
            try clear q121
            obtain ⟨x6_2, x7_2, rfl, HA, HK2, HO_3, HO_6, HB⟩ := hrel
            cases gk with
            | zero => exact absurd HA.out (by simp [gameroomref_HandValue.l1])
            | succ k2 =>
              have H := HA.out
              clear HA
              simp only [gameroomref_HandValue.l1] at H
              by_cases c20 : x7_2 > 0
              · rw [if_pos c20] at H
                have c20b0 : decide (0 < x7_2) = true := decide_eq_true c20
                clear c20
                have H' := Aside0.mk H
                clear H
                go_wp2
                repeat (go_quiet (fail); try go_wp2)
                go_loopg [6, 8] k2 (fun kq v6 v8 w' => ∃ (x6_3 : List Int) (x8_3 : Int), v8 = .int .i64 x8_3 ∧ Aside0 (gameroomref_HandValue.l2 kq x3_1 x4_1 x6_3 x7_2 x8_3 = some r) ∧ Aside0 (kq ≤ k2) ∧ Aside0 (Kd.R (Kd.int .i64) 3 w' w.heap.size (fun k_ => some k_ ≠ (v6 : Value).ownBlock) v115 x3_1) ∧ Aside0 (Kd.R (Kd.int .i64) 3 w' w.heap.size (fun k_ => some k_ ≠ (v115 : Value).ownBlock) v6 x6_3) ∧ Aside0 (Below w.heap.size w w'))
                case atStart => exact ⟨(x6_2), (12), (by first | rfl | (simp; done) | (simp [*]; done)), H', ⟨Nat.le_refl _⟩, ⟨by (with_reducible repeat (first | apply Kd.R_alloc | apply Kd.R_drewN | apply Kd.R_drew)); exact HO_3.out⟩, ⟨by (with_reducible repeat (first | apply Kd.R_alloc | apply Kd.R_drewN | apply Kd.R_drew)); exact HO_6.out⟩, ⟨by repeat (first | (with_reducible first | exact HB.out | apply below_alloc | apply pw_below_drewN | apply below_drew1) | exact HB.out)⟩⟩
                case round =>
                  clear H'
                  try clear c1
                  try clear p1
                  try clear q1
                  try clear hx1
                  try clear qi1
                  try clear hf1
                  try clear c2
                  try clear c2b0
                  try clear c2b1
                  try clear p2
                  try clear c5
                  try clear c5b0
                  try clear c6
                  try clear c6b0
                  try clear p6
                  try clear c7
                  try clear c7b0
                  try clear c9
                  try clear c9b0
                  try clear c10
                  try clear c10b0
                  try clear p11
                  try clear q11
                  try clear hx11
                  try clear hf11
                  try clear c12
                  try clear p12
                  try clear q12
                  try clear hx12
                  try clear qi12
                  try clear c13
                  try clear c13b0
                  try clear c13b1
                  try clear c20
                  try clear c20b0
                  try clear hx117_0
                  try clear hx118_0
                  try clear hx11_0
                  try clear hx120_0
                  try clear hx121_0
                  try clear p1
                  try clear p11
                  try clear p117
                  try clear p118
                  try clear p12
                  try clear p120
                  try clear p121
                  try clear p2
                  try clear p6
                  try clear q1
                  try clear q11
                  try clear q117
                  try clear q118
                  try clear q12
                  try clear q120
                  try clear q121
                  obtain ⟨x6_3, x8_3, rfl, HA, HK3, HO_3, HO_6, HB⟩ := hrel
                  cases gk with
                  | zero => exact absurd HA.out (by simp [gameroomref_HandValue.l2])
                  | succ k3 =>
                    have H := HA.out
                    clear HA
                    simp only [gameroomref_HandValue.l2] at H
                    by_cases c21 : x8_3 ≥ 0
                    · rw [if_pos c21] at H
                      have c21b0 : decide (0 ≤ x8_3) = true := decide_eq_true c21
                      clear c21
                      by_cases c22 : 0 ≤ x8_3
                      · rw [if_pos c22] at H
                        have c22b0 : decide (0 ≤ x8_3) = true := decide_eq_true c22
                        clear c22
                        by_cases c23 : x8_3 < (x3_1.length : Int)
                        · rw [if_pos c23] at H
                          have c23b0 : decide (x8_3 < (x3_1.length : Int)) = true := decide_eq_true c23
                          clear c23
                          by_cases c24 : (rd x3_1 x8_3) = x7_2
                          · rw [if_pos c24] at H
                            have c24b0 : ((rd x3_1 x8_3) == x7_2) = true := beq_iff_eq.mpr c24
                            have c24b1 : ((rd x3_1 x8_3) != x7_2) = false := bne_eq_false_iff_eq.mpr c24
                            clear c24
                            by_cases c25 : x6_3.length < 17592186044416
                            · rw [if_pos c25] at H
                              have LMc25 := Aside0.mk c25
                              clear c25
                              obtain ⟨y123, hy123⟩ : ∃ y_ : List Int, y_ = (x6_3 ++ [x8_3]) := ⟨_, rfl⟩
                              replace H : (gameroomref_HandValue.l2 k3 x3_1 x4_1 y123 x7_2 (wrap64 (x8_3 - 1))) = some r := by first | (rw [hy123]; with_reducible exact H) | (have H2_ := (Option.bind_some _ _).symm.trans H; rw [hy123]; with_reducible exact H2_) | (have H2_ := (Option.bind_some _ _).symm.trans H; with_reducible exact H2_) | with_reducible exact H | (rw [hy123]; exact H) | exact H
                              have Ny123 := Aside0.mk hy123
                              clear hy123
                              have H' := Aside0.mk H
                              clear H
                              obtain ⟨Ao26, co26, eo26⟩ := Kd.R_slice HO_3.out
                              subst eo26
                              have p122 : 0 ≤ (x8_3 : Int) := of_decide_eq_true (by first | (with_reducible assumption) | assumption)
                              have q122 : x8_3 < (x3_1.length : Int) := of_decide_eq_true (by first | (with_reducible assumption) | assumption)
                              obtain ⟨ad122, e122, hx122_0⟩ := Kd.at_int (Kd.R_reads' HO_3.out).2.2 x8_3 p122 q122
                              cases e122
                              replace p122 := eq_true p122
                              replace q122 := eq_true q122
                              go_wp2_with (first | ((with_reducible refine gate_builtin (b := .append) (xs := #[.tmp 58, .tmp 60]) rfl ?_); at_builtin; refine Kd.R_append (Kd.int .i64) (w0 := w) w.heap.size rfl (.tmp 58) (.tmp 60) 22 3 (.int .i64 0) 8 rfl Try.underlying22 info3 rfl (by decide) (by omega) u6 x6_3 x8_3 [.int .i64 x8_3] (fun k_ => some k_ ≠ (.slice (some ad122) x3_1.length co26 : Value).ownBlock) (fun _ => False) rfl rfl ?aP (fun _ hk => hk.elim) ?aF ?aO ?aB ?aS ?aL ?_; (case aP => exact rfl); (case aB => exact (by repeat (first | (with_reducible first | exact HB.out | apply below_alloc | apply pw_below_drewN | apply below_drew1) | exact HB.out))); (case aF => exact (fun k_ hk => Kd.fresh' (Kd.R_lt (by (with_reducible repeat (first | apply Kd.R_alloc | apply Kd.R_drewN | apply Kd.R_drew)); exact HO_3.out)) k_ hk)); (case aO => exact (by (with_reducible repeat (first | apply Kd.R_alloc | apply Kd.R_drewN | apply Kd.R_drew)); exact HO_6.out)); (case aS => exact (below_size (by repeat (first | (with_reducible first | exact HB.out | apply below_alloc | apply pw_below_drewN | apply below_drew1) | exact HB.out)))); (case aL => have := LMc25.out; omega); intro v124 w27 ho hb hg hat; rw [← Ny123.out] at ho; have n0_ := Aside0.mk (Kd.R_after (ok := (fun _ => True)) (by (with_reducible repeat (first | apply Kd.R_alloc | apply Kd.R_drewN | apply Kd.R_drew)); exact Kd.R_mono HO_3.out (fun _ hk => ⟨trivial, hk⟩)) hg hat); have n1_ := Aside0.mk (hb); have n2_ := Aside0.mk (ho); clear HO_3; clear HB; clear HO_6; have HO_3 := n0_; have HB := n1_; have HO125 := n2_; clear n0_ n1_ n2_; clear ho hb hg hat))
                              repeat (go_quiet (first | ((with_reducible refine gate_builtin (b := .append) (xs := #[.tmp 58, .tmp 60]) rfl ?_); at_builtin; refine Kd.R_append (Kd.int .i64) (w0 := w) w.heap.size rfl (.tmp 58) (.tmp 60) 22 3 (.int .i64 0) 8 rfl Try.underlying22 info3 rfl (by decide) (by omega) u6 x6_3 x8_3 [.int .i64 x8_3] (fun k_ => some k_ ≠ (.slice (some ad122) x3_1.length co26 : Value).ownBlock) (fun _ => False) rfl rfl ?aP (fun _ hk => hk.elim) ?aF ?aO ?aB ?aS ?aL ?_; (case aP => exact rfl); (case aB => exact (by repeat (first | (with_reducible first | exact HB.out | apply below_alloc | apply pw_below_drewN | apply below_drew1) | exact HB.out))); (case aF => exact (fun k_ hk => Kd.fresh' (Kd.R_lt (by (with_reducible repeat (first | apply Kd.R_alloc | apply Kd.R_drewN | apply Kd.R_drew)); exact HO_3.out)) k_ hk)); (case aO => exact (by (with_reducible repeat (first | apply Kd.R_alloc | apply Kd.R_drewN | apply Kd.R_drew)); exact HO_6.out)); (case aS => exact (below_size (by repeat (first | (with_reducible first | exact HB.out | apply below_alloc | apply pw_below_drewN | apply below_drew1) | exact HB.out)))); (case aL => have := LMc25.out; omega); intro v124 w27 ho hb hg hat; rw [← Ny123.out] at ho; have n0_ := Aside0.mk (Kd.R_after (ok := (fun _ => True)) (by (with_reducible repeat (first | apply Kd.R_alloc | apply Kd.R_drewN | apply Kd.R_drew)); exact Kd.R_mono HO_3.out (fun _ hk => ⟨trivial, hk⟩)) hg hat); have n1_ := Aside0.mk (hb); have n2_ := Aside0.mk (ho); clear HO_3; clear HB; clear HO_6; have HO_3 := n0_; have HB := n1_; have HO125 := n2_; clear n0_ n1_ n2_; clear ho hb hg hat)); try go_wp2_with (first | ((with_reducible refine gate_builtin (b := .append) (xs := #[.tmp 58, .tmp 60]) rfl ?_); at_builtin; refine Kd.R_append (Kd.int .i64) (w0 := w) w.heap.size rfl (.tmp 58) (.tmp 60) 22 3 (.int .i64 0) 8 rfl Try.underlying22 info3 rfl (by decide) (by omega) u6 x6_3 x8_3 [.int .i64 x8_3] (fun k_ => some k_ ≠ (.slice (some ad122) x3_1.length co26 : Value).ownBlock) (fun _ => False) rfl rfl ?aP (fun _ hk => hk.elim) ?aF ?aO ?aB ?aS ?aL ?_; (case aP => exact rfl); (case aB => exact (by repeat (first | (with_reducible first | exact HB.out | apply below_alloc | apply pw_below_drewN | apply below_drew1) | exact HB.out))); (case aF => exact (fun k_ hk => Kd.fresh' (Kd.R_lt (by (with_reducible repeat (first | apply Kd.R_alloc | apply Kd.R_drewN | apply Kd.R_drew)); exact HO_3.out)) k_ hk)); (case aO => exact (by (with_reducible repeat (first | apply Kd.R_alloc | apply Kd.R_drewN | apply Kd.R_drew)); exact HO_6.out)); (case aS => exact (below_size (by repeat (first | (with_reducible first | exact HB.out | apply below_alloc | apply pw_below_drewN | apply below_drew1) | exact HB.out)))); (case aL => have := LMc25.out; omega); intro v124 w27 ho hb hg hat; rw [← Ny123.out] at ho; have n0_ := Aside0.mk (Kd.R_after (ok := (fun _ => True)) (by (with_reducible repeat (first | apply Kd.R_alloc | apply Kd.R_drewN | apply Kd.R_drew)); exact Kd.R_mono HO_3.out (fun _ hk => ⟨trivial, hk⟩)) hg hat); have n1_ := Aside0.mk (hb); have n2_ := Aside0.mk (ho); clear HO_3; clear HB; clear HO_6; have HO_3 := n0_; have HB := n1_; have HO125 := n2_; clear n0_ n1_ n2_; clear ho hb hg hat)))
                              go_roundg k3
                              case measure => have := HK1.out; have := HK2.out; have := HK3.out; omega
                              case rel => exact ⟨(y123), (wrap64 (x8_3 - 1)), (by first | rfl | (simp; done) | (simp [*]; done)), H', ⟨by have := HK1.out; have := HK2.out; have := HK3.out; omega⟩, ⟨by (with_reducible repeat (first | apply Kd.R_alloc | apply Kd.R_drewN | apply Kd.R_drew)); exact Kd.R_mono HO_3.out (fun _ hk => hk.2)⟩, ⟨by (with_reducible repeat (first | apply Kd.R_alloc | apply Kd.R_drewN | apply Kd.R_drew)); exact HO125.out⟩, ⟨by repeat (first | (with_reducible first | exact HB.out | apply below_alloc | apply pw_below_drewN | apply below_drew1) | exact HB.out)⟩⟩
                            · rw [if_neg c25] at H
                              exact absurd H (by simp)
                          · rw [if_neg c24] at H
                            have c24b0 : ((rd x3_1 x8_3) == x7_2) = false := beq_eq_false_iff_ne.mpr c24
                            have c24b1 : ((rd x3_1 x8_3) != x7_2) = true := bne_iff_ne.mpr c24
                            have H' := Aside0.mk H
                            clear H
                            obtain ⟨Ao28, co28, eo28⟩ := Kd.R_slice HO_3.out
                            subst eo28
                            have p122 : 0 ≤ (x8_3 : Int) := of_decide_eq_true (by first | (with_reducible assumption) | assumption)
                            have q122 : x8_3 < (x3_1.length : Int) := of_decide_eq_true (by first | (with_reducible assumption) | assumption)
                            obtain ⟨ad122, e122, hx122_0⟩ := Kd.at_int (Kd.R_reads' HO_3.out).2.2 x8_3 p122 q122
                            cases e122
                            replace p122 := eq_true p122
                            replace q122 := eq_true q122
                            go_wp2
                            repeat (go_quiet (fail); try go_wp2)
                            go_roundg k3
                            case measure => have := HK1.out; have := HK2.out; have := HK3.out; omega
                            case rel => exact ⟨(x6_3), (wrap64 (x8_3 - 1)), (by first | rfl | (simp; done) | (simp [*]; done)), H', ⟨by have := HK1.out; have := HK2.out; have := HK3.out; omega⟩, ⟨by (with_reducible repeat (first | apply Kd.R_alloc | apply Kd.R_drewN | apply Kd.R_drew)); exact HO_3.out⟩, ⟨by (with_reducible repeat (first | apply Kd.R_alloc | apply Kd.R_drewN | apply Kd.R_drew)); exact HO_6.out⟩, ⟨by repeat (first | (with_reducible first | exact HB.out | apply below_alloc | apply pw_below_drewN | apply below_drew1) | exact HB.out)⟩⟩
                        · rw [if_neg c23] at H
                          exact absurd H (by simp)
                      · rw [if_neg c22] at H
                        exact absurd H (by simp)
                    · rw [if_neg c21] at H
                      have c21b0 : decide (0 ≤ x8_3) = false := decide_eq_false c21
                      clear c21
                      have H' := Aside0.mk H
                      clear H
                      go_wp2
                      repeat (go_quiet (fail); try go_wp2)
                      go_roundg k3
                      case measure => have := HK1.out; have := HK2.out; have := HK3.out; omega
                      case rel => exact ⟨(x6_3), (wrap64 (x7_2 - 1)), (by first | rfl | (simp; done) | (simp [*]; done)), H', ⟨by have := HK1.out; have := HK2.out; have := HK3.out; omega⟩, ⟨by (with_reducible repeat (first | apply Kd.R_alloc | apply Kd.R_drewN | apply Kd.R_drew)); exact HO_3.out⟩, ⟨by (with_reducible repeat (first | apply Kd.R_alloc | apply Kd.R_drewN | apply Kd.R_drew)); exact HO_6.out⟩, ⟨by repeat (first | (with_reducible first | exact HB.out | apply below_alloc | apply pw_below_drewN | apply below_drew1) | exact HB.out)⟩⟩
              · rw [if_neg c20] at H
                have c20b0 : decide (0 < x7_2) = false := decide_eq_false c20
                clear c20
                have H' := Aside0.mk H
                clear H
                go_wp2
                repeat (go_quiet (fail); try go_wp2)
                go_loopg [9, 10] k2 (fun kq v9 v10 w' => ∃ (x9_3 : Int) (x10_3 : Int), v9 = .int .i64 x9_3 ∧ v10 = .int .i64 x10_3 ∧ Aside0 (gameroomref_HandValue.l3 kq x3_1 x4_1 x6_2 x9_3 x10_3 = some r) ∧ Aside0 (kq ≤ k2) ∧ Aside0 (Kd.R (Kd.int .i64) 3 w' w.heap.size (fun k_ => some k_ ≠ (u6 : Value).ownBlock) v115 x3_1) ∧ Aside0 (Kd.R (Kd.int .i64) 3 w' w.heap.size (fun k_ => some k_ ≠ (v115 : Value).ownBlock) u6 x6_2) ∧ Aside0 (Below w.heap.size w w'))
                case atStart => exact ⟨((-1)), (3), (by first | rfl | (simp; done) | (simp [*]; done)), (by first | rfl | (simp; done) | (simp [*]; done)), H', ⟨Nat.le_refl _⟩, ⟨by (with_reducible repeat (first | apply Kd.R_alloc | apply Kd.R_drewN | apply Kd.R_drew)); exact HO_3.out⟩, ⟨by (with_reducible repeat (first | apply Kd.R_alloc | apply Kd.R_drewN | apply Kd.R_drew)); exact HO_6.out⟩, ⟨by repeat (first | (with_reducible first | exact HB.out | apply below_alloc | apply pw_below_drewN | apply below_drew1) | exact HB.out)⟩⟩
                case round =>
                  clear H'
                  try clear c1
                  try clear p1
                  try clear q1
                  try clear hx1
                  try clear qi1
                  try clear hf1
                  try clear c2
                  try clear c2b0
                  try clear c2b1
                  try clear p2
                  try clear c5
                  try clear c5b0
                  try clear c6
                  try clear c6b0
                  try clear p6
                  try clear c7
                  try clear c7b0
                  try clear c9
                  try clear c9b0
                  try clear c10
                  try clear c10b0
                  try clear p11
                  try clear q11
                  try clear hx11
                  try clear hf11
                  try clear c12
                  try clear p12
                  try clear q12
                  try clear hx12
                  try clear qi12
                  try clear c13
                  try clear c13b0
                  try clear c13b1
                  try clear c20
                  try clear c20b0
                  try clear c21
                  try clear c21b0
                  try clear c22
                  try clear c22b0
                  try clear c23
                  try clear c23b0
                  try clear c24
                  try clear c24b0
                  try clear c24b1
                  try clear c25
                  try clear hx117_0
                  try clear hx118_0
                  try clear hx11_0
                  try clear hx120_0
                  try clear hx121_0
                  try clear hx122_0
                  try clear p1
                  try clear p11
                  try clear p117
                  try clear p118
                  try clear p12
                  try clear p120
                  try clear p121
                  try clear p122
                  try clear p2
                  try clear p6
                  try clear q1
                  try clear q11
                  try clear q117
                  try clear q118
                  try clear q12
                  try clear q120
                  try clear q121
                  try clear q122
                  obtain ⟨x9_3, x10_3, rfl, rfl, HA, HK3, HO_3, HO_6, HB⟩ := hrel
                  cases gk with
                  | zero => exact absurd HA.out (by simp [gameroomref_HandValue.l3])
                  | succ k3 =>
                    have H := HA.out
                    clear HA
                    simp only [gameroomref_HandValue.l3] at H
                    by_cases c29 : x10_3 < 13
                    · rw [if_pos c29] at H
                      have c29b0 : decide (x10_3 < 13) = true := decide_eq_true c29
                      clear c29
                      have H' := Aside0.mk H
                      clear H
                      go_wp2
                      repeat (go_quiet (fail); try go_wp2)
                      go_loopg [11, 12] k3 (fun kq v11 v12 w' => ∃ (x11_4 : Bool) (x12_4 : Int), v11 = .bool x11_4 ∧ v12 = .int .i64 x12_4 ∧ Aside0 (gameroomref_HandValue.l4 kq x3_1 x4_1 x6_2 x9_3 x10_3 x11_4 x12_4 = some r) ∧ Aside0 (kq ≤ k3) ∧ Aside0 (Kd.R (Kd.int .i64) 3 w' w.heap.size (fun k_ => some k_ ≠ (u6 : Value).ownBlock) v115 x3_1) ∧ Aside0 (Kd.R (Kd.int .i64) 3 w' w.heap.size (fun k_ => some k_ ≠ (v115 : Value).ownBlock) u6 x6_2) ∧ Aside0 (Below w.heap.size w w'))
                      case atStart => exact ⟨(true), (0), (by first | rfl | (simp; done) | (simp [*]; done)), (by first | rfl | (simp; done) | (simp [*]; done)), H', ⟨Nat.le_refl _⟩, ⟨by (with_reducible repeat (first | apply Kd.R_alloc | apply Kd.R_drewN | apply Kd.R_drew)); exact HO_3.out⟩, ⟨by (with_reducible repeat (first | apply Kd.R_alloc | apply Kd.R_drewN | apply Kd.R_drew)); exact HO_6.out⟩, ⟨by repeat (first | (with_reducible first | exact HB.out | apply below_alloc | apply pw_below_drewN | apply below_drew1) | exact HB.out)⟩⟩
                      case round =>
                        clear H'
                        try clear c1
                        try clear p1
                        try clear q1
                        try clear hx1
                        try clear qi1
                        try clear hf1
                        try clear c2
                        try clear c2b0
                        try clear c2b1
                        try clear p2
                        try clear c5
                        try clear c5b0
                        try clear c6
                        try clear c6b0
                        try clear p6
                        try clear c7
                        try clear c7b0
                        try clear c9
                        try clear c9b0
                        try clear c10
                        try clear c10b0
                        try clear p11
                        try clear q11
                        try clear hx11
                        try clear hf11
                        try clear c12
                        try clear p12
                        try clear q12
                        try clear hx12
                        try clear qi12
                        try clear c13
                        try clear c13b0
                        try clear c13b1
                        try clear c20
                        try clear c20b0
                        try clear c21
                        try clear c21b0
                        try clear c22
                        try clear c22b0
                        try clear c23
                        try clear c23b0
                        try clear c24
                        try clear c24b0
                        try clear c24b1
                        try clear c25
                        try clear c29
                        try clear c29b0
                        try clear hx117_0
                        try clear hx118_0
                        try clear hx11_0
                        try clear hx120_0
                        try clear hx121_0
                        try clear hx122_0
                        try clear p1
                        try clear p11
                        try clear p117
                        try clear p118
                        try clear p12
                        try clear p120
                        try clear p121
                        try clear p122
                        try clear p2
                        try clear p6
                        try clear q1
                        try clear q11
                        try clear q117
                        try clear q118
                        try clear q12
                        try clear q120
                        try clear q121
                        try clear q122
                        obtain ⟨x11_4, x12_4, rfl, rfl, HA, HK4, HO_3, HO_6, HB⟩ := hrel
                        cases gk with
                        | zero => exact absurd HA.out (by simp [gameroomref_HandValue.l4])
                        | succ k4 =>
                          have H := HA.out
                          clear HA
                          simp only [gameroomref_HandValue.l4] at H
                          by_cases c30 : x12_4 < 5
                          · rw [if_pos c30] at H
                            have c30b0 : decide (x12_4 < 5) = true := decide_eq_true c30
                            clear c30
                            by_cases c31 : x11_4 = true
                            · subst c31
                              have H1 : (if 0 ≤ (Int.tmod (wrap64 ((wrap64 (x10_3 - x12_4)) + 13)) 13) then (if (Int.tmod (wrap64 ((wrap64 (x10_3 - x12_4)) + 13)) 13) < (x3_1.length : Int) then (gameroomref_HandValue.l4 k4 x3_1 x4_1 x6_2 x9_3 x10_3 ((rd x3_1 (Int.tmod (wrap64 ((wrap64 (x10_3 - x12_4)) + 13)) 13)) == 1) (wrap64 (x12_4 + 1))) else (none)) else (none)) = some r := by rw [if_pos rfl] at H; exact H
                              clear H
                              have H := H1
                              clear H1
                              obtain ⟨ji32, hji32⟩ : ∃ j_ : Int, (Int.tmod (wrap64 ((wrap64 (x10_3 - x12_4)) + 13)) 13) = j_ := ⟨_, rfl⟩
                              replace H : (if 0 ≤ (ji32) then (if (ji32) < (x3_1.length : Int) then (gameroomref_HandValue.l4 k4 x3_1 x4_1 x6_2 x9_3 x10_3 ((rd x3_1 (ji32)) == 1) (wrap64 (x12_4 + 1))) else (none)) else (none)) = some r := by first | (rw [hji32] at H; exact H) | (simp only [hji32] at H ⊢; exact H)
                              by_cases c33 : 0 ≤ (ji32)
                              · rw [if_pos c33] at H
                                have c33b0 : decide (0 ≤ (ji32)) = true := decide_eq_true c33
                                clear c33
                                by_cases c34 : (ji32) < (x3_1.length : Int)
                                · rw [if_pos c34] at H
                                  have c34b0 : decide ((ji32) < (x3_1.length : Int)) = true := decide_eq_true c34
                                  clear c34
                                  have H' := Aside0.mk H
                                  clear H
                                  obtain ⟨Ao35, co35, eo35⟩ := Kd.R_slice HO_3.out
                                  subst eo35
                                  have p126 : 0 ≤ ((ji32) : Int) := of_decide_eq_true (by first | (with_reducible assumption) | assumption)
                                  have q126 : (ji32) < (x3_1.length : Int) := of_decide_eq_true (by first | (with_reducible assumption) | assumption)
                                  obtain ⟨ad126, e126, hx126_0⟩ := Kd.at_int (Kd.R_reads' HO_3.out).2.2 (ji32) p126 q126
                                  cases e126
                                  replace p126 := eq_true p126
                                  replace q126 := eq_true q126
                                  go_wp2
                                  repeat (go_quiet (fail); try go_wp2)
                                  go_roundg k4
                                  case measure => have := HK1.out; have := HK2.out; have := HK3.out; have := HK4.out; omega
                                  case rel => exact ⟨(((rd x3_1 (ji32)) == 1)), (wrap64 (x12_4 + 1)), (by first | rfl | (simp; done) | (simp only [← hji32] <;> (first | rfl | simp)) | (simp [*]; done)), (by first | rfl | (simp; done) | (simp [*]; done)), H', ⟨by have := HK1.out; have := HK2.out; have := HK3.out; have := HK4.out; omega⟩, ⟨by (with_reducible repeat (first | apply Kd.R_alloc | apply Kd.R_drewN | apply Kd.R_drew)); exact HO_3.out⟩, ⟨by (with_reducible repeat (first | apply Kd.R_alloc | apply Kd.R_drewN | apply Kd.R_drew)); exact HO_6.out⟩, ⟨by repeat (first | (with_reducible first | exact HB.out | apply below_alloc | apply pw_below_drewN | apply below_drew1) | exact HB.out)⟩⟩
                                · rw [if_neg c34] at H
                                  exact absurd H (by simp)
                              · rw [if_neg c33] at H
                                exact absurd H (by simp)
                            · replace c31 := Bool.eq_false_iff.mpr c31
                              subst c31
                              have H1 : (gameroomref_HandValue.l4 k4 x3_1 x4_1 x6_2 x9_3 x10_3 false (wrap64 (x12_4 + 1))) = some r := by rw [if_neg (show ¬ (false = true) by decide)] at H; exact H
                              clear H
                              have H := H1
                              clear H1
                              have H' := Aside0.mk H
                              clear H
                              go_wp2
                              repeat (go_quiet (fail); try go_wp2)
                              go_roundg k4
                              case measure => have := HK1.out; have := HK2.out; have := HK3.out; have := HK4.out; omega
                              case rel => exact ⟨(false), (wrap64 (x12_4 + 1)), (by first | rfl | (simp; done) | (simp [*]; done)), (by first | rfl | (simp; done) | (simp [*]; done)), H', ⟨by have := HK1.out; have := HK2.out; have := HK3.out; have := HK4.out; omega⟩, ⟨by (with_reducible repeat (first | apply Kd.R_alloc | apply Kd.R_drewN | apply Kd.R_drew)); exact HO_3.out⟩, ⟨by (with_reducible repeat (first | apply Kd.R_alloc | apply Kd.R_drewN | apply Kd.R_drew)); exact HO_6.out⟩, ⟨by repeat (first | (with_reducible first | exact HB.out | apply below_alloc | apply pw_below_drewN | apply below_drew1) | exact HB.out)⟩⟩
                          · rw [if_neg c30] at H
                            have c30b0 : decide (x12_4 < 5) = false := decide_eq_false c30
                            clear c30
                            by_cases c36 : x11_4 = true
                            · subst c36
                              have H1 : (gameroomref_HandValue.l3 k4 x3_1 x4_1 x6_2 x10_3 (wrap64 (x10_3 + 1))) = some r := by rw [if_pos rfl] at H; exact H
                              clear H
                              have H := H1
                              clear H1
                              have H' := Aside0.mk H
                              clear H
                              go_wp2
                              repeat (go_quiet (fail); try go_wp2)
                              go_roundg k4
                              case measure => have := HK1.out; have := HK2.out; have := HK3.out; have := HK4.out; omega
                              case rel => exact ⟨(x10_3), (wrap64 (x10_3 + 1)), (by first | rfl | (simp; done) | (simp [*]; done)), (by first | rfl | (simp; done) | (simp [*]; done)), H', ⟨by have := HK1.out; have := HK2.out; have := HK3.out; have := HK4.out; omega⟩, ⟨by (with_reducible repeat (first | apply Kd.R_alloc | apply Kd.R_drewN | apply Kd.R_drew)); exact HO_3.out⟩, ⟨by (with_reducible repeat (first | apply Kd.R_alloc | apply Kd.R_drewN | apply Kd.R_drew)); exact HO_6.out⟩, ⟨by repeat (first | (with_reducible first | exact HB.out | apply below_alloc | apply pw_below_drewN | apply below_drew1) | exact HB.out)⟩⟩
                            · replace c36 := Bool.eq_false_iff.mpr c36
                              subst c36
                              have H1 : (gameroomref_HandValue.l3 k4 x3_1 x4_1 x6_2 x9_3 (wrap64 (x10_3 + 1))) = some r := by rw [if_neg (show ¬ (false = true) by decide)] at H; exact H
                              clear H
                              have H := H1
                              clear H1
                              have H' := Aside0.mk H
                              clear H
                              go_wp2
                              repeat (go_quiet (fail); try go_wp2)
                              go_roundg k4
                              case measure => have := HK1.out; have := HK2.out; have := HK3.out; have := HK4.out; omega
                              case rel => exact ⟨(x9_3), (wrap64 (x10_3 + 1)), (by first | rfl | (simp; done) | (simp [*]; done)), (by first | rfl | (simp; done) | (simp [*]; done)), H', ⟨by have := HK1.out; have := HK2.out; have := HK3.out; have := HK4.out; omega⟩, ⟨by (with_reducible repeat (first | apply Kd.R_alloc | apply Kd.R_drewN | apply Kd.R_drew)); exact HO_3.out⟩, ⟨by (with_reducible repeat (first | apply Kd.R_alloc | apply Kd.R_drewN | apply Kd.R_drew)); exact HO_6.out⟩, ⟨by repeat (first | (with_reducible first | exact HB.out | apply below_alloc | apply pw_below_drewN | apply below_drew1) | exact HB.out)⟩⟩
                    · rw [if_neg c29] at H
                      have c29b0 : decide (x10_3 < 13) = false := decide_eq_false c29
                      clear c29
                      have HC37 := Aside0.mk H
                      clear H
                      go_upto_region 29 with (fail)
                      repeat (go_quiet (fail); go_upto_region 29 with (fail))
                      go_cut [88] (fun v88 wc => ∃ (kq : Nat) (x88_36 : Bool), v88 = .bool x88_36 ∧ Aside0 (gameroomref_HandValue.j5 kq x3_1 x4_1 x6_2 x9_3 0 x88_36 = some r) ∧ Aside0 (kq ≤ k3) ∧ Aside0 (Kd.R (Kd.int .i64) 3 wc w.heap.size (fun k_ => some k_ ≠ (u6 : Value).ownBlock) v115 x3_1) ∧ Aside0 (Kd.R (Kd.int .i64) 3 wc w.heap.size (fun k_ => some k_ ≠ (v115 : Value).ownBlock) u6 x6_2) ∧ Aside0 (Below w.heap.size w wc))
                      case first =>
                        have H := HC37.out
                        clear HC37
                        by_cases c38 : x9_3 ≥ 0
                        · rw [if_pos c38] at H
                          have c38b0 : decide (0 ≤ x9_3) = true := decide_eq_true c38
                          clear c38
                          (first | rw [c38b0] | (simp only [i64_w, i32_w]; rw [c38b0]) | skip)
                          have H' := Aside0.mk H
                          clear H
                          go_wp2
                          repeat (go_quiet (fail); try go_wp2)
                          go_meet
                          case rel => exact ⟨_, (x4_1), (by first | rfl | (simp; done) | (simp [*]; done)), H', ⟨by have := HK1.out; have := HK2.out; have := HK3.out; first | omega | exact Nat.le_refl _⟩, ⟨by (with_reducible repeat (first | apply Kd.R_alloc | apply Kd.R_drewN | apply Kd.R_drew)); exact HO_3.out⟩, ⟨by (with_reducible repeat (first | apply Kd.R_alloc | apply Kd.R_drewN | apply Kd.R_drew)); exact HO_6.out⟩, ⟨by repeat (first | (with_reducible first | exact HB.out | apply below_alloc | apply pw_below_drewN | apply below_drew1) | exact HB.out)⟩⟩
                        · rw [if_neg c38] at H
                          have c38b0 : decide (0 ≤ x9_3) = false := decide_eq_false c38
                          clear c38
                          (first | rw [c38b0] | (simp only [i64_w, i32_w]; rw [c38b0]) | skip)
                          have H' := Aside0.mk H
                          clear H
                          go_wp2
                          repeat (go_quiet (fail); try go_wp2)
                          go_meet
                          case rel => exact ⟨_, (false), (by first | rfl | (simp; done) | (simp [*]; done)), H', ⟨by have := HK1.out; have := HK2.out; have := HK3.out; first | omega | exact Nat.le_refl _⟩, ⟨by (with_reducible repeat (first | apply Kd.R_alloc | apply Kd.R_drewN | apply Kd.R_drew)); exact HO_3.out⟩, ⟨by (with_reducible repeat (first | apply Kd.R_alloc | apply Kd.R_drewN | apply Kd.R_drew)); exact HO_6.out⟩, ⟨by repeat (first | (with_reducible first | exact HB.out | apply below_alloc | apply pw_below_drewN | apply below_drew1) | exact HB.out)⟩⟩
                      case rest =>
                        clear HC37
                        try clear c1
                        try clear p1
                        try clear q1
                        try clear hx1
                        try clear qi1
                        try clear hf1
                        try clear c2
                        try clear c2b0
                        try clear c2b1
                        try clear p2
                        try clear c3
                        try clear c5
                        try clear c5b0
                        try clear c6
                        try clear c6b0
                        try clear p6
                        try clear c7
                        try clear c7b0
                        try clear c9
                        try clear c9b0
                        try clear c10
                        try clear c10b0
                        try clear p11
                        try clear q11
                        try clear hx11
                        try clear hf11
                        try clear c12
                        try clear p12
                        try clear q12
                        try clear hx12
                        try clear qi12
                        try clear c13
                        try clear c13b0
                        try clear c13b1
                        try clear c20
                        try clear c20b0
                        try clear c21
                        try clear c21b0
                        try clear c22
                        try clear c22b0
                        try clear c23
                        try clear c23b0
                        try clear c24
                        try clear c24b0
                        try clear c24b1
                        try clear c25
                        try clear c29
                        try clear c29b0
                        try clear c30
                        try clear c30b0
                        try clear c31
                        try clear c33
                        try clear c33b0
                        try clear c34
                        try clear c34b0
                        try clear c36
                        try clear c38
                        try clear c38b0
                        try clear hx117_0
                        try clear hx118_0
                        try clear hx11_0
                        try clear hx120_0
                        try clear hx121_0
                        try clear hx122_0
                        try clear hx126_0
                        try clear p1
                        try clear p11
                        try clear p117
                        try clear p118
                        try clear p12
                        try clear p120
                        try clear p121
                        try clear p122
                        try clear p126
                        try clear p2
                        try clear p6
                        try clear q1
                        try clear q11
                        try clear q117
                        try clear q118
                        try clear q12
                        try clear q120
                        try clear q121
                        try clear q122
                        try clear q126
                        obtain ⟨kq, x88_36, rfl, HA, HJ36, HO_3, HO_6, HB⟩ := hcut
                        cases kq with
                        | zero => exact absurd HA.out (by simp [gameroomref_HandValue.j5])
                        | succ kj36 =>
                          have H := HA.out
                          clear HA
                          simp only [gameroomref_HandValue.j5] at H
                          have HC39 := Aside0.mk H
                          clear H
                          go_upto_if 88 with (fail)
                          repeat (go_quiet (fail); go_upto_if 88 with (fail))
                          go_cut [13] (fun v13 wc => ∃ (kq : Nat) (x13_38 : Int), v13 = .int .i64 x13_38 ∧ Aside0 (gameroomref_HandValue.j8 kq x6_2 x9_3 x13_38 = some r) ∧ Aside0 (kq ≤ kj36) ∧ Aside0 (Kd.R (Kd.int .i64) 3 wc w.heap.size (fun _ => True) u6 x6_2) ∧ Aside0 (Below w.heap.size w wc))
                          case first =>
                            have H := HC39.out
                            clear HC39
                            by_cases c40 : x88_36 = true
                            · subst c40
                              have H1 : (gameroomref_HandValue.j8 kj36 x6_2 x9_3 8) = some r := by rw [if_pos rfl] at H; exact H
                              clear H
                              have H := H1
                              clear H1
                              have H' := Aside0.mk H
                              clear H
                              go_wp2
                              repeat (go_quiet (fail); try go_wp2)
                              go_meet
                              case rel => exact ⟨_, (8), (by first | rfl | (simp; done) | (simp [*]; done)), H', ⟨by have := HK1.out; have := HK2.out; have := HK3.out; have := HJ36.out; first | omega | exact Nat.le_refl _⟩, ⟨by (with_reducible repeat (first | apply Kd.R_alloc | apply Kd.R_drewN | apply Kd.R_drew)); exact Kd.R_mono HO_6.out (fun _ hk => trivial)⟩, ⟨by repeat (first | (with_reducible first | exact HB.out | apply below_alloc | apply pw_below_drewN | apply below_drew1) | exact HB.out)⟩⟩
                            · replace c40 := Bool.eq_false_iff.mpr c40
                              subst c40
                              have H1 : (if 0 < (x6_2.length : Int) then (if 0 ≤ (rd x6_2 0) then (if (rd x6_2 0) < (x3_1.length : Int) then (if (rd x3_1 (rd x6_2 0)) = 4 then (gameroomref_HandValue.j8 kj36 x6_2 x9_3 7) else (if (rd x3_1 (rd x6_2 0)) = 3 then (if 1 < (x6_2.length : Int) then (if 0 ≤ (rd x6_2 1) then (if (rd x6_2 1) < (x3_1.length : Int) then (gameroomref_HandValue.j6 kj36 x3_1 x4_1 x6_2 x9_3 0 ((rd x3_1 (rd x6_2 1)) == 2)) else (none)) else (none)) else (none)) else (gameroomref_HandValue.j6 kj36 x3_1 x4_1 x6_2 x9_3 0 false))) else (none)) else (none)) else (none)) = some r := by rw [if_neg (show ¬ (false = true) by decide)] at H; exact H
                              clear H
                              have H := H1
                              clear H1
                              by_cases c41 : 0 < (x6_2.length : Int)
                              · rw [if_pos c41] at H
                                have c41b0 : decide (0 < (x6_2.length : Int)) = true := decide_eq_true c41
                                have c41b1 : decide (0 < x6_2.length) = true := decide_eq_true (by omega)
                                clear c41
                                (first | rw [c41b0] | (simp only [i64_w, i32_w]; rw [c41b0]) | skip)
                                by_cases c42 : 0 ≤ (rd x6_2 0)
                                · rw [if_pos c42] at H
                                  have c42b0 : decide (0 ≤ (rd x6_2 0)) = true := decide_eq_true c42
                                  clear c42
                                  by_cases c43 : (rd x6_2 0) < (x3_1.length : Int)
                                  · rw [if_pos c43] at H
                                    have c43b0 : decide ((rd x6_2 0) < (x3_1.length : Int)) = true := decide_eq_true c43
                                    clear c43
                                    by_cases c44 : (rd x3_1 (rd x6_2 0)) = 4
                                    · rw [if_pos c44] at H
                                      have c44b0 : ((rd x3_1 (rd x6_2 0)) == 4) = true := beq_iff_eq.mpr c44
                                      have c44b1 : ((rd x3_1 (rd x6_2 0)) != 4) = false := bne_eq_false_iff_eq.mpr c44
                                      clear c44
                                      have H' := Aside0.mk H
                                      clear H
                                      obtain ⟨Ao45, co45, eo45⟩ := Kd.R_slice HO_6.out
                                      subst eo45
                                      have p127 : 0 ≤ (0 : Int) := (by omega)
                                      have q127 : 0 < (x6_2.length : Int) := of_decide_eq_true (by first | (with_reducible assumption) | assumption)
                                      obtain ⟨ad127, e127, hx127_0⟩ := Kd.at_int (Kd.R_reads' HO_6.out).2.2 0 p127 q127
                                      cases e127
                                      have qi127 : (0 < x6_2.length) = True := eq_true (by omega)
                                      (try rw [show ((0 : Int)).toNat = 0 from rfl] at hx127_0)
                                      (try rw [Addr.add_zero'] at hx127_0)
                                      replace p127 := eq_true p127
                                      replace q127 := eq_true q127
                                      obtain ⟨Ao46, co46, eo46⟩ := Kd.R_slice HO_3.out
                                      subst eo46
                                      have p128 : 0 ≤ ((rd x6_2 0) : Int) := of_decide_eq_true (by first | (with_reducible assumption) | assumption)
                                      have q128 : (rd x6_2 0) < (x3_1.length : Int) := of_decide_eq_true (by first | (with_reducible assumption) | assumption)
                                      obtain ⟨ad128, e128, hx128_0⟩ := Kd.at_int (Kd.R_reads' HO_3.out).2.2 (rd x6_2 0) p128 q128
                                      cases e128
                                      replace p128 := eq_true p128
                                      replace q128 := eq_true q128
                                      go_wp2
                                      repeat (go_quiet (fail); try go_wp2)
                                      go_meet
                                      case rel => exact ⟨_, (7), (by first | rfl | (simp; done) | (simp [*]; done)), H', ⟨by have := HK1.out; have := HK2.out; have := HK3.out; have := HJ36.out; first | omega | exact Nat.le_refl _⟩, ⟨by (with_reducible repeat (first | apply Kd.R_alloc | apply Kd.R_drewN | apply Kd.R_drew)); exact Kd.R_mono HO_6.out (fun _ hk => trivial)⟩, ⟨by repeat (first | (with_reducible first | exact HB.out | apply below_alloc | apply pw_below_drewN | apply below_drew1) | exact HB.out)⟩⟩
                                    · rw [if_neg c44] at H
                                      have c44b0 : ((rd x3_1 (rd x6_2 0)) == 4) = false := beq_eq_false_iff_ne.mpr c44
                                      have c44b1 : ((rd x3_1 (rd x6_2 0)) != 4) = true := bne_iff_ne.mpr c44
                                      have HC47 := Aside0.mk H
                                      clear H
                                      obtain ⟨Ao48, co48, eo48⟩ := Kd.R_slice HO_6.out
                                      subst eo48
                                      have p127 : 0 ≤ (0 : Int) := (by omega)
                                      have q127 : 0 < (x6_2.length : Int) := of_decide_eq_true (by first | (with_reducible assumption) | assumption)
                                      obtain ⟨ad127, e127, hx127_0⟩ := Kd.at_int (Kd.R_reads' HO_6.out).2.2 0 p127 q127
                                      cases e127
                                      have qi127 : (0 < x6_2.length) = True := eq_true (by omega)
                                      (try rw [show ((0 : Int)).toNat = 0 from rfl] at hx127_0)
                                      (try rw [Addr.add_zero'] at hx127_0)
                                      replace p127 := eq_true p127
                                      replace q127 := eq_true q127
                                      obtain ⟨Ao49, co49, eo49⟩ := Kd.R_slice HO_3.out
                                      subst eo49
                                      have p128 : 0 ≤ ((rd x6_2 0) : Int) := of_decide_eq_true (by first | (with_reducible assumption) | assumption)
                                      have q128 : (rd x6_2 0) < (x3_1.length : Int) := of_decide_eq_true (by first | (with_reducible assumption) | assumption)
                                      obtain ⟨ad128, e128, hx128_0⟩ := Kd.at_int (Kd.R_reads' HO_3.out).2.2 (rd x6_2 0) p128 q128
                                      cases e128
                                      replace p128 := eq_true p128
                                      replace q128 := eq_true q128
                                      go_upto_region 33 with (fail)
                                      repeat (go_quiet (fail); go_upto_region 33 with (fail))
                                      go_cut [111] (fun v111 wc => ∃ (kq : Nat) (x111_46 : Bool), v111 = .bool x111_46 ∧ Aside0 (gameroomref_HandValue.j6 kq x3_1 x4_1 x6_2 x9_3 0 x111_46 = some r) ∧ Aside0 (kq ≤ kj36) ∧ Aside0 (Kd.R (Kd.int .i64) 3 wc w.heap.size (fun k_ => some k_ ≠ ((.slice (some ad127) x6_2.length co48) : Value).ownBlock) (.slice (some ad128) x3_1.length co49) x3_1) ∧ Aside0 (Kd.R (Kd.int .i64) 3 wc w.heap.size (fun k_ => some k_ ≠ ((.slice (some ad128) x3_1.length co49) : Value).ownBlock) (.slice (some ad127) x6_2.length co48) x6_2) ∧ Aside0 (Below w.heap.size w wc))
                                      case first =>
                                        have H := HC47.out
                                        clear HC47
                                        by_cases c50 : (rd x3_1 (rd x6_2 0)) = 3
                                        · rw [if_pos c50] at H
                                          have c50b0 : ((rd x3_1 (rd x6_2 0)) == 3) = true := beq_iff_eq.mpr c50
                                          have c50b1 : ((rd x3_1 (rd x6_2 0)) != 3) = false := bne_eq_false_iff_eq.mpr c50
                                          clear c50
                                          (first | rw [c50b0] | (simp only [i64_w, i32_w]; rw [c50b0]) | skip)
                                          by_cases c51 : 1 < (x6_2.length : Int)
                                          · rw [if_pos c51] at H
                                            have c51b0 : decide (1 < (x6_2.length : Int)) = true := decide_eq_true c51
                                            have c51b1 : decide (1 < x6_2.length) = true := decide_eq_true (by omega)
                                            clear c51
                                            by_cases c52 : 0 ≤ (rd x6_2 1)
                                            · rw [if_pos c52] at H
                                              have c52b0 : decide (0 ≤ (rd x6_2 1)) = true := decide_eq_true c52
                                              clear c52
                                              by_cases c53 : (rd x6_2 1) < (x3_1.length : Int)
                                              · rw [if_pos c53] at H
                                                have c53b0 : decide ((rd x6_2 1) < (x3_1.length : Int)) = true := decide_eq_true c53
                                                clear c53
                                                have H' := Aside0.mk H
                                                clear H
                                                have p129 : 0 ≤ (0 : Int) := (by omega)
                                                have q129 : 0 < (x6_2.length : Int) := of_decide_eq_true (by first | (with_reducible assumption) | assumption)
                                                obtain ⟨ad129, e129, hx129_0⟩ := Kd.at_int (Kd.R_reads' HO_6.out).2.2 0 p129 q129
                                                obtain rfl : ad127 = ad129 := (by injection e129)
                                                have qi129 : (0 < x6_2.length) = True := eq_true (by omega)
                                                (try rw [show ((0 : Int)).toNat = 0 from rfl] at hx129_0)
                                                (try rw [Addr.add_zero'] at hx129_0)
                                                replace p129 := eq_true p129
                                                replace q129 := eq_true q129
                                                have p130 : 0 ≤ ((rd x6_2 0) : Int) := of_decide_eq_true (by first | (with_reducible assumption) | assumption)
                                                have q130 : (rd x6_2 0) < (x3_1.length : Int) := of_decide_eq_true (by first | (with_reducible assumption) | assumption)
                                                obtain ⟨ad130, e130, hx130_0⟩ := Kd.at_int (Kd.R_reads' HO_3.out).2.2 (rd x6_2 0) p130 q130
                                                obtain rfl : ad128 = ad130 := (by injection e130)
                                                replace p130 := eq_true p130
                                                replace q130 := eq_true q130
                                                have p131 : 0 ≤ (1 : Int) := (by omega)
                                                have q131 : 1 < (x6_2.length : Int) := of_decide_eq_true (by first | (with_reducible assumption) | assumption)
                                                obtain ⟨ad131, e131, hx131_0⟩ := Kd.at_int (Kd.R_reads' HO_6.out).2.2 1 p131 q131
                                                obtain rfl : ad127 = ad131 := (by injection e131)
                                                (try simp only [show (1 : Int).toNat = 1 from rfl, Nat.reduceMul, Nat.reduceEqDiff, Go.Addr.add, ↓reduceIte] at hx131_0)
                                                have qi131 : (1 < x6_2.length) = True := eq_true (by omega)
                                                (try rw [show ((1 : Int)).toNat = 1 from rfl] at hx131_0)
                                                replace p131 := eq_true p131
                                                replace q131 := eq_true q131
                                                have p132 : 0 ≤ ((rd x6_2 1) : Int) := of_decide_eq_true (by first | (with_reducible assumption) | assumption)
                                                have q132 : (rd x6_2 1) < (x3_1.length : Int) := of_decide_eq_true (by first | (with_reducible assumption) | assumption)
                                                obtain ⟨ad132, e132, hx132_0⟩ := Kd.at_int (Kd.R_reads' HO_3.out).2.2 (rd x6_2 1) p132 q132
                                                obtain rfl : ad128 = ad132 := (by injection e132)
                                                replace p132 := eq_true p132
                                                replace q132 := eq_true q132
                                                go_wp2
                                                repeat (go_quiet (fail); try go_wp2)
                                                go_meet
                                                case rel => exact ⟨_, (((rd x3_1 (rd x6_2 1)) == 2)), (by first | rfl | (simp; done) | (simp [*]; done)), H', ⟨by have := HK1.out; have := HK2.out; have := HK3.out; have := HJ36.out; first | omega | exact Nat.le_refl _⟩, ⟨by (with_reducible repeat (first | apply Kd.R_alloc | apply Kd.R_drewN | apply Kd.R_drew)); exact HO_3.out⟩, ⟨by (with_reducible repeat (first | apply Kd.R_alloc | apply Kd.R_drewN | apply Kd.R_drew)); exact HO_6.out⟩, ⟨by repeat (first | (with_reducible first | exact HB.out | apply below_alloc | apply pw_below_drewN | apply below_drew1) | exact HB.out)⟩⟩
                                              · rw [if_neg c53] at H
                                                exact absurd H (by simp)
                                            · rw [if_neg c52] at H
                                              exact absurd H (by simp)
                                          · rw [if_neg c51] at H
                                            exact absurd H (by simp)
                                        · rw [if_neg c50] at H
                                          have c50b0 : ((rd x3_1 (rd x6_2 0)) == 3) = false := beq_eq_false_iff_ne.mpr c50
                                          have c50b1 : ((rd x3_1 (rd x6_2 0)) != 3) = true := bne_iff_ne.mpr c50
                                          (first | rw [c50b0] | (simp only [i64_w, i32_w]; rw [c50b0]) | skip)
                                          have H' := Aside0.mk H
                                          clear H
                                          have p129 : 0 ≤ (0 : Int) := (by omega)
                                          have q129 : 0 < (x6_2.length : Int) := of_decide_eq_true (by first | (with_reducible assumption) | assumption)
                                          obtain ⟨ad129, e129, hx129_0⟩ := Kd.at_int (Kd.R_reads' HO_6.out).2.2 0 p129 q129
                                          obtain rfl : ad127 = ad129 := (by injection e129)
                                          have qi129 : (0 < x6_2.length) = True := eq_true (by omega)
                                          (try rw [show ((0 : Int)).toNat = 0 from rfl] at hx129_0)
                                          (try rw [Addr.add_zero'] at hx129_0)
                                          replace p129 := eq_true p129
                                          replace q129 := eq_true q129
                                          have p130 : 0 ≤ ((rd x6_2 0) : Int) := of_decide_eq_true (by first | (with_reducible assumption) | assumption)
                                          have q130 : (rd x6_2 0) < (x3_1.length : Int) := of_decide_eq_true (by first | (with_reducible assumption) | assumption)
                                          obtain ⟨ad130, e130, hx130_0⟩ := Kd.at_int (Kd.R_reads' HO_3.out).2.2 (rd x6_2 0) p130 q130
                                          obtain rfl : ad128 = ad130 := (by injection e130)
                                          replace p130 := eq_true p130
                                          replace q130 := eq_true q130
                                          go_wp2
                                          repeat (go_quiet (fail); try go_wp2)
                                          go_meet
                                          case rel => exact ⟨_, (false), (by first | rfl | (simp; done) | (simp [*]; done)), H', ⟨by have := HK1.out; have := HK2.out; have := HK3.out; have := HJ36.out; first | omega | exact Nat.le_refl _⟩, ⟨by (with_reducible repeat (first | apply Kd.R_alloc | apply Kd.R_drewN | apply Kd.R_drew)); exact HO_3.out⟩, ⟨by (with_reducible repeat (first | apply Kd.R_alloc | apply Kd.R_drewN | apply Kd.R_drew)); exact HO_6.out⟩, ⟨by repeat (first | (with_reducible first | exact HB.out | apply below_alloc | apply pw_below_drewN | apply below_drew1) | exact HB.out)⟩⟩
                                      case rest =>
                                        clear HC47
                                        try clear c1
                                        try clear p1
                                        try clear q1
                                        try clear hx1
                                        try clear qi1
                                        try clear hf1
                                        try clear c2
                                        try clear c2b0
                                        try clear c2b1
                                        try clear p2
                                        try clear c3
                                        try clear c4
                                        try clear c5
                                        try clear c5b0
                                        try clear c6
                                        try clear c6b0
                                        try clear p6
                                        try clear c7
                                        try clear c7b0
                                        try clear c9
                                        try clear c9b0
                                        try clear c10
                                        try clear c10b0
                                        try clear p11
                                        try clear q11
                                        try clear hx11
                                        try clear hf11
                                        try clear c12
                                        try clear p12
                                        try clear q12
                                        try clear hx12
                                        try clear qi12
                                        try clear c13
                                        try clear c13b0
                                        try clear c13b1
                                        try clear p13
                                        try clear q13
                                        try clear hx13
                                        try clear qi13
                                        try clear c20
                                        try clear c20b0
                                        try clear c21
                                        try clear c21b0
                                        try clear c22
                                        try clear c22b0
                                        try clear c23
                                        try clear c23b0
                                        try clear c24
                                        try clear c24b0
                                        try clear c24b1
                                        try clear c25
                                        try clear c29
                                        try clear c29b0
                                        try clear c30
                                        try clear c30b0
                                        try clear c31
                                        try clear c33
                                        try clear c33b0
                                        try clear c34
                                        try clear c34b0
                                        try clear c36
                                        try clear c38
                                        try clear c38b0
                                        try clear c40
                                        try clear c41
                                        try clear c41b0
                                        try clear c41b1
                                        try clear c42
                                        try clear c42b0
                                        try clear c43
                                        try clear c43b0
                                        try clear c44
                                        try clear c44b0
                                        try clear c44b1
                                        try clear c50
                                        try clear c50b0
                                        try clear c50b1
                                        try clear c51
                                        try clear c51b0
                                        try clear c51b1
                                        try clear c52
                                        try clear c52b0
                                        try clear c53
                                        try clear c53b0
                                        try clear hx117_0
                                        try clear hx118_0
                                        try clear hx11_0
                                        try clear hx120_0
                                        try clear hx121_0
                                        try clear hx122_0
                                        try clear hx126_0
                                        try clear hx127_0
                                        try clear hx128_0
                                        try clear hx129_0
                                        try clear hx130_0
                                        try clear hx131_0
                                        try clear hx132_0
                                        try clear p1
                                        try clear p11
                                        try clear p117
                                        try clear p118
                                        try clear p12
                                        try clear p120
                                        try clear p121
                                        try clear p122
                                        try clear p126
                                        try clear p127
                                        try clear p128
                                        try clear p129
                                        try clear p130
                                        try clear p131
                                        try clear p132
                                        try clear p2
                                        try clear p6
                                        try clear q1
                                        try clear q11
                                        try clear q117
                                        try clear q118
                                        try clear q12
                                        try clear q120
                                        try clear q121
                                        try clear q122
                                        try clear q126
                                        try clear q127
                                        try clear q128
                                        try clear q129
                                        try clear q130
                                        try clear q131
                                        try clear q132
                                        obtain ⟨kq, x111_46, rfl, HA, HJ46, HO_3, HO_6, HB⟩ := hcut
                                        cases kq with
                                        | zero => exact absurd HA.out (by simp [gameroomref_HandValue.j6])
                                        | succ kj46 =>
                                          have H := HA.out
                                          clear HA
                                          simp only [gameroomref_HandValue.j6] at H
                                          by_cases c54 : x111_46 = true
                                          · subst c54
                                            have H1 : (gameroomref_HandValue.j8 kj46 x6_2 x9_3 6) = some r := by rw [if_pos rfl] at H; exact H
                                            clear H
                                            have H := H1
                                            clear H1
                                            have H' := Aside0.mk H
                                            clear H
                                            go_wp2
                                            repeat (go_quiet (fail); try go_wp2)
                                            go_meet
                                            case rel => exact ⟨_, (6), (by first | rfl | (simp; done) | (simp [*]; done)), H', ⟨by have := HK1.out; have := HK2.out; have := HK3.out; have := HJ36.out; have := HJ46.out; first | omega | exact Nat.le_refl _⟩, ⟨by (with_reducible repeat (first | apply Kd.R_alloc | apply Kd.R_drewN | apply Kd.R_drew)); exact Kd.R_mono HO_6.out (fun _ hk => trivial)⟩, ⟨by repeat (first | (with_reducible first | exact HB.out | apply below_alloc | apply pw_below_drewN | apply below_drew1) | exact HB.out)⟩⟩
                                          · replace c54 := Bool.eq_false_iff.mpr c54
                                            subst c54
                                            have H1 : (if x4_1 = true then (gameroomref_HandValue.j8 kj46 x6_2 x9_3 5) else (if x9_3 ≥ 0 then (gameroomref_HandValue.j8 kj46 x6_2 x9_3 4) else (if 0 < (x6_2.length : Int) then (if 0 ≤ (rd x6_2 0) then (if (rd x6_2 0) < (x3_1.length : Int) then (if (rd x3_1 (rd x6_2 0)) = 3 then (gameroomref_HandValue.j8 kj46 x6_2 x9_3 3) else (if (rd x3_1 (rd x6_2 0)) = 2 then (if 1 < (x6_2.length : Int) then (if 0 ≤ (rd x6_2 1) then (if (rd x6_2 1) < (x3_1.length : Int) then (gameroomref_HandValue.j7 kj46 x3_1 x6_2 x9_3 0 ((rd x3_1 (rd x6_2 1)) == 2)) else (none)) else (none)) else (none)) else (gameroomref_HandValue.j7 kj46 x3_1 x6_2 x9_3 0 false))) else (none)) else (none)) else (none)))) = some r := by rw [if_neg (show ¬ (false = true) by decide)] at H; exact H
                                            clear H
                                            have H := H1
                                            clear H1
                                            by_cases c55 : x4_1 = true
                                            · subst c55
                                              have H1 : (gameroomref_HandValue.j8 kj46 x6_2 x9_3 5) = some r := by rw [if_pos rfl] at H; exact H
                                              clear H
                                              have H := H1
                                              clear H1
                                              have H' := Aside0.mk H
                                              clear H
                                              go_wp2
                                              repeat (go_quiet (fail); try go_wp2)
                                              go_meet
                                              case rel => exact ⟨_, (5), (by first | rfl | (simp; done) | (simp [*]; done)), H', ⟨by have := HK1.out; have := HK2.out; have := HK3.out; have := HJ36.out; have := HJ46.out; first | omega | exact Nat.le_refl _⟩, ⟨by (with_reducible repeat (first | apply Kd.R_alloc | apply Kd.R_drewN | apply Kd.R_drew)); exact Kd.R_mono HO_6.out (fun _ hk => trivial)⟩, ⟨by repeat (first | (with_reducible first | exact HB.out | apply below_alloc | apply pw_below_drewN | apply below_drew1) | exact HB.out)⟩⟩
                                            · replace c55 := Bool.eq_false_iff.mpr c55
                                              subst c55
                                              have H1 : (if x9_3 ≥ 0 then (gameroomref_HandValue.j8 kj46 x6_2 x9_3 4) else (if 0 < (x6_2.length : Int) then (if 0 ≤ (rd x6_2 0) then (if (rd x6_2 0) < (x3_1.length : Int) then (if (rd x3_1 (rd x6_2 0)) = 3 then (gameroomref_HandValue.j8 kj46 x6_2 x9_3 3) else (if (rd x3_1 (rd x6_2 0)) = 2 then (if 1 < (x6_2.length : Int) then (if 0 ≤ (rd x6_2 1) then (if (rd x6_2 1) < (x3_1.length : Int) then (gameroomref_HandValue.j7 kj46 x3_1 x6_2 x9_3 0 ((rd x3_1 (rd x6_2 1)) == 2)) else (none)) else (none)) else (none)) else (gameroomref_HandValue.j7 kj46 x3_1 x6_2 x9_3 0 false))) else (none)) else (none)) else (none))) = some r := by rw [if_neg (show ¬ (false = true) by decide)] at H; exact H
                                              clear H
                                              have H := H1
                                              clear H1
                                              by_cases c56 : x9_3 ≥ 0
                                              · rw [if_pos c56] at H
                                                have c56b0 : decide (0 ≤ x9_3) = true := decide_eq_true c56
                                                clear c56
                                                have H' := Aside0.mk H
                                                clear H
                                                go_wp2
                                                repeat (go_quiet (fail); try go_wp2)
                                                go_meet
                                                case rel => exact ⟨_, (4), (by first | rfl | (simp; done) | (simp [*]; done)), H', ⟨by have := HK1.out; have := HK2.out; have := HK3.out; have := HJ36.out; have := HJ46.out; first | omega | exact Nat.le_refl _⟩, ⟨by (with_reducible repeat (first | apply Kd.R_alloc | apply Kd.R_drewN | apply Kd.R_drew)); exact Kd.R_mono HO_6.out (fun _ hk => trivial)⟩, ⟨by repeat (first | (with_reducible first | exact HB.out | apply below_alloc | apply pw_below_drewN | apply below_drew1) | exact HB.out)⟩⟩
                                              · rw [if_neg c56] at H
                                                have c56b0 : decide (0 ≤ x9_3) = false := decide_eq_false c56
                                                clear c56
                                                by_cases c57 : 0 < (x6_2.length : Int)
                                                · rw [if_pos c57] at H
                                                  have c57b0 : decide (0 < (x6_2.length : Int)) = true := decide_eq_true c57
                                                  have c57b1 : decide (0 < x6_2.length) = true := decide_eq_true (by omega)
                                                  clear c57
                                                  by_cases c58 : 0 ≤ (rd x6_2 0)
                                                  · rw [if_pos c58] at H
                                                    have c58b0 : decide (0 ≤ (rd x6_2 0)) = true := decide_eq_true c58
                                                    clear c58
                                                    by_cases c59 : (rd x6_2 0) < (x3_1.length : Int)
                                                    · rw [if_pos c59] at H
                                                      have c59b0 : decide ((rd x6_2 0) < (x3_1.length : Int)) = true := decide_eq_true c59
                                                      clear c59
                                                      by_cases c60 : (rd x3_1 (rd x6_2 0)) = 3
                                                      · rw [if_pos c60] at H
                                                        have c60b0 : ((rd x3_1 (rd x6_2 0)) == 3) = true := beq_iff_eq.mpr c60
                                                        have c60b1 : ((rd x3_1 (rd x6_2 0)) != 3) = false := bne_eq_false_iff_eq.mpr c60
                                                        clear c60
                                                        have H' := Aside0.mk H
                                                        clear H
                                                        have p133 : 0 ≤ (0 : Int) := (by omega)
                                                        have q133 : 0 < (x6_2.length : Int) := of_decide_eq_true (by first | (with_reducible assumption) | assumption)
                                                        obtain ⟨ad133, e133, hx133_0⟩ := Kd.at_int (Kd.R_reads' HO_6.out).2.2 0 p133 q133
                                                        obtain rfl : ad127 = ad133 := (by injection e133)
                                                        have qi133 : (0 < x6_2.length) = True := eq_true (by omega)
                                                        (try rw [show ((0 : Int)).toNat = 0 from rfl] at hx133_0)
                                                        (try rw [Addr.add_zero'] at hx133_0)
                                                        replace p133 := eq_true p133
                                                        replace q133 := eq_true q133
                                                        have p134 : 0 ≤ ((rd x6_2 0) : Int) := of_decide_eq_true (by first | (with_reducible assumption) | assumption)
                                                        have q134 : (rd x6_2 0) < (x3_1.length : Int) := of_decide_eq_true (by first | (with_reducible assumption) | assumption)
                                                        obtain ⟨ad134, e134, hx134_0⟩ := Kd.at_int (Kd.R_reads' HO_3.out).2.2 (rd x6_2 0) p134 q134
                                                        obtain rfl : ad128 = ad134 := (by injection e134)
                                                        replace p134 := eq_true p134
                                                        replace q134 := eq_true q134
                                                        go_wp2
                                                        repeat (go_quiet (fail); try go_wp2)
                                                        go_meet
                                                        case rel => exact ⟨_, (3), (by first | rfl | (simp; done) | (simp [*]; done)), H', ⟨by have := HK1.out; have := HK2.out; have := HK3.out; have := HJ36.out; have := HJ46.out; first | omega | exact Nat.le_refl _⟩, ⟨by (with_reducible repeat (first | apply Kd.R_alloc | apply Kd.R_drewN | apply Kd.R_drew)); exact Kd.R_mono HO_6.out (fun _ hk => trivial)⟩, ⟨by repeat (first | (with_reducible first | exact HB.out | apply below_alloc | apply pw_below_drewN | apply below_drew1) | exact HB.out)⟩⟩
                                                      · rw [if_neg c60] at H
                                                        have c60b0 : ((rd x3_1 (rd x6_2 0)) == 3) = false := beq_eq_false_iff_ne.mpr c60
                                                        have c60b1 : ((rd x3_1 (rd x6_2 0)) != 3) = true := bne_iff_ne.mpr c60
                                                        have HC61 := Aside0.mk H
                                                        clear H
                                                        have p133 : 0 ≤ (0 : Int) := (by omega)
                                                        have q133 : 0 < (x6_2.length : Int) := of_decide_eq_true (by first | (with_reducible assumption) | assumption)
                                                        obtain ⟨ad133, e133, hx133_0⟩ := Kd.at_int (Kd.R_reads' HO_6.out).2.2 0 p133 q133
                                                        obtain rfl : ad127 = ad133 := (by injection e133)
                                                        have qi133 : (0 < x6_2.length) = True := eq_true (by omega)
                                                        (try rw [show ((0 : Int)).toNat = 0 from rfl] at hx133_0)
                                                        (try rw [Addr.add_zero'] at hx133_0)
                                                        replace p133 := eq_true p133
                                                        replace q133 := eq_true q133
                                                        have p134 : 0 ≤ ((rd x6_2 0) : Int) := of_decide_eq_true (by first | (with_reducible assumption) | assumption)
                                                        have q134 : (rd x6_2 0) < (x3_1.length : Int) := of_decide_eq_true (by first | (with_reducible assumption) | assumption)
                                                        obtain ⟨ad134, e134, hx134_0⟩ := Kd.at_int (Kd.R_reads' HO_3.out).2.2 (rd x6_2 0) p134 q134
                                                        obtain rfl : ad128 = ad134 := (by injection e134)
                                                        replace p134 := eq_true p134
                                                        replace q134 := eq_true q134
                                                        go_upto_region 41 with (fail)
                                                        repeat (go_quiet (fail); go_upto_region 41 with (fail))
                                                        go_cut [137] (fun v137 wc => ∃ (kq : Nat) (x137_60 : Bool), v137 = .bool x137_60 ∧ Aside0 (gameroomref_HandValue.j7 kq x3_1 x6_2 x9_3 0 x137_60 = some r) ∧ Aside0 (kq ≤ kj46) ∧ Aside0 (Kd.R (Kd.int .i64) 3 wc w.heap.size (fun k_ => some k_ ≠ ((.slice (some ad127) x6_2.length co48) : Value).ownBlock) (.slice (some ad128) x3_1.length co49) x3_1) ∧ Aside0 (Kd.R (Kd.int .i64) 3 wc w.heap.size (fun k_ => some k_ ≠ ((.slice (some ad128) x3_1.length co49) : Value).ownBlock) (.slice (some ad127) x6_2.length co48) x6_2) ∧ Aside0 (Below w.heap.size w wc))
                                                        case first =>
                                                          have H := HC61.out
                                                          clear HC61
                                                          by_cases c62 : (rd x3_1 (rd x6_2 0)) = 2
                                                          · rw [if_pos c62] at H
                                                            have c62b0 : ((rd x3_1 (rd x6_2 0)) == 2) = true := beq_iff_eq.mpr c62
                                                            have c62b1 : ((rd x3_1 (rd x6_2 0)) != 2) = false := bne_eq_false_iff_eq.mpr c62
                                                            clear c62
                                                            (first | rw [c62b0] | (simp only [i64_w, i32_w]; rw [c62b0]) | skip)
                                                            by_cases c63 : 1 < (x6_2.length : Int)
                                                            · rw [if_pos c63] at H
                                                              have c63b0 : decide (1 < (x6_2.length : Int)) = true := decide_eq_true c63
                                                              have c63b1 : decide (1 < x6_2.length) = true := decide_eq_true (by omega)
                                                              clear c63
                                                              by_cases c64 : 0 ≤ (rd x6_2 1)
                                                              · rw [if_pos c64] at H
                                                                have c64b0 : decide (0 ≤ (rd x6_2 1)) = true := decide_eq_true c64
                                                                clear c64
                                                                by_cases c65 : (rd x6_2 1) < (x3_1.length : Int)
                                                                · rw [if_pos c65] at H
                                                                  have c65b0 : decide ((rd x6_2 1) < (x3_1.length : Int)) = true := decide_eq_true c65
                                                                  clear c65
                                                                  have H' := Aside0.mk H
                                                                  clear H
                                                                  have p135 : 0 ≤ (0 : Int) := (by omega)
                                                                  have q135 : 0 < (x6_2.length : Int) := of_decide_eq_true (by first | (with_reducible assumption) | assumption)
                                                                  obtain ⟨ad135, e135, hx135_0⟩ := Kd.at_int (Kd.R_reads' HO_6.out).2.2 0 p135 q135
                                                                  obtain rfl : ad127 = ad135 := (by injection e135)
                                                                  have qi135 : (0 < x6_2.length) = True := eq_true (by omega)
                                                                  (try rw [show ((0 : Int)).toNat = 0 from rfl] at hx135_0)
                                                                  (try rw [Addr.add_zero'] at hx135_0)
                                                                  replace p135 := eq_true p135
                                                                  replace q135 := eq_true q135
                                                                  have p136 : 0 ≤ ((rd x6_2 0) : Int) := of_decide_eq_true (by first | (with_reducible assumption) | assumption)
                                                                  have q136 : (rd x6_2 0) < (x3_1.length : Int) := of_decide_eq_true (by first | (with_reducible assumption) | assumption)
                                                                  obtain ⟨ad136, e136, hx136_0⟩ := Kd.at_int (Kd.R_reads' HO_3.out).2.2 (rd x6_2 0) p136 q136
                                                                  obtain rfl : ad128 = ad136 := (by injection e136)
                                                                  replace p136 := eq_true p136
                                                                  replace q136 := eq_true q136
                                                                  have p137 : 0 ≤ (1 : Int) := (by omega)
                                                                  have q137 : 1 < (x6_2.length : Int) := of_decide_eq_true (by first | (with_reducible assumption) | assumption)
                                                                  obtain ⟨ad137, e137, hx137_0⟩ := Kd.at_int (Kd.R_reads' HO_6.out).2.2 1 p137 q137
                                                                  obtain rfl : ad127 = ad137 := (by injection e137)
                                                                  (try simp only [show (1 : Int).toNat = 1 from rfl, Nat.reduceMul, Nat.reduceEqDiff, Go.Addr.add, ↓reduceIte] at hx137_0)
                                                                  have qi137 : (1 < x6_2.length) = True := eq_true (by omega)
                                                                  (try rw [show ((1 : Int)).toNat = 1 from rfl] at hx137_0)
                                                                  replace p137 := eq_true p137
                                                                  replace q137 := eq_true q137
                                                                  have p138 : 0 ≤ ((rd x6_2 1) : Int) := of_decide_eq_true (by first | (with_reducible assumption) | assumption)
                                                                  have q138 : (rd x6_2 1) < (x3_1.length : Int) := of_decide_eq_true (by first | (with_reducible assumption) | assumption)
                                                                  obtain ⟨ad138, e138, hx138_0⟩ := Kd.at_int (Kd.R_reads' HO_3.out).2.2 (rd x6_2 1) p138 q138
                                                                  obtain rfl : ad128 = ad138 := (by injection e138)
                                                                  replace p138 := eq_true p138
                                                                  replace q138 := eq_true q138
                                                                  go_wp2
                                                                  repeat (go_quiet (fail); try go_wp2)
                                                                  go_meet
                                                                  case rel => exact ⟨_, (((rd x3_1 (rd x6_2 1)) == 2)), (by first | rfl | (simp; done) | (simp [*]; done)), H', ⟨by have := HK1.out; have := HK2.out; have := HK3.out; have := HJ36.out; have := HJ46.out; first | omega | exact Nat.le_refl _⟩, ⟨by (with_reducible repeat (first | apply Kd.R_alloc | apply Kd.R_drewN | apply Kd.R_drew)); exact HO_3.out⟩, ⟨by (with_reducible repeat (first | apply Kd.R_alloc | apply Kd.R_drewN | apply Kd.R_drew)); exact HO_6.out⟩, ⟨by repeat (first | (with_reducible first | exact HB.out | apply below_alloc | apply pw_below_drewN | apply below_drew1) | exact HB.out)⟩⟩
                                                                · rw [if_neg c65] at H
                                                                  exact absurd H (by simp)
                                                              · rw [if_neg c64] at H
                                                                exact absurd H (by simp)
                                                            · rw [if_neg c63] at H
                                                              exact absurd H (by simp)
                                                          · rw [if_neg c62] at H
                                                            have c62b0 : ((rd x3_1 (rd x6_2 0)) == 2) = false := beq_eq_false_iff_ne.mpr c62
                                                            have c62b1 : ((rd x3_1 (rd x6_2 0)) != 2) = true := bne_iff_ne.mpr c62
                                                            (first | rw [c62b0] | (simp only [i64_w, i32_w]; rw [c62b0]) | skip)
                                                            have H' := Aside0.mk H
                                                            clear H
                                                            have p135 : 0 ≤ (0 : Int) := (by omega)
                                                            have q135 : 0 < (x6_2.length : Int) := of_decide_eq_true (by first | (with_reducible assumption) | assumption)
                                                            obtain ⟨ad135, e135, hx135_0⟩ := Kd.at_int (Kd.R_reads' HO_6.out).2.2 0 p135 q135
                                                            obtain rfl : ad127 = ad135 := (by injection e135)
                                                            have qi135 : (0 < x6_2.length) = True := eq_true (by omega)
                                                            (try rw [show ((0 : Int)).toNat = 0 from rfl] at hx135_0)
                                                            (try rw [Addr.add_zero'] at hx135_0)
                                                            replace p135 := eq_true p135
                                                            replace q135 := eq_true q135
                                                            have p136 : 0 ≤ ((rd x6_2 0) : Int) := of_decide_eq_true (by first | (with_reducible assumption) | assumption)
                                                            have q136 : (rd x6_2 0) < (x3_1.length : Int) := of_decide_eq_true (by first | (with_reducible assumption) | assumption)
                                                            obtain ⟨ad136, e136, hx136_0⟩ := Kd.at_int (Kd.R_reads' HO_3.out).2.2 (rd x6_2 0) p136 q136
                                                            obtain rfl : ad128 = ad136 := (by injection e136)
                                                            replace p136 := eq_true p136
                                                            replace q136 := eq_true q136
                                                            go_wp2
                                                            repeat (go_quiet (fail); try go_wp2)
                                                            go_meet
                                                            case rel => exact ⟨_, (false), (by first | rfl | (simp; done) | (simp [*]; done)), H', ⟨by have := HK1.out; have := HK2.out; have := HK3.out; have := HJ36.out; have := HJ46.out; first | omega | exact Nat.le_refl _⟩, ⟨by (with_reducible repeat (first | apply Kd.R_alloc | apply Kd.R_drewN | apply Kd.R_drew)); exact HO_3.out⟩, ⟨by (with_reducible repeat (first | apply Kd.R_alloc | apply Kd.R_drewN | apply Kd.R_drew)); exact HO_6.out⟩, ⟨by repeat (first | (with_reducible first | exact HB.out | apply below_alloc | apply pw_below_drewN | apply below_drew1) | exact HB.out)⟩⟩
                                                        case rest =>
                                                          clear HC61
                                                          try clear c1
                                                          try clear p1
                                                          try clear q1
                                                          try clear hx1
                                                          try clear qi1
                                                          try clear hf1
                                                          try clear c2
                                                          try clear c2b0
                                                          try clear c2b1
                                                          try clear p2
                                                          try clear c3
                                                          try clear c4
                                                          try clear c5
                                                          try clear c5b0
                                                          try clear c6
                                                          try clear c6b0
                                                          try clear p6
                                                          try clear c7
                                                          try clear c7b0
                                                          try clear c9
                                                          try clear c9b0
                                                          try clear c10
                                                          try clear c10b0
                                                          try clear p11
                                                          try clear q11
                                                          try clear hx11
                                                          try clear hf11
                                                          try clear c12
                                                          try clear p12
                                                          try clear q12
                                                          try clear hx12
                                                          try clear qi12
                                                          try clear c13
                                                          try clear c13b0
                                                          try clear c13b1
                                                          try clear p13
                                                          try clear q13
                                                          try clear hx13
                                                          try clear qi13
                                                          try clear c20
                                                          try clear c20b0
                                                          try clear c21
                                                          try clear c21b0
                                                          try clear c22
                                                          try clear c22b0
                                                          try clear c23
                                                          try clear c23b0
                                                          try clear c24
                                                          try clear c24b0
                                                          try clear c24b1
                                                          try clear c25
                                                          try clear c29
                                                          try clear c29b0
                                                          try clear c30
                                                          try clear c30b0
                                                          try clear c31
                                                          try clear c33
                                                          try clear c33b0
                                                          try clear c34
                                                          try clear c34b0
                                                          try clear c36
                                                          try clear c38
                                                          try clear c38b0
                                                          try clear c40
                                                          try clear c41
                                                          try clear c41b0
                                                          try clear c41b1
                                                          try clear c42
                                                          try clear c42b0
                                                          try clear c43
                                                          try clear c43b0
                                                          try clear c44
                                                          try clear c44b0
                                                          try clear c44b1
                                                          try clear c50
                                                          try clear c50b0
                                                          try clear c50b1
                                                          try clear c51
                                                          try clear c51b0
                                                          try clear c51b1
                                                          try clear c52
                                                          try clear c52b0
                                                          try clear c53
                                                          try clear c53b0
                                                          try clear c54
                                                          try clear c55
                                                          try clear c56
                                                          try clear c56b0
                                                          try clear c57
                                                          try clear c57b0
                                                          try clear c57b1
                                                          try clear c58
                                                          try clear c58b0
                                                          try clear c59
                                                          try clear c59b0
                                                          try clear c60
                                                          try clear c60b0
                                                          try clear c60b1
                                                          try clear c62
                                                          try clear c62b0
                                                          try clear c62b1
                                                          try clear c63
                                                          try clear c63b0
                                                          try clear c63b1
                                                          try clear c64
                                                          try clear c64b0
                                                          try clear c65
                                                          try clear c65b0
                                                          try clear hx117_0
                                                          try clear hx118_0
                                                          try clear hx11_0
                                                          try clear hx120_0
                                                          try clear hx121_0
                                                          try clear hx122_0
                                                          try clear hx126_0
                                                          try clear hx127_0
                                                          try clear hx128_0
                                                          try clear hx129_0
                                                          try clear hx130_0
                                                          try clear hx131_0
                                                          try clear hx132_0
                                                          try clear hx133_0
                                                          try clear hx134_0
                                                          try clear hx135_0
                                                          try clear hx136_0
                                                          try clear hx137_0
                                                          try clear hx138_0
                                                          try clear p1
                                                          try clear p11
                                                          try clear p117
                                                          try clear p118
                                                          try clear p12
                                                          try clear p120
                                                          try clear p121
                                                          try clear p122
                                                          try clear p126
                                                          try clear p127
                                                          try clear p128
                                                          try clear p129
                                                          try clear p13
                                                          try clear p130
                                                          try clear p131
                                                          try clear p132
                                                          try clear p133
                                                          try clear p134
                                                          try clear p135
                                                          try clear p136
                                                          try clear p137
                                                          try clear p138
                                                          try clear p2
                                                          try clear p6
                                                          try clear q1
                                                          try clear q11
                                                          try clear q117
                                                          try clear q118
                                                          try clear q12
                                                          try clear q120
                                                          try clear q121
                                                          try clear q122
                                                          try clear q126
                                                          try clear q127
                                                          try clear q128
                                                          try clear q129
                                                          try clear q13
                                                          try clear q130
                                                          try clear q131
                                                          try clear q132
                                                          try clear q133
                                                          try clear q134
                                                          try clear q135
                                                          try clear q136
                                                          try clear q137
                                                          try clear q138
                                                          obtain ⟨kq, x137_60, rfl, HA, HJ60, HO_3, HO_6, HB⟩ := hcut
                                                          cases kq with
                                                          | zero => exact absurd HA.out (by simp [gameroomref_HandValue.j7])
                                                          | succ kj60 =>
                                                            have H := HA.out
                                                            clear HA
                                                            simp only [gameroomref_HandValue.j7] at H
                                                            by_cases c66 : x137_60 = true
                                                            · subst c66
                                                              have H1 : (gameroomref_HandValue.j8 kj60 x6_2 x9_3 2) = some r := by rw [if_pos rfl] at H; exact H
                                                              clear H
                                                              have H := H1
                                                              clear H1
                                                              have H' := Aside0.mk H
                                                              clear H
                                                              go_wp2
                                                              repeat (go_quiet (fail); try go_wp2)
                                                              go_meet
                                                              case rel => exact ⟨_, (2), (by first | rfl | (simp; done) | (simp [*]; done)), H', ⟨by have := HK1.out; have := HK2.out; have := HK3.out; have := HJ36.out; have := HJ46.out; have := HJ60.out; first | omega | exact Nat.le_refl _⟩, ⟨by (with_reducible repeat (first | apply Kd.R_alloc | apply Kd.R_drewN | apply Kd.R_drew)); exact Kd.R_mono HO_6.out (fun _ hk => trivial)⟩, ⟨by repeat (first | (with_reducible first | exact HB.out | apply below_alloc | apply pw_below_drewN | apply below_drew1) | exact HB.out)⟩⟩
                                                            · replace c66 := Bool.eq_false_iff.mpr c66
                                                              subst c66
                                                              have H1 : (if 0 < (x6_2.length : Int) then (if 0 ≤ (rd x6_2 0) then (if (rd x6_2 0) < (x3_1.length : Int) then (if (rd x3_1 (rd x6_2 0)) = 2 then (gameroomref_HandValue.j8 kj60 x6_2 x9_3 1) else (gameroomref_HandValue.j8 kj60 x6_2 x9_3 0)) else (none)) else (none)) else (none)) = some r := by rw [if_neg (show ¬ (false = true) by decide)] at H; exact H
                                                              clear H
                                                              have H := H1
                                                              clear H1
                                                              by_cases c67 : 0 < (x6_2.length : Int)
                                                              · rw [if_pos c67] at H
                                                                have c67b0 : decide (0 < (x6_2.length : Int)) = true := decide_eq_true c67
                                                                have c67b1 : decide (0 < x6_2.length) = true := decide_eq_true (by omega)
                                                                clear c67
                                                                by_cases c68 : 0 ≤ (rd x6_2 0)
                                                                · rw [if_pos c68] at H
                                                                  have c68b0 : decide (0 ≤ (rd x6_2 0)) = true := decide_eq_true c68
                                                                  clear c68
                                                                  by_cases c69 : (rd x6_2 0) < (x3_1.length : Int)
                                                                  · rw [if_pos c69] at H
                                                                    have c69b0 : decide ((rd x6_2 0) < (x3_1.length : Int)) = true := decide_eq_true c69
                                                                    clear c69
                                                                    by_cases c70 : (rd x3_1 (rd x6_2 0)) = 2
                                                                    · rw [if_pos c70] at H
                                                                      have c70b0 : ((rd x3_1 (rd x6_2 0)) == 2) = true := beq_iff_eq.mpr c70
                                                                      have c70b1 : ((rd x3_1 (rd x6_2 0)) != 2) = false := bne_eq_false_iff_eq.mpr c70
                                                                      clear c70
                                                                      have H' := Aside0.mk H
                                                                      clear H
                                                                      have p139 : 0 ≤ (0 : Int) := (by omega)
                                                                      have q139 : 0 < (x6_2.length : Int) := of_decide_eq_true (by first | (with_reducible assumption) | assumption)
                                                                      obtain ⟨ad139, e139, hx139_0⟩ := Kd.at_int (Kd.R_reads' HO_6.out).2.2 0 p139 q139
                                                                      obtain rfl : ad127 = ad139 := (by injection e139)
                                                                      have qi139 : (0 < x6_2.length) = True := eq_true (by omega)
                                                                      (try rw [show ((0 : Int)).toNat = 0 from rfl] at hx139_0)
                                                                      (try rw [Addr.add_zero'] at hx139_0)
                                                                      replace p139 := eq_true p139
                                                                      replace q139 := eq_true q139
                                                                      have p140 : 0 ≤ ((rd x6_2 0) : Int) := of_decide_eq_true (by first | (with_reducible assumption) | assumption)
                                                                      have q140 : (rd x6_2 0) < (x3_1.length : Int) := of_decide_eq_true (by first | (with_reducible assumption) | assumption)
                                                                      obtain ⟨ad140, e140, hx140_0⟩ := Kd.at_int (Kd.R_reads' HO_3.out).2.2 (rd x6_2 0) p140 q140
                                                                      obtain rfl : ad128 = ad140 := (by injection e140)
                                                                      replace p140 := eq_true p140
                                                                      replace q140 := eq_true q140
                                                                      go_wp2
                                                                      repeat (go_quiet (fail); try go_wp2)
                                                                      go_meet
                                                                      case rel => exact ⟨_, (1), (by first | rfl | (simp; done) | (simp [*]; done)), H', ⟨by have := HK1.out; have := HK2.out; have := HK3.out; have := HJ36.out; have := HJ46.out; have := HJ60.out; first | omega | exact Nat.le_refl _⟩, ⟨by (with_reducible repeat (first | apply Kd.R_alloc | apply Kd.R_drewN | apply Kd.R_drew)); exact Kd.R_mono HO_6.out (fun _ hk => trivial)⟩, ⟨by repeat (first | (with_reducible first | exact HB.out | apply below_alloc | apply pw_below_drewN | apply below_drew1) | exact HB.out)⟩⟩
                                                                    · rw [if_neg c70] at H
                                                                      have c70b0 : ((rd x3_1 (rd x6_2 0)) == 2) = false := beq_eq_false_iff_ne.mpr c70
                                                                      have c70b1 : ((rd x3_1 (rd x6_2 0)) != 2) = true := bne_iff_ne.mpr c70
                                                                      have H' := Aside0.mk H
                                                                      clear H
                                                                      have p139 : 0 ≤ (0 : Int) := (by omega)
                                                                      have q139 : 0 < (x6_2.length : Int) := of_decide_eq_true (by first | (with_reducible assumption) | assumption)
                                                                      obtain ⟨ad139, e139, hx139_0⟩ := Kd.at_int (Kd.R_reads' HO_6.out).2.2 0 p139 q139
                                                                      obtain rfl : ad127 = ad139 := (by injection e139)
                                                                      have qi139 : (0 < x6_2.length) = True := eq_true (by omega)
                                                                      (try rw [show ((0 : Int)).toNat = 0 from rfl] at hx139_0)
                                                                      (try rw [Addr.add_zero'] at hx139_0)
                                                                      replace p139 := eq_true p139
                                                                      replace q139 := eq_true q139
                                                                      have p140 : 0 ≤ ((rd x6_2 0) : Int) := of_decide_eq_true (by first | (with_reducible assumption) | assumption)
                                                                      have q140 : (rd x6_2 0) < (x3_1.length : Int) := of_decide_eq_true (by first | (with_reducible assumption) | assumption)
                                                                      obtain ⟨ad140, e140, hx140_0⟩ := Kd.at_int (Kd.R_reads' HO_3.out).2.2 (rd x6_2 0) p140 q140
                                                                      obtain rfl : ad128 = ad140 := (by injection e140)
                                                                      replace p140 := eq_true p140
                                                                      replace q140 := eq_true q140
                                                                      go_wp2
                                                                      repeat (go_quiet (fail); try go_wp2)
                                                                      go_meet
                                                                      case rel => exact ⟨_, (0), (by first | rfl | (simp; done) | (simp [*]; done)), H', ⟨by have := HK1.out; have := HK2.out; have := HK3.out; have := HJ36.out; have := HJ46.out; have := HJ60.out; first | omega | exact Nat.le_refl _⟩, ⟨by (with_reducible repeat (first | apply Kd.R_alloc | apply Kd.R_drewN | apply Kd.R_drew)); exact Kd.R_mono HO_6.out (fun _ hk => trivial)⟩, ⟨by repeat (first | (with_reducible first | exact HB.out | apply below_alloc | apply pw_below_drewN | apply below_drew1) | exact HB.out)⟩⟩
                                                                  · rw [if_neg c69] at H
                                                                    exact absurd H (by simp)
                                                                · rw [if_neg c68] at H
                                                                  exact absurd H (by simp)
                                                              · rw [if_neg c67] at H
                                                                exact absurd H (by simp)
                                                    · rw [if_neg c59] at H
                                                      exact absurd H (by simp)
                                                  · rw [if_neg c58] at H
                                                    exact absurd H (by simp)
                                                · rw [if_neg c57] at H
                                                  exact absurd H (by simp)
                                  · rw [if_neg c43] at H
                                    exact absurd H (by simp)
                                · rw [if_neg c42] at H
                                  exact absurd H (by simp)
                              · rw [if_neg c41] at H
                                exact absurd H (by simp)
                          case rest =>
                            clear HC39
                            try clear c1
                            try clear p1
                            try clear q1
                            try clear hx1
                            try clear qi1
                            try clear hf1
                            try clear c2
                            try clear c2b0
                            try clear c2b1
                            try clear p2
                            try clear c3
                            try clear c4
                            try clear c5
                            try clear c5b0
                            try clear c6
                            try clear c6b0
                            try clear p6
                            try clear c7
                            try clear c7b0
                            try clear c9
                            try clear c9b0
                            try clear c10
                            try clear c10b0
                            try clear p11
                            try clear q11
                            try clear hx11
                            try clear hf11
                            try clear c12
                            try clear p12
                            try clear q12
                            try clear hx12
                            try clear qi12
                            try clear c13
                            try clear c13b0
                            try clear c13b1
                            try clear p13
                            try clear q13
                            try clear hx13
                            try clear qi13
                            try clear p14
                            try clear q14
                            try clear hx14
                            try clear c20
                            try clear c20b0
                            try clear c21
                            try clear c21b0
                            try clear c22
                            try clear c22b0
                            try clear c23
                            try clear c23b0
                            try clear c24
                            try clear c24b0
                            try clear c24b1
                            try clear c25
                            try clear c29
                            try clear c29b0
                            try clear c30
                            try clear c30b0
                            try clear c31
                            try clear c33
                            try clear c33b0
                            try clear c34
                            try clear c34b0
                            try clear c36
                            try clear c38
                            try clear c38b0
                            try clear c40
                            try clear c41
                            try clear c41b0
                            try clear c41b1
                            try clear c42
                            try clear c42b0
                            try clear c43
                            try clear c43b0
                            try clear c44
                            try clear c44b0
                            try clear c44b1
                            try clear c50
                            try clear c50b0
                            try clear c50b1
                            try clear c51
                            try clear c51b0
                            try clear c51b1
                            try clear c52
                            try clear c52b0
                            try clear c53
                            try clear c53b0
                            try clear c54
                            try clear c55
                            try clear c56
                            try clear c56b0
                            try clear c57
                            try clear c57b0
                            try clear c57b1
                            try clear c58
                            try clear c58b0
                            try clear c59
                            try clear c59b0
                            try clear c60
                            try clear c60b0
                            try clear c60b1
                            try clear c62
                            try clear c62b0
                            try clear c62b1
                            try clear c63
                            try clear c63b0
                            try clear c63b1
                            try clear c64
                            try clear c64b0
                            try clear c65
                            try clear c65b0
                            try clear c66
                            try clear c67
                            try clear c67b0
                            try clear c67b1
                            try clear c68
                            try clear c68b0
                            try clear c69
                            try clear c69b0
                            try clear c70
                            try clear c70b0
                            try clear c70b1
                            try clear hx117_0
                            try clear hx118_0
                            try clear hx11_0
                            try clear hx120_0
                            try clear hx121_0
                            try clear hx122_0
                            try clear hx126_0
                            try clear hx127_0
                            try clear hx128_0
                            try clear hx129_0
                            try clear hx130_0
                            try clear hx131_0
                            try clear hx132_0
                            try clear hx133_0
                            try clear hx134_0
                            try clear hx135_0
                            try clear hx136_0
                            try clear hx137_0
                            try clear hx138_0
                            try clear hx139_0
                            try clear hx140_0
                            try clear p1
                            try clear p11
                            try clear p117
                            try clear p118
                            try clear p12
                            try clear p120
                            try clear p121
                            try clear p122
                            try clear p126
                            try clear p127
                            try clear p128
                            try clear p129
                            try clear p13
                            try clear p130
                            try clear p131
                            try clear p132
                            try clear p133
                            try clear p134
                            try clear p135
                            try clear p136
                            try clear p137
                            try clear p138
                            try clear p139
                            try clear p140
                            try clear p2
                            try clear p6
                            try clear q1
                            try clear q11
                            try clear q117
                            try clear q118
                            try clear q12
                            try clear q120
                            try clear q121
                            try clear q122
                            try clear q126
                            try clear q127
                            try clear q128
                            try clear q129
                            try clear q13
                            try clear q130
                            try clear q131
                            try clear q132
                            try clear q133
                            try clear q134
                            try clear q135
                            try clear q136
                            try clear q137
                            try clear q138
                            try clear q139
                            try clear q140
                            obtain ⟨kq, x13_38, rfl, HA, HJ38, HO_6, HB⟩ := hcut
                            cases kq with
                            | zero => exact absurd HA.out (by simp [gameroomref_HandValue.j8])
                            | succ kj38 =>
                              have H := HA.out
                              clear HA
                              simp only [gameroomref_HandValue.j8] at H
                              have HC71 := Aside0.mk H
                              clear H
                              go_upto_if 146 with (fail)
                              repeat (go_quiet (fail); go_upto_if 146 with (fail))
                              go_cut [6] (fun v6 wc => ∃ (kq : Nat) (x6_70 : List Int), Aside0 (gameroomref_HandValue.j9 kq x6_70 x13_38 = some r) ∧ Aside0 (kq ≤ kj38) ∧ Aside0 (Kd.R (Kd.int .i64) 3 wc w.heap.size (fun _ => True) v6 x6_70) ∧ Aside0 (Below w.heap.size w wc))
                              case first =>
                                have H := HC71.out
                                clear HC71
                                by_cases c72 : x9_3 ≥ 0
                                · rw [if_pos c72] at H
                                  have c72b0 : decide (0 ≤ x9_3) = true := decide_eq_true c72
                                  clear c72
                                  (first | rw [c72b0] | (simp only [i64_w, i32_w]; rw [c72b0]) | skip)
                                  obtain ⟨y141, hy141⟩ : ∃ y_ : List Int, y_ = (([x9_3] : List Int)) := ⟨_, rfl⟩
                                  replace H : (gameroomref_HandValue.j9 kj38 y141 x13_38) = some r := by first | (rw [hy141]; with_reducible exact H) | (have H2_ := (Option.bind_some _ _).symm.trans H; rw [hy141]; with_reducible exact H2_) | (have H2_ := (Option.bind_some _ _).symm.trans H; with_reducible exact H2_) | with_reducible exact H | (rw [hy141]; exact H) | exact H
                                  have Ny141 := Aside0.mk hy141
                                  clear hy141
                                  have H' := Aside0.mk H
                                  clear H
                                  go_wp2_with (first | ((with_reducible refine gate_dst (N := 148) rfl ?_); refine Kd.R_lit (Kd.int .i64) _ 3 ?hg (N := 148) ?hd (xs := ([x9_3] : List Int)) (inner := [.int .i64 x9_3]) (ok := fun _ => True) (okp := fun _ => True) ?hr ?hp (fun _ hk => hk) trivial (Below.refl _ _) (Nat.le_refl _) (by simp) ?_; (case hd => rfl); (case hg => rfl); (case hr => first | (go_simp; done) | (go_simp; rfl)); (case hp => exact (Reps.one (show Kd.M (Kd.int .i64) _ _ _ x9_3 [.int .i64 x9_3] from rfl) (Reps.none _ _))); intro v142 w73 ho74 hb hg_ hnew_; clear hg_ hnew_; (first | rw [← Ny141.out] at ho74 | (simp only [Int.reduceToNat] at ho74; rw [← Ny141.out] at ho74)); have n0_ := Aside0.mk (Kd.R_elder' (by (with_reducible repeat (first | apply Kd.R_alloc | apply Kd.R_drewN | apply Kd.R_drew)); exact HO_6.out) (Kd.R_base ho74) hb); have n1_ := Aside0.mk (Kd.R_lower (Kd.R_new' ho74 (Kd.R_lt (by (with_reducible repeat (first | apply Kd.R_alloc | apply Kd.R_drewN | apply Kd.R_drew)); exact HO_6.out))) (below_size (by repeat (first | (with_reducible first | exact HB.out | apply below_alloc | apply pw_below_drewN | apply below_drew1) | exact HB.out)))); have n2_ := Aside0.mk (below_step (by repeat (first | (with_reducible first | exact HB.out | apply below_alloc | apply pw_below_drewN | apply below_drew1) | exact HB.out)) hb); clear HO_6; clear HB; have HO_6 := n0_; have HO143 := n1_; have HB := n2_; clear n0_ n1_ n2_; clear hb ho74))
                                  repeat (go_quiet (first | ((with_reducible refine gate_dst (N := 148) rfl ?_); refine Kd.R_lit (Kd.int .i64) _ 3 ?hg (N := 148) ?hd (xs := ([x9_3] : List Int)) (inner := [.int .i64 x9_3]) (ok := fun _ => True) (okp := fun _ => True) ?hr ?hp (fun _ hk => hk) trivial (Below.refl _ _) (Nat.le_refl _) (by simp) ?_; (case hd => rfl); (case hg => rfl); (case hr => first | (go_simp; done) | (go_simp; rfl)); (case hp => exact (Reps.one (show Kd.M (Kd.int .i64) _ _ _ x9_3 [.int .i64 x9_3] from rfl) (Reps.none _ _))); intro v142 w73 ho74 hb hg_ hnew_; clear hg_ hnew_; (first | rw [← Ny141.out] at ho74 | (simp only [Int.reduceToNat] at ho74; rw [← Ny141.out] at ho74)); have n0_ := Aside0.mk (Kd.R_elder' (by (with_reducible repeat (first | apply Kd.R_alloc | apply Kd.R_drewN | apply Kd.R_drew)); exact HO_6.out) (Kd.R_base ho74) hb); have n1_ := Aside0.mk (Kd.R_lower (Kd.R_new' ho74 (Kd.R_lt (by (with_reducible repeat (first | apply Kd.R_alloc | apply Kd.R_drewN | apply Kd.R_drew)); exact HO_6.out))) (below_size (by repeat (first | (with_reducible first | exact HB.out | apply below_alloc | apply pw_below_drewN | apply below_drew1) | exact HB.out)))); have n2_ := Aside0.mk (below_step (by repeat (first | (with_reducible first | exact HB.out | apply below_alloc | apply pw_below_drewN | apply below_drew1) | exact HB.out)) hb); clear HO_6; clear HB; have HO_6 := n0_; have HO143 := n1_; have HB := n2_; clear n0_ n1_ n2_; clear hb ho74)); try go_wp2_with (first | ((with_reducible refine gate_dst (N := 148) rfl ?_); refine Kd.R_lit (Kd.int .i64) _ 3 ?hg (N := 148) ?hd (xs := ([x9_3] : List Int)) (inner := [.int .i64 x9_3]) (ok := fun _ => True) (okp := fun _ => True) ?hr ?hp (fun _ hk => hk) trivial (Below.refl _ _) (Nat.le_refl _) (by simp) ?_; (case hd => rfl); (case hg => rfl); (case hr => first | (go_simp; done) | (go_simp; rfl)); (case hp => exact (Reps.one (show Kd.M (Kd.int .i64) _ _ _ x9_3 [.int .i64 x9_3] from rfl) (Reps.none _ _))); intro v142 w73 ho74 hb hg_ hnew_; clear hg_ hnew_; (first | rw [← Ny141.out] at ho74 | (simp only [Int.reduceToNat] at ho74; rw [← Ny141.out] at ho74)); have n0_ := Aside0.mk (Kd.R_elder' (by (with_reducible repeat (first | apply Kd.R_alloc | apply Kd.R_drewN | apply Kd.R_drew)); exact HO_6.out) (Kd.R_base ho74) hb); have n1_ := Aside0.mk (Kd.R_lower (Kd.R_new' ho74 (Kd.R_lt (by (with_reducible repeat (first | apply Kd.R_alloc | apply Kd.R_drewN | apply Kd.R_drew)); exact HO_6.out))) (below_size (by repeat (first | (with_reducible first | exact HB.out | apply below_alloc | apply pw_below_drewN | apply below_drew1) | exact HB.out)))); have n2_ := Aside0.mk (below_step (by repeat (first | (with_reducible first | exact HB.out | apply below_alloc | apply pw_below_drewN | apply below_drew1) | exact HB.out)) hb); clear HO_6; clear HB; have HO_6 := n0_; have HO143 := n1_; have HB := n2_; clear n0_ n1_ n2_; clear hb ho74)))
                                  go_meet
                                  case rel => exact ⟨_, (y141), H', ⟨by have := HK1.out; have := HK2.out; have := HK3.out; have := HJ36.out; have := HJ38.out; first | omega | exact Nat.le_refl _⟩, ⟨by (with_reducible repeat (first | apply Kd.R_alloc | apply Kd.R_drewN | apply Kd.R_drew)); exact Kd.R_mono HO143.out (fun _ hk => trivial)⟩, ⟨by repeat (first | (with_reducible first | exact HB.out | apply below_alloc | apply pw_below_drewN | apply below_drew1) | exact HB.out)⟩⟩
                                · rw [if_neg c72] at H
                                  have c72b0 : decide (0 ≤ x9_3) = false := decide_eq_false c72
                                  clear c72
                                  (first | rw [c72b0] | (simp only [i64_w, i32_w]; rw [c72b0]) | skip)
                                  have H' := Aside0.mk H
                                  clear H
                                  go_wp2
                                  repeat (go_quiet (fail); try go_wp2)
                                  go_meet
                                  case rel => exact ⟨_, (x6_2), H', ⟨by have := HK1.out; have := HK2.out; have := HK3.out; have := HJ36.out; have := HJ38.out; first | omega | exact Nat.le_refl _⟩, ⟨by (with_reducible repeat (first | apply Kd.R_alloc | apply Kd.R_drewN | apply Kd.R_drew)); exact HO_6.out⟩, ⟨by repeat (first | (with_reducible first | exact HB.out | apply below_alloc | apply pw_below_drewN | apply below_drew1) | exact HB.out)⟩⟩
                              case rest =>
                                clear HC71
                                try clear c1
                                try clear p1
                                try clear q1
                                try clear hx1
                                try clear qi1
                                try clear hf1
                                try clear c2
                                try clear c2b0
                                try clear c2b1
                                try clear p2
                                try clear c3
                                try clear c4
                                try clear c5
                                try clear c5b0
                                try clear c6
                                try clear c6b0
                                try clear p6
                                try clear c7
                                try clear c7b0
                                try clear c9
                                try clear c9b0
                                try clear c10
                                try clear c10b0
                                try clear p11
                                try clear q11
                                try clear hx11
                                try clear hf11
                                try clear c12
                                try clear p12
                                try clear q12
                                try clear hx12
                                try clear qi12
                                try clear c13
                                try clear c13b0
                                try clear c13b1
                                try clear p13
                                try clear q13
                                try clear hx13
                                try clear qi13
                                try clear p14
                                try clear q14
                                try clear hx14
                                try clear c20
                                try clear c20b0
                                try clear c21
                                try clear c21b0
                                try clear c22
                                try clear c22b0
                                try clear c23
                                try clear c23b0
                                try clear c24
                                try clear c24b0
                                try clear c24b1
                                try clear c25
                                try clear c29
                                try clear c29b0
                                try clear c30
                                try clear c30b0
                                try clear c31
                                try clear c33
                                try clear c33b0
                                try clear c34
                                try clear c34b0
                                try clear c36
                                try clear c38
                                try clear c38b0
                                try clear c40
                                try clear c41
                                try clear c41b0
                                try clear c41b1
                                try clear c42
                                try clear c42b0
                                try clear c43
                                try clear c43b0
                                try clear c44
                                try clear c44b0
                                try clear c44b1
                                try clear c50
                                try clear c50b0
                                try clear c50b1
                                try clear c51
                                try clear c51b0
                                try clear c51b1
                                try clear c52
                                try clear c52b0
                                try clear c53
                                try clear c53b0
                                try clear c54
                                try clear c55
                                try clear c56
                                try clear c56b0
                                try clear c57
                                try clear c57b0
                                try clear c57b1
                                try clear c58
                                try clear c58b0
                                try clear c59
                                try clear c59b0
                                try clear c60
                                try clear c60b0
                                try clear c60b1
                                try clear c62
                                try clear c62b0
                                try clear c62b1
                                try clear c63
                                try clear c63b0
                                try clear c63b1
                                try clear c64
                                try clear c64b0
                                try clear c65
                                try clear c65b0
                                try clear c66
                                try clear c67
                                try clear c67b0
                                try clear c67b1
                                try clear c68
                                try clear c68b0
                                try clear c69
                                try clear c69b0
                                try clear c70
                                try clear c70b0
                                try clear c70b1
                                try clear c72
                                try clear c72b0
                                try clear hx117_0
                                try clear hx118_0
                                try clear hx11_0
                                try clear hx120_0
                                try clear hx121_0
                                try clear hx122_0
                                try clear hx126_0
                                try clear hx127_0
                                try clear hx128_0
                                try clear hx129_0
                                try clear hx130_0
                                try clear hx131_0
                                try clear hx132_0
                                try clear hx133_0
                                try clear hx134_0
                                try clear hx135_0
                                try clear hx136_0
                                try clear hx137_0
                                try clear hx138_0
                                try clear hx139_0
                                try clear hx140_0
                                try clear p1
                                try clear p11
                                try clear p117
                                try clear p118
                                try clear p12
                                try clear p120
                                try clear p121
                                try clear p122
                                try clear p126
                                try clear p127
                                try clear p128
                                try clear p129
                                try clear p13
                                try clear p130
                                try clear p131
                                try clear p132
                                try clear p133
                                try clear p134
                                try clear p135
                                try clear p136
                                try clear p137
                                try clear p138
                                try clear p139
                                try clear p14
                                try clear p140
                                try clear p2
                                try clear p6
                                try clear q1
                                try clear q11
                                try clear q117
                                try clear q118
                                try clear q12
                                try clear q120
                                try clear q121
                                try clear q122
                                try clear q126
                                try clear q127
                                try clear q128
                                try clear q129
                                try clear q13
                                try clear q130
                                try clear q131
                                try clear q132
                                try clear q133
                                try clear q134
                                try clear q135
                                try clear q136
                                try clear q137
                                try clear q138
                                try clear q139
                                try clear q14
                                try clear q140
                                obtain ⟨kq, x6_70, HA, HJ70, HO_6, HB⟩ := hcut
                                cases kq with
                                | zero => exact absurd HA.out (by simp [gameroomref_HandValue.j9])
                                | succ kj70 =>
                                  have H := HA.out
                                  clear HA
                                  simp only [gameroomref_HandValue.j9] at H
                                  have H' := Aside0.mk H
                                  clear H
                                  go_wp2
                                  repeat (go_quiet (fail); try go_wp2)
                                  go_loopg [6] kj70 (fun kq v6 w' => ∃ (x6_7 : List Int), Aside0 (gameroomref_HandValue.l5 kq x6_7 x13_38 = some r) ∧ Aside0 (kq ≤ kj70) ∧ Aside0 (Kd.R (Kd.int .i64) 3 w' w.heap.size (fun _ => True) v6 x6_7) ∧ Aside0 (Below w.heap.size w w'))
                                  case atStart => exact ⟨(x6_70), H', ⟨Nat.le_refl _⟩, ⟨by (with_reducible repeat (first | apply Kd.R_alloc | apply Kd.R_drewN | apply Kd.R_drew)); exact HO_6.out⟩, ⟨by repeat (first | (with_reducible first | exact HB.out | apply below_alloc | apply pw_below_drewN | apply below_drew1) | exact HB.out)⟩⟩
                                  case round =>
                                    clear H'
                                    try clear c1
                                    try clear p1
                                    try clear q1
                                    try clear hx1
                                    try clear qi1
                                    try clear hf1
                                    try clear c2
                                    try clear c2b0
                                    try clear c2b1
                                    try clear p2
                                    try clear c3
                                    try clear c4
                                    try clear c5
                                    try clear c5b0
                                    try clear c6
                                    try clear c6b0
                                    try clear p6
                                    try clear c7
                                    try clear c7b0
                                    try clear c9
                                    try clear c9b0
                                    try clear c10
                                    try clear c10b0
                                    try clear p11
                                    try clear q11
                                    try clear hx11
                                    try clear hf11
                                    try clear c12
                                    try clear p12
                                    try clear q12
                                    try clear hx12
                                    try clear qi12
                                    try clear c13
                                    try clear c13b0
                                    try clear c13b1
                                    try clear p13
                                    try clear q13
                                    try clear hx13
                                    try clear qi13
                                    try clear p14
                                    try clear q14
                                    try clear hx14
                                    try clear c20
                                    try clear c20b0
                                    try clear c21
                                    try clear c21b0
                                    try clear c22
                                    try clear c22b0
                                    try clear c23
                                    try clear c23b0
                                    try clear c24
                                    try clear c24b0
                                    try clear c24b1
                                    try clear c25
                                    try clear c29
                                    try clear c29b0
                                    try clear c30
                                    try clear c30b0
                                    try clear c31
                                    try clear c33
                                    try clear c33b0
                                    try clear c34
                                    try clear c34b0
                                    try clear c36
                                    try clear c38
                                    try clear c38b0
                                    try clear c40
                                    try clear c41
                                    try clear c41b0
                                    try clear c41b1
                                    try clear c42
                                    try clear c42b0
                                    try clear c43
                                    try clear c43b0
                                    try clear c44
                                    try clear c44b0
                                    try clear c44b1
                                    try clear c50
                                    try clear c50b0
                                    try clear c50b1
                                    try clear c51
                                    try clear c51b0
                                    try clear c51b1
                                    try clear c52
                                    try clear c52b0
                                    try clear c53
                                    try clear c53b0
                                    try clear c54
                                    try clear c55
                                    try clear c56
                                    try clear c56b0
                                    try clear c57
                                    try clear c57b0
                                    try clear c57b1
                                    try clear c58
                                    try clear c58b0
                                    try clear c59
                                    try clear c59b0
                                    try clear c60
                                    try clear c60b0
                                    try clear c60b1
                                    try clear c62
                                    try clear c62b0
                                    try clear c62b1
                                    try clear c63
                                    try clear c63b0
                                    try clear c63b1
                                    try clear c64
                                    try clear c64b0
                                    try clear c65
                                    try clear c65b0
                                    try clear c66
                                    try clear c67
                                    try clear c67b0
                                    try clear c67b1
                                    try clear c68
                                    try clear c68b0
                                    try clear c69
                                    try clear c69b0
                                    try clear c70
                                    try clear c70b0
                                    try clear c70b1
                                    try clear c72
                                    try clear c72b0
                                    try clear hx117_0
                                    try clear hx118_0
                                    try clear hx11_0
                                    try clear hx120_0
                                    try clear hx121_0
                                    try clear hx122_0
                                    try clear hx126_0
                                    try clear hx127_0
                                    try clear hx128_0
                                    try clear hx129_0
                                    try clear hx130_0
                                    try clear hx131_0
                                    try clear hx132_0
                                    try clear hx133_0
                                    try clear hx134_0
                                    try clear hx135_0
                                    try clear hx136_0
                                    try clear hx137_0
                                    try clear hx138_0
                                    try clear hx139_0
                                    try clear hx140_0
                                    try clear p1
                                    try clear p11
                                    try clear p117
                                    try clear p118
                                    try clear p12
                                    try clear p120
                                    try clear p121
                                    try clear p122
                                    try clear p126
                                    try clear p127
                                    try clear p128
                                    try clear p129
                                    try clear p13
                                    try clear p130
                                    try clear p131
                                    try clear p132
                                    try clear p133
                                    try clear p134
                                    try clear p135
                                    try clear p136
                                    try clear p137
                                    try clear p138
                                    try clear p139
                                    try clear p14
                                    try clear p140
                                    try clear p2
                                    try clear p6
                                    try clear q1
                                    try clear q11
                                    try clear q117
                                    try clear q118
                                    try clear q12
                                    try clear q120
                                    try clear q121
                                    try clear q122
                                    try clear q126
                                    try clear q127
                                    try clear q128
                                    try clear q129
                                    try clear q13
                                    try clear q130
                                    try clear q131
                                    try clear q132
                                    try clear q133
                                    try clear q134
                                    try clear q135
                                    try clear q136
                                    try clear q137
                                    try clear q138
                                    try clear q139
                                    try clear q14
                                    try clear q140
                                    obtain ⟨x6_7, HA, HK7, HO_6, HB⟩ := hrel
                                    cases gk with
                                    | zero => exact absurd HA.out (by simp [gameroomref_HandValue.l5])
                                    | succ k7 =>
                                      have H := HA.out
                                      clear HA
                                      simp only [gameroomref_HandValue.l5] at H
                                      by_cases c75 : (x6_7.length : Int) < 5
                                      · rw [if_pos c75] at H
                                        have c75b0 : decide ((x6_7.length : Int) < 5) = true := decide_eq_true c75
                                        have c75b1 : decide (x6_7.length < 5) = true := decide_eq_true (by omega)
                                        clear c75
                                        by_cases c76 : x6_7.length < 17592186044416
                                        · rw [if_pos c76] at H
                                          have LMc76 := Aside0.mk c76
                                          clear c76
                                          obtain ⟨y144, hy144⟩ : ∃ y_ : List Int, y_ = (x6_7 ++ [0]) := ⟨_, rfl⟩
                                          replace H : (gameroomref_HandValue.l5 k7 y144 x13_38) = some r := by first | (rw [hy144]; with_reducible exact H) | (have H2_ := (Option.bind_some _ _).symm.trans H; rw [hy144]; with_reducible exact H2_) | (have H2_ := (Option.bind_some _ _).symm.trans H; with_reducible exact H2_) | with_reducible exact H | (rw [hy144]; exact H) | exact H
                                          have Ny144 := Aside0.mk hy144
                                          clear hy144
                                          have H' := Aside0.mk H
                                          clear H
                                          obtain ⟨Ao77, co77, eo77⟩ := Kd.R_slice HO_6.out
                                          subst eo77
                                          go_wp2_with (first | ((with_reducible refine gate_builtin (b := .append) (xs := #[.tmp 152, .tmp 153]) rfl ?_); at_builtin; refine Kd.R_append (Kd.int .i64) (w0 := w) w.heap.size rfl (.tmp 152) (.tmp 153) 22 3 (.int .i64 0) 8 rfl Try.underlying22 info3 rfl (by decide) (by omega) (.slice Ao77 x6_7.length co77) x6_7 0 [.int .i64 0] (fun _ => True) (fun _ => False) rfl rfl ?aP (fun _ hk => hk.elim) ?aF ?aO ?aB ?aS ?aL ?_; (case aP => exact rfl); (case aB => exact (by repeat (first | (with_reducible first | exact HB.out | apply below_alloc | apply pw_below_drewN | apply below_drew1) | exact HB.out))); (case aF => exact (fun _ _ => trivial)); (case aO => exact (by (with_reducible repeat (first | apply Kd.R_alloc | apply Kd.R_drewN | apply Kd.R_drew)); exact HO_6.out)); (case aS => exact (below_size (by repeat (first | (with_reducible first | exact HB.out | apply below_alloc | apply pw_below_drewN | apply below_drew1) | exact HB.out)))); (case aL => have := LMc76.out; omega); intro v145 w78 ho hb hg hat; rw [← Ny144.out] at ho; have n0_ := Aside0.mk (hb); have n1_ := Aside0.mk (ho); clear HB; clear HO_6; have HB := n0_; have HO146 := n1_; clear n0_ n1_; clear ho hb hg hat))
                                          repeat (go_quiet (first | ((with_reducible refine gate_builtin (b := .append) (xs := #[.tmp 152, .tmp 153]) rfl ?_); at_builtin; refine Kd.R_append (Kd.int .i64) (w0 := w) w.heap.size rfl (.tmp 152) (.tmp 153) 22 3 (.int .i64 0) 8 rfl Try.underlying22 info3 rfl (by decide) (by omega) (.slice Ao77 x6_7.length co77) x6_7 0 [.int .i64 0] (fun _ => True) (fun _ => False) rfl rfl ?aP (fun _ hk => hk.elim) ?aF ?aO ?aB ?aS ?aL ?_; (case aP => exact rfl); (case aB => exact (by repeat (first | (with_reducible first | exact HB.out | apply below_alloc | apply pw_below_drewN | apply below_drew1) | exact HB.out))); (case aF => exact (fun _ _ => trivial)); (case aO => exact (by (with_reducible repeat (first | apply Kd.R_alloc | apply Kd.R_drewN | apply Kd.R_drew)); exact HO_6.out)); (case aS => exact (below_size (by repeat (first | (with_reducible first | exact HB.out | apply below_alloc | apply pw_below_drewN | apply below_drew1) | exact HB.out)))); (case aL => have := LMc76.out; omega); intro v145 w78 ho hb hg hat; rw [← Ny144.out] at ho; have n0_ := Aside0.mk (hb); have n1_ := Aside0.mk (ho); clear HB; clear HO_6; have HB := n0_; have HO146 := n1_; clear n0_ n1_; clear ho hb hg hat)); try go_wp2_with (first | ((with_reducible refine gate_builtin (b := .append) (xs := #[.tmp 152, .tmp 153]) rfl ?_); at_builtin; refine Kd.R_append (Kd.int .i64) (w0 := w) w.heap.size rfl (.tmp 152) (.tmp 153) 22 3 (.int .i64 0) 8 rfl Try.underlying22 info3 rfl (by decide) (by omega) (.slice Ao77 x6_7.length co77) x6_7 0 [.int .i64 0] (fun _ => True) (fun _ => False) rfl rfl ?aP (fun _ hk => hk.elim) ?aF ?aO ?aB ?aS ?aL ?_; (case aP => exact rfl); (case aB => exact (by repeat (first | (with_reducible first | exact HB.out | apply below_alloc | apply pw_below_drewN | apply below_drew1) | exact HB.out))); (case aF => exact (fun _ _ => trivial)); (case aO => exact (by (with_reducible repeat (first | apply Kd.R_alloc | apply Kd.R_drewN | apply Kd.R_drew)); exact HO_6.out)); (case aS => exact (below_size (by repeat (first | (with_reducible first | exact HB.out | apply below_alloc | apply pw_below_drewN | apply below_drew1) | exact HB.out)))); (case aL => have := LMc76.out; omega); intro v145 w78 ho hb hg hat; rw [← Ny144.out] at ho; have n0_ := Aside0.mk (hb); have n1_ := Aside0.mk (ho); clear HB; clear HO_6; have HB := n0_; have HO146 := n1_; clear n0_ n1_; clear ho hb hg hat)))
                                          go_roundg k7
                                          case measure => have := HK1.out; have := HK2.out; have := HK3.out; have := HJ36.out; have := HJ38.out; have := HJ70.out; have := HK7.out; omega
                                          case rel => exact ⟨(y144), H', ⟨by have := HK1.out; have := HK2.out; have := HK3.out; have := HJ36.out; have := HJ38.out; have := HJ70.out; have := HK7.out; omega⟩, ⟨by (with_reducible repeat (first | apply Kd.R_alloc | apply Kd.R_drewN | apply Kd.R_drew)); exact HO146.out⟩, ⟨by repeat (first | (with_reducible first | exact HB.out | apply below_alloc | apply pw_below_drewN | apply below_drew1) | exact HB.out)⟩⟩
                                        · rw [if_neg c76] at H
                                          exact absurd H (by simp)
                                      · rw [if_neg c75] at H
                                        have c75b0 : decide ((x6_7.length : Int) < 5) = false := decide_eq_false c75
                                        have c75b1 : decide (x6_7.length < 5) = false := decide_eq_false (by omega)
                                        clear c75
                                        have H' := Aside0.mk H
                                        clear H
                                        obtain ⟨Ao79, co79, eo79⟩ := Kd.R_slice HO_6.out
                                        subst eo79
                                        go_wp2
                                        repeat (go_quiet (fail); try go_wp2)
                                        go_loopg [14, 15] k7 (fun kq v14 v15 w' => ∃ (x14_8 : Int) (x15_8 : Int), v14 = .int .i64 x14_8 ∧ v15 = .int .i64 x15_8 ∧ Aside0 (gameroomref_HandValue.l6 kq x6_7 x14_8 x15_8 = some r) ∧ Aside0 (kq ≤ k7) ∧ Aside0 (Kd.R (Kd.int .i64) 3 w' w.heap.size (fun _ => True) (.slice Ao79 x6_7.length co79) x6_7) ∧ Aside0 (Below w.heap.size w w'))
                                        case atStart => exact ⟨(x13_38), (0), (by first | rfl | (simp; done) | (simp [*]; done)), (by first | rfl | (simp; done) | (simp [*]; done)), H', ⟨Nat.le_refl _⟩, ⟨by (with_reducible repeat (first | apply Kd.R_alloc | apply Kd.R_drewN | apply Kd.R_drew)); exact HO_6.out⟩, ⟨by repeat (first | (with_reducible first | exact HB.out | apply below_alloc | apply pw_below_drewN | apply below_drew1) | exact HB.out)⟩⟩
                                        case round =>
                                          clear H'
                                          try clear c1
                                          try clear p1
                                          try clear q1
                                          try clear hx1
                                          try clear qi1
                                          try clear hf1
                                          try clear c2
                                          try clear c2b0
                                          try clear c2b1
                                          try clear p2
                                          try clear c3
                                          try clear c4
                                          try clear c5
                                          try clear c5b0
                                          try clear c6
                                          try clear c6b0
                                          try clear p6
                                          try clear c7
                                          try clear c7b0
                                          try clear c9
                                          try clear c9b0
                                          try clear c10
                                          try clear c10b0
                                          try clear p11
                                          try clear q11
                                          try clear hx11
                                          try clear hf11
                                          try clear c12
                                          try clear p12
                                          try clear q12
                                          try clear hx12
                                          try clear qi12
                                          try clear c13
                                          try clear c13b0
                                          try clear c13b1
                                          try clear p13
                                          try clear q13
                                          try clear hx13
                                          try clear qi13
                                          try clear p14
                                          try clear q14
                                          try clear hx14
                                          try clear c20
                                          try clear c20b0
                                          try clear c21
                                          try clear c21b0
                                          try clear c22
                                          try clear c22b0
                                          try clear c23
                                          try clear c23b0
                                          try clear c24
                                          try clear c24b0
                                          try clear c24b1
                                          try clear c25
                                          try clear c29
                                          try clear c29b0
                                          try clear c30
                                          try clear c30b0
                                          try clear c31
                                          try clear c33
                                          try clear c33b0
                                          try clear c34
                                          try clear c34b0
                                          try clear c36
                                          try clear c38
                                          try clear c38b0
                                          try clear c40
                                          try clear c41
                                          try clear c41b0
                                          try clear c41b1
                                          try clear c42
                                          try clear c42b0
                                          try clear c43
                                          try clear c43b0
                                          try clear c44
                                          try clear c44b0
                                          try clear c44b1
                                          try clear c50
                                          try clear c50b0
                                          try clear c50b1
                                          try clear c51
                                          try clear c51b0
                                          try clear c51b1
                                          try clear c52
                                          try clear c52b0
                                          try clear c53
                                          try clear c53b0
                                          try clear c54
                                          try clear c55
                                          try clear c56
                                          try clear c56b0
                                          try clear c57
                                          try clear c57b0
                                          try clear c57b1
                                          try clear c58
                                          try clear c58b0
                                          try clear c59
                                          try clear c59b0
                                          try clear c60
                                          try clear c60b0
                                          try clear c60b1
                                          try clear c62
                                          try clear c62b0
                                          try clear c62b1
                                          try clear c63
                                          try clear c63b0
                                          try clear c63b1
                                          try clear c64
                                          try clear c64b0
                                          try clear c65
                                          try clear c65b0
                                          try clear c66
                                          try clear c67
                                          try clear c67b0
                                          try clear c67b1
                                          try clear c68
                                          try clear c68b0
                                          try clear c69
                                          try clear c69b0
                                          try clear c70
                                          try clear c70b0
                                          try clear c70b1
                                          try clear c72
                                          try clear c72b0
                                          try clear c75
                                          try clear c75b0
                                          try clear c75b1
                                          try clear c76
                                          try clear hx117_0
                                          try clear hx118_0
                                          try clear hx11_0
                                          try clear hx120_0
                                          try clear hx121_0
                                          try clear hx122_0
                                          try clear hx126_0
                                          try clear hx127_0
                                          try clear hx128_0
                                          try clear hx129_0
                                          try clear hx130_0
                                          try clear hx131_0
                                          try clear hx132_0
                                          try clear hx133_0
                                          try clear hx134_0
                                          try clear hx135_0
                                          try clear hx136_0
                                          try clear hx137_0
                                          try clear hx138_0
                                          try clear hx139_0
                                          try clear hx140_0
                                          try clear p1
                                          try clear p11
                                          try clear p117
                                          try clear p118
                                          try clear p12
                                          try clear p120
                                          try clear p121
                                          try clear p122
                                          try clear p126
                                          try clear p127
                                          try clear p128
                                          try clear p129
                                          try clear p13
                                          try clear p130
                                          try clear p131
                                          try clear p132
                                          try clear p133
                                          try clear p134
                                          try clear p135
                                          try clear p136
                                          try clear p137
                                          try clear p138
                                          try clear p139
                                          try clear p14
                                          try clear p140
                                          try clear p2
                                          try clear p6
                                          try clear q1
                                          try clear q11
                                          try clear q117
                                          try clear q118
                                          try clear q12
                                          try clear q120
                                          try clear q121
                                          try clear q122
                                          try clear q126
                                          try clear q127
                                          try clear q128
                                          try clear q129
                                          try clear q13
                                          try clear q130
                                          try clear q131
                                          try clear q132
                                          try clear q133
                                          try clear q134
                                          try clear q135
                                          try clear q136
                                          try clear q137
                                          try clear q138
                                          try clear q139
                                          try clear q14
                                          try clear q140
                                          obtain ⟨x14_8, x15_8, rfl, rfl, HA, HK8, HO_6, HB⟩ := hrel
                                          cases gk with
                                          | zero => exact absurd HA.out (by simp [gameroomref_HandValue.l6])
                                          | succ k8 =>
                                            have H := HA.out
                                            clear HA
                                            simp only [gameroomref_HandValue.l6] at H
                                            by_cases c80 : x15_8 < 5
                                            · rw [if_pos c80] at H
                                              have c80b0 : decide (x15_8 < 5) = true := decide_eq_true c80
                                              clear c80
                                              by_cases c81 : 0 ≤ x15_8
                                              · rw [if_pos c81] at H
                                                have c81b0 : decide (0 ≤ x15_8) = true := decide_eq_true c81
                                                clear c81
                                                by_cases c82 : x15_8 < (x6_7.length : Int)
                                                · rw [if_pos c82] at H
                                                  have c82b0 : decide (x15_8 < (x6_7.length : Int)) = true := decide_eq_true c82
                                                  clear c82
                                                  have H' := Aside0.mk H
                                                  clear H
                                                  have p147 : 0 ≤ (x15_8 : Int) := of_decide_eq_true (by first | (with_reducible assumption) | assumption)
                                                  have q147 : x15_8 < (x6_7.length : Int) := of_decide_eq_true (by first | (with_reducible assumption) | assumption)
                                                  obtain ⟨ad147, e147, hx147_0⟩ := Kd.at_int (Kd.R_reads' HO_6.out).2.2 x15_8 p147 q147
                                                  cases e147
                                                  replace p147 := eq_true p147
                                                  replace q147 := eq_true q147
                                                  go_wp2
                                                  repeat (go_quiet (fail); try go_wp2)
                                                  go_roundg k8
                                                  case measure => have := HK1.out; have := HK2.out; have := HK3.out; have := HJ36.out; have := HJ38.out; have := HJ70.out; have := HK7.out; have := HK8.out; omega
                                                  case rel => exact ⟨(wrap64 ((wrap64 (13 * x14_8)) + (rd x6_7 x15_8))), (wrap64 (x15_8 + 1)), (by first | rfl | (simp; done) | (simp [*]; done)), (by first | rfl | (simp; done) | (simp [*]; done)), H', ⟨by have := HK1.out; have := HK2.out; have := HK3.out; have := HJ36.out; have := HJ38.out; have := HJ70.out; have := HK7.out; have := HK8.out; omega⟩, ⟨by (with_reducible repeat (first | apply Kd.R_alloc | apply Kd.R_drewN | apply Kd.R_drew)); exact HO_6.out⟩, ⟨by repeat (first | (with_reducible first | exact HB.out | apply below_alloc | apply pw_below_drewN | apply below_drew1) | exact HB.out)⟩⟩
                                                · rw [if_neg c82] at H
                                                  exact absurd H (by simp)
                                              · rw [if_neg c81] at H
                                                exact absurd H (by simp)
                                            · rw [if_neg c80] at H
                                              have c80b0 : decide (x15_8 < 5) = false := decide_eq_false c80
                                              clear c80
                                              obtain rfl := Option.some.inj H
                                              go_wp2
                                              repeat (go_quiet (fail); try go_wp2)
                                              go_ret
                                              exact ⟨by first | rfl | (simp [errW_none, errW_some] <;> rfl) | (simp [*, errW_none, errW_some] <;> rfl), by repeat (first | (with_reducible first | exact HB.out | apply below_alloc | apply pw_below_drewN | apply below_drew1) | exact HB.out)⟩
  · rw [if_neg c2] at H
    exact absurd H (by simp)

end Go.Proofs.Ytpcmodmghpijeaa.Q
