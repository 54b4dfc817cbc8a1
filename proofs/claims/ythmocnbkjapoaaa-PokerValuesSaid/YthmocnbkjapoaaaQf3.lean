-- Printed by a program of this session (a turned print): out of the translation, for Lean to check.
import Derived.Test.YthmocnbkjapoaaaQ0
import Derived.Test.YthmocnbkjapoaaaQf4
import Derived.Test.YthmocnbkjapoaaaQf5
import Derived.Test.YthmocnbkjapoaaaQf6
import Derived.Test.YthmocnbkjapoaaaQf7
import Derived.Test.YthmocnbkjapoaaaQf8
import Derived.Test.YthmocnbkjapoaaaQf9
import Derived.Test.YthmocnbkjapoaaaQf10
namespace Go.Proofs.Ythmocnbkjapoaaa.Q
open Go.RowKit Go.Proofs.YthmocnbkjapoaaaW.PrintWords Go.Proofs.YthmocnbkjapoaaaW.PrintLast Go.Proofs.YthmocnbkjapoaaaW.PrintMore
attribute [local go_sem] max2_int min2_int max_two min_two max_three min_three max_four min_four   -- for this text's walks alone
set_option linter.unusedVariables false
set_option linter.unusedSimpArgs false

/-! ### gameroomlaw_PokerValues: function 3 -/
mutual
def gameroomlaw_PokerValues.j0 : Nat → List Int → Int → Int → Int → List Int → Int → Int → Int → Bool → Option (Bool)
  | 0, _, _, _, _, _, _, _, _, _ => none
  | k + 1, x0, x1, x5, x6, x7, x8, x9, x10, x36 => if x36 = true then (if x10 = 3 then (if x9 = 0 then (gameroomlaw_PokerValues.j1 k x0 x5 x6 x7 x8) else (some false)) else (some false)) else (if x10 = 0 then (if x9 = (wrap64 (Int.tdiv x1 371293)) then (gameroomlaw_PokerValues.j1 k x0 x5 x6 x7 x8) else (some false)) else (some false))
def gameroomlaw_PokerValues.j1 : Nat → List Int → Int → Int → List Int → Int → Option (Bool)
  | 0, _, _, _, _, _ => none
  | k + 1, x0, x5, x6, x7, x8 => if (x0.length : Int) ≥ 5 then (gameroomlaw_PokerValues.j2 k x0 x5 x6 x7 x8 11 (decide ((x0.length : Int) ≤ 7))) else (gameroomlaw_PokerValues.j2 k x0 x5 x6 x7 x8 11 false)
def gameroomlaw_PokerValues.j2 : Nat → List Int → Int → Int → List Int → Int → Int → Bool → Option (Bool)
  | 0, _, _, _, _, _, _, _ => none
  | k + 1, x0, x5, x6, x7, x8, x11, x58 => if x58 = true then ((gameroomref_CardsMay.f k x0).bind fun t184 => (gameroomlaw_PokerValues.j3 k x0 x5 x6 x7 x8 t184)) else (gameroomlaw_PokerValues.j3 k x0 x5 x6 x7 x8 x11)
def gameroomlaw_PokerValues.j3 : Nat → List Int → Int → Int → List Int → Int → Int → Option (Bool)
  | 0, _, _, _, _, _, _ => none
  | k + 1, x0, x5, x6, x7, x8, x11 => if x11 = 0 then ((gameroomref_BestFive.f k x0).bind fun bt185 => (if x6 = 0 then (if x8 = 0 then (if x5 = bt185.1 then ((gameroomlaw_sameInts.f k x7 bt185.2).bind fun t189 => (some t189)) else (some false)) else (some false)) else (some false))) else (if x6 = x11 then (if x8 = x11 then (if x5 = 0 then (some ((x7.length : Int) == 0)) else (some false)) else (some false)) else (some false))
end
def gameroomlaw_PokerValues.f (k : Nat) (l0 : List Int) (a1 : Int) : Option (Bool) := (gameroomlaw_ints.f l0).bind fun t170 => ((poker_Value.f k t170).bind fun bt173 => ((gameroomlaw_ints.f l0).bind fun t175 => ((poker_Best.f k t175).bind fun bt178 => ((poker_Class.f a1).bind fun bt182 => (if a1 < 0 then (gameroomlaw_PokerValues.j0 k l0 a1 bt173.1 bt173.2 bt178.1 bt178.2 bt182.1 bt182.2 true) else (gameroomlaw_PokerValues.j0 k l0 a1 bt173.1 bt173.2 bt178.1 bt178.2 bt182.1 bt182.2 (decide (a1 ≥ 3341637))))))))
theorem gameroomlaw_PokerValues.mono_l : ∀ k, (∀ y0 y1 y2 y3 y4 y5 y6 y7 y8, LeO (gameroomlaw_PokerValues.j0 k y0 y1 y2 y3 y4 y5 y6 y7 y8) (gameroomlaw_PokerValues.j0 (k + 1) y0 y1 y2 y3 y4 y5 y6 y7 y8)) ∧ (∀ y0 y1 y2 y3 y4, LeO (gameroomlaw_PokerValues.j1 k y0 y1 y2 y3 y4) (gameroomlaw_PokerValues.j1 (k + 1) y0 y1 y2 y3 y4)) ∧ (∀ y0 y1 y2 y3 y4 y5 y6, LeO (gameroomlaw_PokerValues.j2 k y0 y1 y2 y3 y4 y5 y6) (gameroomlaw_PokerValues.j2 (k + 1) y0 y1 y2 y3 y4 y5 y6)) ∧ (∀ y0 y1 y2 y3 y4 y5, LeO (gameroomlaw_PokerValues.j3 k y0 y1 y2 y3 y4 y5) (gameroomlaw_PokerValues.j3 (k + 1) y0 y1 y2 y3 y4 y5))
  | 0 => ⟨fun _ _ _ _ _ _ _ _ _ r h => by simp [gameroomlaw_PokerValues.j0] at h, fun _ _ _ _ _ r h => by simp [gameroomlaw_PokerValues.j1] at h, fun _ _ _ _ _ _ _ r h => by simp [gameroomlaw_PokerValues.j2] at h, fun _ _ _ _ _ _ r h => by simp [gameroomlaw_PokerValues.j3] at h⟩
  | k + 1 => by
    obtain ⟨ih0, ih1, ih2, ih3⟩ := gameroomlaw_PokerValues.mono_l k
    refine ⟨?_, ?_, ?_, ?_⟩
    · intro y0 y1 y2 y3 y4 y5 y6 y7 y8
      unfold gameroomlaw_PokerValues.j0
      repeat' first
      | (with_reducible exact ih0 _ _ _ _ _ _ _ _ _)
      | (with_reducible exact ih1 _ _ _ _ _)
      | (with_reducible exact ih2 _ _ _ _ _ _ _)
      | (with_reducible exact ih3 _ _ _ _ _ _)
      | (with_reducible exact gameroomlaw_sameInts.mono _ _ _)
      | (with_reducible exact gameroomref_BestFive.mono _ _)
      | (with_reducible exact gameroomref_CardsMay.mono _ _)
      | (with_reducible exact poker_Best.mono _ _)
      | (with_reducible exact poker_Value.mono _ _)
      | (with_reducible exact LeO.refl _)
      | (with_reducible exact LeO.none _)
      | (with_reducible refine LeO.ite ?_ ?_)
      | (with_reducible refine LeO.bind ?_ (fun _ => ?_))
      | exact ih0 _ _ _ _ _ _ _ _ _
      | exact ih1 _ _ _ _ _
      | exact ih2 _ _ _ _ _ _ _
      | exact ih3 _ _ _ _ _ _
      | exact gameroomlaw_sameInts.mono _ _ _
      | exact gameroomref_BestFive.mono _ _
      | exact gameroomref_CardsMay.mono _ _
      | exact poker_Best.mono _ _
      | exact poker_Value.mono _ _
      | exact LeO.none _
      | refine LeO.ite ?_ ?_
      | refine LeO.bind ?_ (fun _ => ?_)
    · intro y0 y1 y2 y3 y4
      unfold gameroomlaw_PokerValues.j1
      repeat' first
      | (with_reducible exact ih0 _ _ _ _ _ _ _ _ _)
      | (with_reducible exact ih1 _ _ _ _ _)
      | (with_reducible exact ih2 _ _ _ _ _ _ _)
      | (with_reducible exact ih3 _ _ _ _ _ _)
      | (with_reducible exact gameroomlaw_sameInts.mono _ _ _)
      | (with_reducible exact gameroomref_BestFive.mono _ _)
      | (with_reducible exact gameroomref_CardsMay.mono _ _)
      | (with_reducible exact poker_Best.mono _ _)
      | (with_reducible exact poker_Value.mono _ _)
      | (with_reducible exact LeO.refl _)
      | (with_reducible exact LeO.none _)
      | (with_reducible refine LeO.ite ?_ ?_)
      | (with_reducible refine LeO.bind ?_ (fun _ => ?_))
      | exact ih0 _ _ _ _ _ _ _ _ _
      | exact ih1 _ _ _ _ _
      | exact ih2 _ _ _ _ _ _ _
      | exact ih3 _ _ _ _ _ _
      | exact gameroomlaw_sameInts.mono _ _ _
      | exact gameroomref_BestFive.mono _ _
      | exact gameroomref_CardsMay.mono _ _
      | exact poker_Best.mono _ _
      | exact poker_Value.mono _ _
      | exact LeO.none _
      | refine LeO.ite ?_ ?_
      | refine LeO.bind ?_ (fun _ => ?_)
    · intro y0 y1 y2 y3 y4 y5 y6
      unfold gameroomlaw_PokerValues.j2
      repeat' first
      | (with_reducible exact ih0 _ _ _ _ _ _ _ _ _)
      | (with_reducible exact ih1 _ _ _ _ _)
      | (with_reducible exact ih2 _ _ _ _ _ _ _)
      | (with_reducible exact ih3 _ _ _ _ _ _)
      | (with_reducible exact gameroomlaw_sameInts.mono _ _ _)
      | (with_reducible exact gameroomref_BestFive.mono _ _)
      | (with_reducible exact gameroomref_CardsMay.mono _ _)
      | (with_reducible exact poker_Best.mono _ _)
      | (with_reducible exact poker_Value.mono _ _)
      | (with_reducible exact LeO.refl _)
      | (with_reducible exact LeO.none _)
      | (with_reducible refine LeO.ite ?_ ?_)
      | (with_reducible refine LeO.bind ?_ (fun _ => ?_))
      | exact ih0 _ _ _ _ _ _ _ _ _
      | exact ih1 _ _ _ _ _
      | exact ih2 _ _ _ _ _ _ _
      | exact ih3 _ _ _ _ _ _
      | exact gameroomlaw_sameInts.mono _ _ _
      | exact gameroomref_BestFive.mono _ _
      | exact gameroomref_CardsMay.mono _ _
      | exact poker_Best.mono _ _
      | exact poker_Value.mono _ _
      | exact LeO.none _
      | refine LeO.ite ?_ ?_
      | refine LeO.bind ?_ (fun _ => ?_)
    · intro y0 y1 y2 y3 y4 y5
      unfold gameroomlaw_PokerValues.j3
      repeat' first
      | (with_reducible exact ih0 _ _ _ _ _ _ _ _ _)
      | (with_reducible exact ih1 _ _ _ _ _)
      | (with_reducible exact ih2 _ _ _ _ _ _ _)
      | (with_reducible exact ih3 _ _ _ _ _ _)
      | (with_reducible exact gameroomlaw_sameInts.mono _ _ _)
      | (with_reducible exact gameroomref_BestFive.mono _ _)
      | (with_reducible exact gameroomref_CardsMay.mono _ _)
      | (with_reducible exact poker_Best.mono _ _)
      | (with_reducible exact poker_Value.mono _ _)
      | (with_reducible exact LeO.refl _)
      | (with_reducible exact LeO.none _)
      | (with_reducible refine LeO.ite ?_ ?_)
      | (with_reducible refine LeO.bind ?_ (fun _ => ?_))
      | exact ih0 _ _ _ _ _ _ _ _ _
      | exact ih1 _ _ _ _ _
      | exact ih2 _ _ _ _ _ _ _
      | exact ih3 _ _ _ _ _ _
      | exact gameroomlaw_sameInts.mono _ _ _
      | exact gameroomref_BestFive.mono _ _
      | exact gameroomref_CardsMay.mono _ _
      | exact poker_Best.mono _ _
      | exact poker_Value.mono _ _
      | exact LeO.none _
      | refine LeO.ite ?_ ?_
      | refine LeO.bind ?_ (fun _ => ?_)
theorem gameroomlaw_PokerValues.mono : ∀ a0 a1 k, LeO (gameroomlaw_PokerValues.f k a0 a1) (gameroomlaw_PokerValues.f (k + 1) a0 a1) := by
  intro a0 a1 k
  obtain ⟨ih0, ih1, ih2, ih3⟩ := gameroomlaw_PokerValues.mono_l k
  unfold gameroomlaw_PokerValues.f
  repeat' first
      | (with_reducible exact ih0 _ _ _ _ _ _ _ _ _)
      | (with_reducible exact ih1 _ _ _ _ _)
      | (with_reducible exact ih2 _ _ _ _ _ _ _)
      | (with_reducible exact ih3 _ _ _ _ _ _)
      | (with_reducible exact gameroomlaw_sameInts.mono _ _ _)
      | (with_reducible exact gameroomref_BestFive.mono _ _)
      | (with_reducible exact gameroomref_CardsMay.mono _ _)
      | (with_reducible exact poker_Best.mono _ _)
      | (with_reducible exact poker_Value.mono _ _)
      | (with_reducible exact LeO.refl _)
      | (with_reducible exact LeO.none _)
      | (with_reducible refine LeO.ite ?_ ?_)
      | (with_reducible refine LeO.bind ?_ (fun _ => ?_))
      | exact ih0 _ _ _ _ _ _ _ _ _
      | exact ih1 _ _ _ _ _
      | exact ih2 _ _ _ _ _ _ _
      | exact ih3 _ _ _ _ _ _
      | exact gameroomlaw_sameInts.mono _ _ _
      | exact gameroomref_BestFive.mono _ _
      | exact gameroomref_CardsMay.mono _ _
      | exact poker_Best.mono _ _
      | exact poker_Value.mono _ _
      | exact LeO.none _
      | refine LeO.ite ?_ ?_
      | refine LeO.bind ?_ (fun _ => ?_)
set_option maxHeartbeats 8000000 in
set_option maxRecDepth 100000 in
theorem gameroomlaw_PokerValues.calls (k : Nat) (A0 : Option Addr) (c0 : Nat) (l0 : List Int) (a1 : Int) (r : Bool) (w : World) (hr0 : Kd.C (Kd.int .i64) w A0 l0.length l0) (hc0 : l0.length ≤ c0) (h : gameroomlaw_PokerValues.f k l0 a1 = some r) :
    Calls Try.prog 3 #[.slice A0 l0.length c0, .int .i64 a1] w fun e w' => e = .returned (.bool r) ∧ Below w.heap.size w w' := by
  have HR0 := Aside0.mk hr0
  have HC0 := Aside0.mk hc0
  clear hr0 hc0
  have HB := Aside0.mk (Below.refl w.heap.size w)
  have H : ((gameroomlaw_ints.f l0).bind fun t170 => ((poker_Value.f k t170).bind fun bt173 => ((gameroomlaw_ints.f l0).bind fun t175 => ((poker_Best.f k t175).bind fun bt178 => ((poker_Class.f a1).bind fun bt182 => (if a1 < 0 then (gameroomlaw_PokerValues.j0 k l0 a1 bt173.1 bt173.2 bt178.1 bt178.2 bt182.1 bt182.2 true) else (gameroomlaw_PokerValues.j0 k l0 a1 bt173.1 bt173.2 bt178.1 bt178.2 bt182.1 bt182.2 (decide (a1 ≥ 3341637))))))))) = some r := h
  clear h
  replace H := Option.bind_eq_some_iff.mp H
  obtain ⟨t170, A30, H⟩ := H
  replace H : ((poker_Value.f k t170).bind fun bt173 => ((gameroomlaw_ints.f l0).bind fun t175 => ((poker_Best.f k t175).bind fun bt178 => ((poker_Class.f a1).bind fun bt182 => (if a1 < 0 then (gameroomlaw_PokerValues.j0 k l0 a1 bt173.1 bt173.2 bt178.1 bt178.2 bt182.1 bt182.2 true) else (gameroomlaw_PokerValues.j0 k l0 a1 bt173.1 bt173.2 bt178.1 bt178.2 bt182.1 bt182.2 (decide (a1 ≥ 3341637)))))))) = some r := H
  have A3 := Aside0.mk A30
  clear A30
  replace H := Option.bind_eq_some_iff.mp H
  obtain ⟨⟨t173, t174⟩, A40, H⟩ := H
  replace H : ((gameroomlaw_ints.f l0).bind fun t175 => ((poker_Best.f k t175).bind fun bt178 => ((poker_Class.f a1).bind fun bt182 => (if a1 < 0 then (gameroomlaw_PokerValues.j0 k l0 a1 t173 t174 bt178.1 bt178.2 bt182.1 bt182.2 true) else (gameroomlaw_PokerValues.j0 k l0 a1 t173 t174 bt178.1 bt178.2 bt182.1 bt182.2 (decide (a1 ≥ 3341637))))))) = some r := H
  have A4 := Aside0.mk A40
  clear A40
  replace H := Option.bind_eq_some_iff.mp H
  obtain ⟨t175, A50, H⟩ := H
  replace H : ((poker_Best.f k t175).bind fun bt178 => ((poker_Class.f a1).bind fun bt182 => (if a1 < 0 then (gameroomlaw_PokerValues.j0 k l0 a1 t173 t174 bt178.1 bt178.2 bt182.1 bt182.2 true) else (gameroomlaw_PokerValues.j0 k l0 a1 t173 t174 bt178.1 bt178.2 bt182.1 bt182.2 (decide (a1 ≥ 3341637)))))) = some r := H
  have A5 := Aside0.mk A50
  clear A50
  replace H := Option.bind_eq_some_iff.mp H
  obtain ⟨⟨t178, t179⟩, A60, H⟩ := H
  replace H : ((poker_Class.f a1).bind fun bt182 => (if a1 < 0 then (gameroomlaw_PokerValues.j0 k l0 a1 t173 t174 t178 t179 bt182.1 bt182.2 true) else (gameroomlaw_PokerValues.j0 k l0 a1 t173 t174 t178 t179 bt182.1 bt182.2 (decide (a1 ≥ 3341637))))) = some r := H
  have A6 := Aside0.mk A60
  clear A60
  replace H := Option.bind_eq_some_iff.mp H
  obtain ⟨⟨t182, t183⟩, A70, H⟩ := H
  replace H : (if a1 < 0 then (gameroomlaw_PokerValues.j0 k l0 a1 t173 t174 t178 t179 t182 t183 true) else (gameroomlaw_PokerValues.j0 k l0 a1 t173 t174 t178 t179 t182 t183 (decide (a1 ≥ 3341637)))) = some r := H
  have A7 := Aside0.mk A70
  clear A70
  have HC8 := Aside0.mk H
  clear H
  go_enter Try.func3, Try.ntmps3
  go_upto_region 4 with (first | ((with_reducible refine gate_callee (f := 5) rfl ?_); refine goesL_ (some 16) rfl rfl Try.func5 (by kernel_rfl) rfl #[.slice A0 l0.length c0] rfl (by (try simp only [List.map_toArray, List.map_cons, List.map_nil]); first | done | rfl | (simp only [List.length_drop, List.length_take]; rfl)) ?_; (with_reducible refine (gameroomlaw_ints.calls _ _ l0 t170 _ ?side1 ?side2 A3.out).mono ?_); (case side1 => repeat (first | exact HR0.out | (with_reducible refine Kd.C_alloc ?_ _) | (with_reducible refine Kd.C_drewN ?_ _) | (with_reducible refine Kd.C_drew ?_))); (case side2 => exact HC0.out); rintro e w9 ⟨v171, rfl, ho0, hb⟩; refine ⟨_, rfl, ?_⟩; have n0_ := Aside0.mk (Kd.R_lower ho0 (below_size (by repeat (first | (with_reducible first | exact HB.out | apply below_alloc | apply pw_below_drewN | apply below_drew1) | exact HB.out)))); have n1_ := Aside0.mk (below_step (by repeat (first | (with_reducible first | exact HB.out | apply below_alloc | apply pw_below_drewN | apply below_drew1) | exact HB.out)) hb); clear HB; have HO172 := n0_; have HB := n1_; clear n0_ n1_; (try clear hb); (try clear hb2); (try clear hk); (try clear hi); (try clear ho0); obtain ⟨Ao10, co10, eo10⟩ := Kd.R_slice HO172.out; subst eo10) | ((with_reducible refine gate_callee (f := 4) rfl ?_); refine goesL_ (some 17) rfl rfl Try.func4 (by kernel_rfl) rfl #[.slice Ao10 t170.length co10] rfl (by (try simp only [List.map_toArray, List.map_cons, List.map_nil]); first | done | rfl | (simp only [List.length_drop, List.length_take]; rfl)) ?_; (with_reducible refine (poker_Value.calls k _ _ t170 t173 t174 _ ?side1 ?side2 A4.out).mono ?_); (case side1 => repeat (first | exact (Kd.R_reads' HO172.out).2.2 | (with_reducible refine Kd.C_alloc ?_ _) | (with_reducible refine Kd.C_drewN ?_ _) | (with_reducible refine Kd.C_drew ?_))); (case side2 => exact (Kd.R_reads' HO172.out).2.1); rintro e w11 ⟨rfl, hb⟩; refine ⟨_, rfl, ?_⟩; have n0_ := Aside0.mk (Kd.R_below (by (with_reducible repeat (first | apply Kd.R_alloc | apply Kd.R_drewN | apply Kd.R_drew)); exact HO172.out) hb); have n1_ := Aside0.mk (below_step (by repeat (first | (with_reducible first | exact HB.out | apply below_alloc | apply pw_below_drewN | apply below_drew1) | exact HB.out)) hb); clear HO172; clear HB; have HO172 := n0_; have HB := n1_; clear n0_ n1_; (try clear hb); (try clear hb2); (try clear hk); (try clear hi)) | ((with_reducible refine gate_callee (f := 5) rfl ?_); refine goesL_ (some 22) rfl rfl Try.func5 (by kernel_rfl) rfl #[.slice A0 l0.length c0] rfl (by (try simp only [List.map_toArray, List.map_cons, List.map_nil]); first | done | rfl | (simp only [List.length_drop, List.length_take]; rfl)) ?_; (with_reducible refine (gameroomlaw_ints.calls _ _ l0 t175 _ ?side1 ?side2 A5.out).mono ?_); (case side1 => repeat (first | exact (Kd.C_below HR0.out HB.out) | (with_reducible refine Kd.C_alloc ?_ _) | (with_reducible refine Kd.C_drewN ?_ _) | (with_reducible refine Kd.C_drew ?_))); (case side2 => exact HC0.out); rintro e w12 ⟨v176, rfl, ho0, hb⟩; refine ⟨_, rfl, ?_⟩; have n0_ := Aside0.mk (Kd.R_elder' (by (with_reducible repeat (first | apply Kd.R_alloc | apply Kd.R_drewN | apply Kd.R_drew)); exact HO172.out) (Kd.R_base ho0) hb); have n1_ := Aside0.mk (Kd.R_lower (Kd.R_new' ho0 (Kd.R_lt (by (with_reducible repeat (first | apply Kd.R_alloc | apply Kd.R_drewN | apply Kd.R_drew)); exact HO172.out))) (below_size (by repeat (first | (with_reducible first | exact HB.out | apply below_alloc | apply pw_below_drewN | apply below_drew1) | exact HB.out)))); have n2_ := Aside0.mk (below_step (by repeat (first | (with_reducible first | exact HB.out | apply below_alloc | apply pw_below_drewN | apply below_drew1) | exact HB.out)) hb); clear HO172; clear HB; have HO172 := n0_; have HO177 := n1_; have HB := n2_; clear n0_ n1_ n2_; (try clear hb); (try clear hb2); (try clear hk); (try clear hi); (try clear ho0); obtain ⟨Ao13, co13, eo13⟩ := Kd.R_slice HO177.out; subst eo13) | ((with_reducible refine gate_callee (f := 6) rfl ?_); refine goesL_ (some 23) rfl rfl Try.func6 (by kernel_rfl) rfl #[.slice Ao13 t175.length co13] rfl (by (try simp only [List.map_toArray, List.map_cons, List.map_nil]); first | done | rfl | (simp only [List.length_drop, List.length_take]; rfl)) ?_; (with_reducible refine (poker_Best.calls k _ _ t175 t178 t179 _ ?side1 ?side2 A6.out).mono ?_); (case side1 => repeat (first | exact (Kd.R_reads' HO177.out).2.2 | (with_reducible refine Kd.C_alloc ?_ _) | (with_reducible refine Kd.C_drewN ?_ _) | (with_reducible refine Kd.C_drew ?_))); (case side2 => exact (Kd.R_reads' HO177.out).2.1); rintro e w14 ⟨v180, rfl, ho0, hb⟩; refine ⟨_, rfl, ?_⟩; have n0_ := Aside0.mk (Kd.R_elder' (by (with_reducible repeat (first | apply Kd.R_alloc | apply Kd.R_drewN | apply Kd.R_drew)); exact HO172.out) (Kd.R_base ho0) hb); have n1_ := Aside0.mk (Kd.R_elder' (by (with_reducible repeat (first | apply Kd.R_alloc | apply Kd.R_drewN | apply Kd.R_drew)); exact HO177.out) (Kd.R_base ho0) hb); have n2_ := Aside0.mk (Kd.R_lower (Kd.R_new' (Kd.R_new' ho0 (Kd.R_lt (by (with_reducible repeat (first | apply Kd.R_alloc | apply Kd.R_drewN | apply Kd.R_drew)); exact HO172.out))) (Kd.R_lt (by (with_reducible repeat (first | apply Kd.R_alloc | apply Kd.R_drewN | apply Kd.R_drew)); exact HO177.out))) (below_size (by repeat (first | (with_reducible first | exact HB.out | apply below_alloc | apply pw_below_drewN | apply below_drew1) | exact HB.out)))); have n3_ := Aside0.mk (below_step (by repeat (first | (with_reducible first | exact HB.out | apply below_alloc | apply pw_below_drewN | apply below_drew1) | exact HB.out)) hb); clear HO172; clear HO177; clear HB; have HO172 := n0_; have HO177 := n1_; have HO181 := n2_; have HB := n3_; clear n0_ n1_ n2_ n3_; (try clear hb); (try clear hb2); (try clear hk); (try clear hi); (try clear ho0)) | ((with_reducible refine gate_callee (f := 7) rfl ?_); refine goesL_ (some 28) rfl rfl Try.func7 (by kernel_rfl) rfl #[.int .i64 a1] rfl (by (try simp only [List.map_toArray, List.map_cons, List.map_nil]); first | done | rfl | (simp only [List.length_drop, List.length_take]; rfl)) ?_; (with_reducible refine (poker_Class.calls a1 t182 t183 _ A7.out).mono ?_); rintro e w' ⟨rfl, ⟨nd, rfl⟩⟩; refine ⟨_, rfl, ?_⟩))
  (try simp only [Act.put, List.setIfInBounds_toArray, List.set_cons_zero, List.set_cons_succ])
  go_cut [36] (fun v36 wc => ∃ (kq : Nat) (x36_7 : Bool), v36 = .bool x36_7 ∧ Aside0 (gameroomlaw_PokerValues.j0 kq l0 a1 t173 t174 t178 t179 t182 t183 x36_7 = some r) ∧ Aside0 (kq ≤ k) ∧ Aside0 (Kd.R (Kd.int .i64) 3 wc w.heap.size (fun _ => True) v180 t178) ∧ Aside0 (Below w.heap.size w wc))
  case first =>
    have H := HC8.out
    clear HC8
    by_cases c15 : a1 < 0
    · rw [if_pos c15] at H
      have c15b0 : decide (a1 < 0) = true := decide_eq_true c15
      clear c15
      (first | rw [c15b0] | (simp only [i64_w, i32_w]; rw [c15b0]) | skip)
      have H' := Aside0.mk H
      clear H
      go_wp2
      go_meet
      case rel => exact ⟨_, (true), (by first | rfl | (simp; done) | (simp [*]; done)), H', ⟨by first | omega | exact Nat.le_refl _⟩, ⟨by (with_reducible repeat (first | apply Kd.R_alloc | apply Kd.R_drewN | apply Kd.R_drew)); exact Kd.R_mono HO181.out (fun _ hk => trivial)⟩, ⟨by repeat (first | (with_reducible first | exact HB.out | apply below_alloc | apply pw_below_drewN | apply below_drew1) | exact HB.out)⟩⟩
    · rw [if_neg c15] at H
      have c15b0 : decide (a1 < 0) = false := decide_eq_false c15
      clear c15
      (first | rw [c15b0] | (simp only [i64_w, i32_w]; rw [c15b0]) | skip)
      have H' := Aside0.mk H
      clear H
      go_wp2
      go_meet
      case rel => exact ⟨_, (decide (a1 ≥ 3341637)), (by first | rfl | (simp; done) | (simp [*]; done)), H', ⟨by first | omega | exact Nat.le_refl _⟩, ⟨by (with_reducible repeat (first | apply Kd.R_alloc | apply Kd.R_drewN | apply Kd.R_drew)); exact Kd.R_mono HO181.out (fun _ hk => trivial)⟩, ⟨by repeat (first | (with_reducible first | exact HB.out | apply below_alloc | apply pw_below_drewN | apply below_drew1) | exact HB.out)⟩⟩
  case rest =>
    clear HC8
    try clear c1
    try clear p2
    try clear c3
    try clear c4
    try clear c5
    try clear c6
    try clear c7
    try clear c15
    try clear c15b0
    obtain ⟨kq, x36_7, rfl, HA, HJ7, HO_7, HB⟩ := hcut
    cases kq with
    | zero => exact absurd HA.out (by simp [gameroomlaw_PokerValues.j0])
    | succ kj7 =>
      have H := HA.out
      clear HA
      simp only [gameroomlaw_PokerValues.j0] at H
      have HC16 := Aside0.mk H
      clear H
      go_upto_if 36 with (fail)
      go_cut [] (fun wc => ∃ (kq : Nat), Aside0 (gameroomlaw_PokerValues.j1 kq l0 t173 t174 t178 t179 = some r) ∧ Aside0 (kq ≤ kj7) ∧ Aside0 (Kd.R (Kd.int .i64) 3 wc w.heap.size (fun _ => True) v180 t178) ∧ Aside0 (Below w.heap.size w wc))
      case first =>
        have H := HC16.out
        clear HC16
        by_cases c17 : x36_7 = true
        · subst c17
          have H1 : (if t183 = 3 then (if t182 = 0 then (gameroomlaw_PokerValues.j1 kj7 l0 t173 t174 t178 t179) else (some false)) else (some false)) = some r := by rw [if_pos rfl] at H; exact H
          clear H
          have H := H1
          clear H1
          by_cases c18 : t183 = 3
          · rw [if_pos c18] at H
            have c18b0 : (t183 == 3) = true := beq_iff_eq.mpr c18
            have c18b1 : (t183 != 3) = false := bne_eq_false_iff_eq.mpr c18
            clear c18
            (first | rw [c18b0] | (simp only [i64_w, i32_w]; rw [c18b0]) | skip)
            by_cases c19 : t182 = 0
            · rw [if_pos c19] at H
              have c19b0 : (t182 == 0) = true := beq_iff_eq.mpr c19
              have c19b1 : (t182 != 0) = false := bne_eq_false_iff_eq.mpr c19
              clear c19
              have H' := Aside0.mk H
              clear H
              go_wp2
              go_meet
              case rel => exact ⟨_, H', ⟨by have := HJ7.out; first | omega | exact Nat.le_refl _⟩, ⟨by (with_reducible repeat (first | apply Kd.R_alloc | apply Kd.R_drewN | apply Kd.R_drew)); exact HO_7.out⟩, ⟨by repeat (first | (with_reducible first | exact HB.out | apply below_alloc | apply pw_below_drewN | apply below_drew1) | exact HB.out)⟩⟩
            · rw [if_neg c19] at H
              have c19b0 : (t182 == 0) = false := beq_eq_false_iff_ne.mpr c19
              have c19b1 : (t182 != 0) = true := bne_iff_ne.mpr c19
              obtain rfl := Option.some.inj H
              go_wp2
              go_ret
              exact ⟨by first | rfl | (simp [errW_none, errW_some] <;> rfl) | (simp [*, errW_none, errW_some] <;> rfl), by repeat (first | (with_reducible first | exact HB.out | apply below_alloc | apply pw_below_drewN | apply below_drew1) | exact HB.out)⟩
          · rw [if_neg c18] at H
            have c18b0 : (t183 == 3) = false := beq_eq_false_iff_ne.mpr c18
            have c18b1 : (t183 != 3) = true := bne_iff_ne.mpr c18
            (first | rw [c18b0] | (simp only [i64_w, i32_w]; rw [c18b0]) | skip)
            obtain rfl := Option.some.inj H
            go_wp2
            go_ret
            exact ⟨by first | rfl | (simp [errW_none, errW_some] <;> rfl) | (simp [*, errW_none, errW_some] <;> rfl), by repeat (first | (with_reducible first | exact HB.out | apply below_alloc | apply pw_below_drewN | apply below_drew1) | exact HB.out)⟩
        · replace c17 := Bool.eq_false_iff.mpr c17
          subst c17
          have H1 : (if t183 = 0 then (if t182 = (wrap64 (Int.tdiv a1 371293)) then (gameroomlaw_PokerValues.j1 kj7 l0 t173 t174 t178 t179) else (some false)) else (some false)) = some r := by rw [if_neg (show ¬ (false = true) by decide)] at H; exact H
          clear H
          have H := H1
          clear H1
          by_cases c20 : t183 = 0
          · rw [if_pos c20] at H
            have c20b0 : (t183 == 0) = true := beq_iff_eq.mpr c20
            have c20b1 : (t183 != 0) = false := bne_eq_false_iff_eq.mpr c20
            clear c20
            by_cases c21 : t182 = (wrap64 (Int.tdiv a1 371293))
            · rw [if_pos c21] at H
              have c21b0 : (t182 == (wrap64 (Int.tdiv a1 371293))) = true := beq_iff_eq.mpr c21
              have c21b1 : (t182 != (wrap64 (Int.tdiv a1 371293))) = false := bne_eq_false_iff_eq.mpr c21
              clear c21
              have H' := Aside0.mk H
              clear H
              go_wp2
              go_meet
              case rel => exact ⟨_, H', ⟨by have := HJ7.out; first | omega | exact Nat.le_refl _⟩, ⟨by (with_reducible repeat (first | apply Kd.R_alloc | apply Kd.R_drewN | apply Kd.R_drew)); exact HO_7.out⟩, ⟨by repeat (first | (with_reducible first | exact HB.out | apply below_alloc | apply pw_below_drewN | apply below_drew1) | exact HB.out)⟩⟩
            · rw [if_neg c21] at H
              have c21b0 : (t182 == (wrap64 (Int.tdiv a1 371293))) = false := beq_eq_false_iff_ne.mpr c21
              have c21b1 : (t182 != (wrap64 (Int.tdiv a1 371293))) = true := bne_iff_ne.mpr c21
              obtain rfl := Option.some.inj H
              go_wp2
              go_ret
              exact ⟨by first | rfl | (simp [errW_none, errW_some] <;> rfl) | (simp [*, errW_none, errW_some] <;> rfl), by repeat (first | (with_reducible first | exact HB.out | apply below_alloc | apply pw_below_drewN | apply below_drew1) | exact HB.out)⟩
          · rw [if_neg c20] at H
            have c20b0 : (t183 == 0) = false := beq_eq_false_iff_ne.mpr c20
            have c20b1 : (t183 != 0) = true := bne_iff_ne.mpr c20
            obtain rfl := Option.some.inj H
            go_wp2
            go_ret
            exact ⟨by first | rfl | (simp [errW_none, errW_some] <;> rfl) | (simp [*, errW_none, errW_some] <;> rfl), by repeat (first | (with_reducible first | exact HB.out | apply below_alloc | apply pw_below_drewN | apply below_drew1) | exact HB.out)⟩
      case rest =>
        clear HC16
        try clear c1
        try clear c2
        try clear p2
        try clear c3
        try clear c4
        try clear c5
        try clear c6
        try clear p6
        try clear c7
        try clear c15
        try clear c15b0
        try clear c17
        try clear c18
        try clear c18b0
        try clear c18b1
        try clear c19
        try clear c19b0
        try clear c19b1
        try clear c20
        try clear c20b0
        try clear c20b1
        try clear c21
        try clear c21b0
        try clear c21b1
        try clear p2
        obtain ⟨kq, HA, HJ15, HO_7, HB⟩ := hcut
        cases kq with
        | zero => exact absurd HA.out (by simp [gameroomlaw_PokerValues.j1])
        | succ kj15 =>
          have H := HA.out
          clear HA
          simp only [gameroomlaw_PokerValues.j1] at H
          have HC22 := Aside0.mk H
          clear H
          go_upto_region 10 with (fail)
          go_cut [58] (fun v58 wc => ∃ (kq : Nat) (x58_21 : Bool), v58 = .bool x58_21 ∧ Aside0 (gameroomlaw_PokerValues.j2 kq l0 t173 t174 t178 t179 11 x58_21 = some r) ∧ Aside0 (kq ≤ kj15) ∧ Aside0 (Kd.R (Kd.int .i64) 3 wc w.heap.size (fun _ => True) v180 t178) ∧ Aside0 (Below w.heap.size w wc))
          case first =>
            have H := HC22.out
            clear HC22
            by_cases c23 : (l0.length : Int) ≥ 5
            · rw [if_pos c23] at H
              have c23b0 : decide (5 ≤ (l0.length : Int)) = true := decide_eq_true c23
              have c23b1 : decide (5 ≤ l0.length) = true := decide_eq_true (by omega)
              clear c23
              (first | rw [c23b0] | (simp only [i64_w, i32_w]; rw [c23b0]) | skip)
              have H' := Aside0.mk H
              clear H
              go_wp2
              go_meet
              case rel => exact ⟨_, (decide ((l0.length : Int) ≤ 7)), (by first | rfl | (simp; done) | (simp [*]; done)), H', ⟨by have := HJ7.out; have := HJ15.out; first | omega | exact Nat.le_refl _⟩, ⟨by (with_reducible repeat (first | apply Kd.R_alloc | apply Kd.R_drewN | apply Kd.R_drew)); exact HO_7.out⟩, ⟨by repeat (first | (with_reducible first | exact HB.out | apply below_alloc | apply pw_below_drewN | apply below_drew1) | exact HB.out)⟩⟩
            · rw [if_neg c23] at H
              have c23b0 : decide (5 ≤ (l0.length : Int)) = false := decide_eq_false c23
              have c23b1 : decide (5 ≤ l0.length) = false := decide_eq_false (by omega)
              clear c23
              (first | rw [c23b0] | (simp only [i64_w, i32_w]; rw [c23b0]) | skip)
              have H' := Aside0.mk H
              clear H
              go_wp2
              go_meet
              case rel => exact ⟨_, (false), (by first | rfl | (simp; done) | (simp [*]; done)), H', ⟨by have := HJ7.out; have := HJ15.out; first | omega | exact Nat.le_refl _⟩, ⟨by (with_reducible repeat (first | apply Kd.R_alloc | apply Kd.R_drewN | apply Kd.R_drew)); exact HO_7.out⟩, ⟨by repeat (first | (with_reducible first | exact HB.out | apply below_alloc | apply pw_below_drewN | apply below_drew1) | exact HB.out)⟩⟩
          case rest =>
            clear HC22
            try clear c1
            try clear c2
            try clear p2
            try clear c3
            try clear c4
            try clear c5
            try clear c6
            try clear p6
            try clear c7
            try clear c15
            try clear c15b0
            try clear c17
            try clear c18
            try clear c18b0
            try clear c18b1
            try clear c19
            try clear c19b0
            try clear c19b1
            try clear c20
            try clear c20b0
            try clear c20b1
            try clear c21
            try clear c21b0
            try clear c21b1
            try clear c23
            try clear c23b0
            try clear c23b1
            try clear p2
            try clear p6
            obtain ⟨kq, x58_21, rfl, HA, HJ21, HO_7, HB⟩ := hcut
            cases kq with
            | zero => exact absurd HA.out (by simp [gameroomlaw_PokerValues.j2])
            | succ kj21 =>
              have H := HA.out
              clear HA
              simp only [gameroomlaw_PokerValues.j2] at H
              have HC24 := Aside0.mk H
              clear H
              go_upto_if 58 with (fail)
              go_cut [11] (fun v11 wc => ∃ (kq : Nat) (x11_23 : Int), v11 = .int .i64 x11_23 ∧ Aside0 (gameroomlaw_PokerValues.j3 kq l0 t173 t174 t178 t179 x11_23 = some r) ∧ Aside0 (kq ≤ kj21) ∧ Aside0 (Kd.R (Kd.int .i64) 3 wc w.heap.size (fun _ => True) v180 t178) ∧ Aside0 (Below w.heap.size w wc))
              case first =>
                have H := HC24.out
                clear HC24
                by_cases c25 : x58_21 = true
                · subst c25
                  have H1 : ((gameroomref_CardsMay.f kj21 l0).bind fun t184 => (gameroomlaw_PokerValues.j3 kj21 l0 t173 t174 t178 t179 t184)) = some r := by rw [if_pos rfl] at H; exact H
                  clear H
                  have H := H1
                  clear H1
                  replace H := Option.bind_eq_some_iff.mp H
                  obtain ⟨t184, A260, H⟩ := H
                  replace H : (gameroomlaw_PokerValues.j3 kj21 l0 t173 t174 t178 t179 t184) = some r := H
                  have A26 := Aside0.mk A260
                  clear A260
                  have H' := Aside0.mk H
                  clear H
                  go_wp2_with (first | ((with_reducible refine gate_callee (f := 8) rfl ?_); refine goesL_ (some 60) rfl rfl Try.func8 (by kernel_rfl) rfl #[.slice A0 l0.length c0] rfl (by (try simp only [List.map_toArray, List.map_cons, List.map_nil]); first | done | rfl | (simp only [List.length_drop, List.length_take]; rfl)) ?_; (with_reducible refine (gameroomref_CardsMay.calls kj21 _ _ l0 t184 _ ?side1 ?side2 A26.out).mono ?_); (case side1 => repeat (first | exact (Kd.C_below HR0.out HB.out) | (with_reducible refine Kd.C_alloc ?_ _) | (with_reducible refine Kd.C_drewN ?_ _) | (with_reducible refine Kd.C_drew ?_))); (case side2 => exact HC0.out); rintro e w' ⟨rfl, ⟨nd, rfl⟩⟩; refine ⟨_, rfl, ?_⟩))
                  go_meet
                  case rel => exact ⟨_, (t184), (by first | rfl | (simp; done) | (simp [*]; done)), H', ⟨by have := HJ7.out; have := HJ15.out; have := HJ21.out; first | omega | exact Nat.le_refl _⟩, ⟨by (with_reducible repeat (first | apply Kd.R_alloc | apply Kd.R_drewN | apply Kd.R_drew)); exact HO_7.out⟩, ⟨by repeat (first | (with_reducible first | exact HB.out | apply below_alloc | apply pw_below_drewN | apply below_drew1) | exact HB.out)⟩⟩
                · replace c25 := Bool.eq_false_iff.mpr c25
                  subst c25
                  have H1 : (gameroomlaw_PokerValues.j3 kj21 l0 t173 t174 t178 t179 11) = some r := by rw [if_neg (show ¬ (false = true) by decide)] at H; exact H
                  clear H
                  have H := H1
                  clear H1
                  have H' := Aside0.mk H
                  clear H
                  go_wp2
                  go_meet
                  case rel => exact ⟨_, (11), (by first | rfl | (simp; done) | (simp [*]; done)), H', ⟨by have := HJ7.out; have := HJ15.out; have := HJ21.out; first | omega | exact Nat.le_refl _⟩, ⟨by (with_reducible repeat (first | apply Kd.R_alloc | apply Kd.R_drewN | apply Kd.R_drew)); exact HO_7.out⟩, ⟨by repeat (first | (with_reducible first | exact HB.out | apply below_alloc | apply pw_below_drewN | apply below_drew1) | exact HB.out)⟩⟩
              case rest =>
                clear HC24
                try clear c1
                try clear c2
                try clear p2
                try clear c3
                try clear c4
                try clear c5
                try clear c6
                try clear p6
                try clear c7
                try clear c8
                try clear c15
                try clear c15b0
                try clear c17
                try clear c18
                try clear c18b0
                try clear c18b1
                try clear c19
                try clear c19b0
                try clear c19b1
                try clear c20
                try clear c20b0
                try clear c20b1
                try clear c21
                try clear c21b0
                try clear c21b1
                try clear c23
                try clear c23b0
                try clear c23b1
                try clear c25
                try clear p2
                try clear p6
                obtain ⟨kq, x11_23, rfl, HA, HJ23, HO_7, HB⟩ := hcut
                cases kq with
                | zero => exact absurd HA.out (by simp [gameroomlaw_PokerValues.j3])
                | succ kj23 =>
                  have H := HA.out
                  clear HA
                  simp only [gameroomlaw_PokerValues.j3] at H
                  by_cases c27 : x11_23 = 0
                  · rw [if_pos c27] at H
                    have c27b0 : (x11_23 == 0) = true := beq_iff_eq.mpr c27
                    have c27b1 : (x11_23 != 0) = false := bne_eq_false_iff_eq.mpr c27
                    clear c27
                    replace H := Option.bind_eq_some_iff.mp H
                    obtain ⟨⟨t185, t186⟩, A280, H⟩ := H
                    replace H : (if t174 = 0 then (if t179 = 0 then (if t173 = t185 then ((gameroomlaw_sameInts.f kj23 t178 t186).bind fun t189 => (some t189)) else (some false)) else (some false)) else (some false)) = some r := H
                    have A28 := Aside0.mk A280
                    clear A280
                    by_cases c29 : t174 = 0
                    · rw [if_pos c29] at H
                      have c29b0 : (t174 == 0) = true := beq_iff_eq.mpr c29
                      have c29b1 : (t174 != 0) = false := bne_eq_false_iff_eq.mpr c29
                      clear c29
                      by_cases c30 : t179 = 0
                      · rw [if_pos c30] at H
                        have c30b0 : (t179 == 0) = true := beq_iff_eq.mpr c30
                        have c30b1 : (t179 != 0) = false := bne_eq_false_iff_eq.mpr c30
                        clear c30
                        by_cases c31 : t173 = t185
                        · rw [if_pos c31] at H
                          have c31b0 : (t173 == t185) = true := beq_iff_eq.mpr c31
                          have c31b1 : (t173 != t185) = false := bne_eq_false_iff_eq.mpr c31
                          clear c31
                          replace H := Option.bind_eq_some_iff.mp H
                          obtain ⟨t189, A320, H⟩ := H
                          replace H : (some t189) = some r := H
                          have A32 := Aside0.mk A320
                          clear A320
                          obtain rfl := Option.some.inj H
                          go_wp2_with (first | ((with_reducible refine gate_callee (f := 9) rfl ?_); refine goesL_ (some 82) rfl rfl Try.func9 (by kernel_rfl) rfl #[.slice A0 l0.length c0] rfl (by (try simp only [List.map_toArray, List.map_cons, List.map_nil]); first | done | rfl | (simp only [List.length_drop, List.length_take]; rfl)) ?_; (with_reducible refine (gameroomref_BestFive.calls kj23 _ _ l0 t185 t186 _ ?side1 ?side2 A28.out).mono ?_); (case side1 => repeat (first | exact (Kd.C_below HR0.out HB.out) | (with_reducible refine Kd.C_alloc ?_ _) | (with_reducible refine Kd.C_drewN ?_ _) | (with_reducible refine Kd.C_drew ?_))); (case side2 => exact HC0.out); rintro e w33 ⟨v187, rfl, ho0, hb⟩; refine ⟨_, rfl, ?_⟩; have n0_ := Aside0.mk (Kd.R_elder' (by (with_reducible repeat (first | apply Kd.R_alloc | apply Kd.R_drewN | apply Kd.R_drew)); exact HO_7.out) (Kd.R_base ho0) hb); have n1_ := Aside0.mk (Kd.R_lower (Kd.R_new' ho0 (Kd.R_lt (by (with_reducible repeat (first | apply Kd.R_alloc | apply Kd.R_drewN | apply Kd.R_drew)); exact HO_7.out))) (below_size (by repeat (first | (with_reducible first | exact HB.out | apply below_alloc | apply pw_below_drewN | apply below_drew1) | exact HB.out)))); have n2_ := Aside0.mk (below_step (by repeat (first | (with_reducible first | exact HB.out | apply below_alloc | apply pw_below_drewN | apply below_drew1) | exact HB.out)) hb); clear HO_7; clear HB; have HO_7 := n0_; have HO188 := n1_; have HB := n2_; clear n0_ n1_ n2_; (try clear hb); (try clear hb2); (try clear hk); (try clear hi); (try clear ho0); obtain ⟨Ao34, co34, eo34⟩ := Kd.R_slice HO_7.out; subst eo34; obtain ⟨Ao35, co35, eo35⟩ := Kd.R_slice HO188.out; subst eo35) | (go_at_call 10; (with_reducible refine (gameroomlaw_sameInts.calls kj23 _ _ t178 _ _ t186 t189 _ ?side1 ?side2 ?side3 ?side4 A32.out).mono ?_); (case side1 => repeat (first | exact (Kd.R_reads' HO_7.out).2.2 | (with_reducible refine Kd.C_alloc ?_ _) | (with_reducible refine Kd.C_drewN ?_ _) | (with_reducible refine Kd.C_drew ?_))); (case side2 => exact (Kd.R_reads' HO_7.out).2.1); (case side3 => repeat (first | exact (Kd.R_reads' HO188.out).2.2 | (with_reducible refine Kd.C_alloc ?_ _) | (with_reducible refine Kd.C_drewN ?_ _) | (with_reducible refine Kd.C_drew ?_))); (case side4 => exact (Kd.R_reads' HO188.out).2.1); rintro e w' ⟨rfl, ⟨nd, rfl⟩⟩))
                          go_ret
                          exact ⟨by first | rfl | (simp [errW_none, errW_some] <;> rfl) | (simp [*, errW_none, errW_some] <;> rfl), by repeat (first | (with_reducible first | exact HB.out | apply below_alloc | apply pw_below_drewN | apply below_drew1) | exact HB.out)⟩
                        · rw [if_neg c31] at H
                          have c31b0 : (t173 == t185) = false := beq_eq_false_iff_ne.mpr c31
                          have c31b1 : (t173 != t185) = true := bne_iff_ne.mpr c31
                          obtain rfl := Option.some.inj H
                          go_wp2_with (first | ((with_reducible refine gate_callee (f := 9) rfl ?_); refine goesL_ (some 82) rfl rfl Try.func9 (by kernel_rfl) rfl #[.slice A0 l0.length c0] rfl (by (try simp only [List.map_toArray, List.map_cons, List.map_nil]); first | done | rfl | (simp only [List.length_drop, List.length_take]; rfl)) ?_; (with_reducible refine (gameroomref_BestFive.calls kj23 _ _ l0 t185 t186 _ ?side1 ?side2 A28.out).mono ?_); (case side1 => repeat (first | exact (Kd.C_below HR0.out HB.out) | (with_reducible refine Kd.C_alloc ?_ _) | (with_reducible refine Kd.C_drewN ?_ _) | (with_reducible refine Kd.C_drew ?_))); (case side2 => exact HC0.out); rintro e w36 ⟨v187, rfl, ho0, hb⟩; refine ⟨_, rfl, ?_⟩; have n0_ := Aside0.mk (Kd.R_elder' (by (with_reducible repeat (first | apply Kd.R_alloc | apply Kd.R_drewN | apply Kd.R_drew)); exact HO_7.out) (Kd.R_base ho0) hb); have n1_ := Aside0.mk (Kd.R_lower (Kd.R_new' ho0 (Kd.R_lt (by (with_reducible repeat (first | apply Kd.R_alloc | apply Kd.R_drewN | apply Kd.R_drew)); exact HO_7.out))) (below_size (by repeat (first | (with_reducible first | exact HB.out | apply below_alloc | apply pw_below_drewN | apply below_drew1) | exact HB.out)))); have n2_ := Aside0.mk (below_step (by repeat (first | (with_reducible first | exact HB.out | apply below_alloc | apply pw_below_drewN | apply below_drew1) | exact HB.out)) hb); clear HO_7; clear HB; have HO_7 := n0_; have HO188 := n1_; have HB := n2_; clear n0_ n1_ n2_; (try clear hb); (try clear hb2); (try clear hk); (try clear hi); (try clear ho0)))
                          go_ret
                          exact ⟨by first | rfl | (simp [errW_none, errW_some] <;> rfl) | (simp [*, errW_none, errW_some] <;> rfl), by repeat (first | (with_reducible first | exact HB.out | apply below_alloc | apply pw_below_drewN | apply below_drew1) | exact HB.out)⟩
                      · rw [if_neg c30] at H
                        have c30b0 : (t179 == 0) = false := beq_eq_false_iff_ne.mpr c30
                        have c30b1 : (t179 != 0) = true := bne_iff_ne.mpr c30
                        obtain rfl := Option.some.inj H
                        go_wp2_with (first | ((with_reducible refine gate_callee (f := 9) rfl ?_); refine goesL_ (some 82) rfl rfl Try.func9 (by kernel_rfl) rfl #[.slice A0 l0.length c0] rfl (by (try simp only [List.map_toArray, List.map_cons, List.map_nil]); first | done | rfl | (simp only [List.length_drop, List.length_take]; rfl)) ?_; (with_reducible refine (gameroomref_BestFive.calls kj23 _ _ l0 t185 t186 _ ?side1 ?side2 A28.out).mono ?_); (case side1 => repeat (first | exact (Kd.C_below HR0.out HB.out) | (with_reducible refine Kd.C_alloc ?_ _) | (with_reducible refine Kd.C_drewN ?_ _) | (with_reducible refine Kd.C_drew ?_))); (case side2 => exact HC0.out); rintro e w37 ⟨v187, rfl, ho0, hb⟩; refine ⟨_, rfl, ?_⟩; have n0_ := Aside0.mk (Kd.R_elder' (by (with_reducible repeat (first | apply Kd.R_alloc | apply Kd.R_drewN | apply Kd.R_drew)); exact HO_7.out) (Kd.R_base ho0) hb); have n1_ := Aside0.mk (Kd.R_lower (Kd.R_new' ho0 (Kd.R_lt (by (with_reducible repeat (first | apply Kd.R_alloc | apply Kd.R_drewN | apply Kd.R_drew)); exact HO_7.out))) (below_size (by repeat (first | (with_reducible first | exact HB.out | apply below_alloc | apply pw_below_drewN | apply below_drew1) | exact HB.out)))); have n2_ := Aside0.mk (below_step (by repeat (first | (with_reducible first | exact HB.out | apply below_alloc | apply pw_below_drewN | apply below_drew1) | exact HB.out)) hb); clear HO_7; clear HB; have HO_7 := n0_; have HO188 := n1_; have HB := n2_; clear n0_ n1_ n2_; (try clear hb); (try clear hb2); (try clear hk); (try clear hi); (try clear ho0)))
                        go_ret
                        exact ⟨by first | rfl | (simp [errW_none, errW_some] <;> rfl) | (simp [*, errW_none, errW_some] <;> rfl), by repeat (first | (with_reducible first | exact HB.out | apply below_alloc | apply pw_below_drewN | apply below_drew1) | exact HB.out)⟩
                    · rw [if_neg c29] at H
                      have c29b0 : (t174 == 0) = false := beq_eq_false_iff_ne.mpr c29
                      have c29b1 : (t174 != 0) = true := bne_iff_ne.mpr c29
                      obtain rfl := Option.some.inj H
                      go_wp2_with (first | ((with_reducible refine gate_callee (f := 9) rfl ?_); refine goesL_ (some 82) rfl rfl Try.func9 (by kernel_rfl) rfl #[.slice A0 l0.length c0] rfl (by (try simp only [List.map_toArray, List.map_cons, List.map_nil]); first | done | rfl | (simp only [List.length_drop, List.length_take]; rfl)) ?_; (with_reducible refine (gameroomref_BestFive.calls kj23 _ _ l0 t185 t186 _ ?side1 ?side2 A28.out).mono ?_); (case side1 => repeat (first | exact (Kd.C_below HR0.out HB.out) | (with_reducible refine Kd.C_alloc ?_ _) | (with_reducible refine Kd.C_drewN ?_ _) | (with_reducible refine Kd.C_drew ?_))); (case side2 => exact HC0.out); rintro e w38 ⟨v187, rfl, ho0, hb⟩; refine ⟨_, rfl, ?_⟩; have n0_ := Aside0.mk (Kd.R_elder' (by (with_reducible repeat (first | apply Kd.R_alloc | apply Kd.R_drewN | apply Kd.R_drew)); exact HO_7.out) (Kd.R_base ho0) hb); have n1_ := Aside0.mk (Kd.R_lower (Kd.R_new' ho0 (Kd.R_lt (by (with_reducible repeat (first | apply Kd.R_alloc | apply Kd.R_drewN | apply Kd.R_drew)); exact HO_7.out))) (below_size (by repeat (first | (with_reducible first | exact HB.out | apply below_alloc | apply pw_below_drewN | apply below_drew1) | exact HB.out)))); have n2_ := Aside0.mk (below_step (by repeat (first | (with_reducible first | exact HB.out | apply below_alloc | apply pw_below_drewN | apply below_drew1) | exact HB.out)) hb); clear HO_7; clear HB; have HO_7 := n0_; have HO188 := n1_; have HB := n2_; clear n0_ n1_ n2_; (try clear hb); (try clear hb2); (try clear hk); (try clear hi); (try clear ho0)))
                      go_ret
                      exact ⟨by first | rfl | (simp [errW_none, errW_some] <;> rfl) | (simp [*, errW_none, errW_some] <;> rfl), by repeat (first | (with_reducible first | exact HB.out | apply below_alloc | apply pw_below_drewN | apply below_drew1) | exact HB.out)⟩
                  · rw [if_neg c27] at H
                    have c27b0 : (x11_23 == 0) = false := beq_eq_false_iff_ne.mpr c27
                    have c27b1 : (x11_23 != 0) = true := bne_iff_ne.mpr c27
                    by_cases c39 : t174 = x11_23
                    · rw [if_pos c39] at H
                      have c39b0 : (t174 == x11_23) = true := beq_iff_eq.mpr c39
                      have c39b1 : (t174 != x11_23) = false := bne_eq_false_iff_eq.mpr c39
                      clear c39
                      by_cases c40 : t179 = x11_23
                      · rw [if_pos c40] at H
                        have c40b0 : (t179 == x11_23) = true := beq_iff_eq.mpr c40
                        have c40b1 : (t179 != x11_23) = false := bne_eq_false_iff_eq.mpr c40
                        clear c40
                        by_cases c41 : t173 = 0
                        · rw [if_pos c41] at H
                          have c41b0 : (t173 == 0) = true := beq_iff_eq.mpr c41
                          have c41b1 : (t173 != 0) = false := bne_eq_false_iff_eq.mpr c41
                          clear c41
                          obtain rfl := Option.some.inj H
                          obtain ⟨Ao42, co42, eo42⟩ := Kd.R_slice HO_7.out
                          subst eo42
                          go_wp2
                          go_ret
                          exact ⟨by first | rfl | (simp [errW_none, errW_some] <;> rfl) | (simp [*, errW_none, errW_some] <;> rfl), by repeat (first | (with_reducible first | exact HB.out | apply below_alloc | apply pw_below_drewN | apply below_drew1) | exact HB.out)⟩
                        · rw [if_neg c41] at H
                          have c41b0 : (t173 == 0) = false := beq_eq_false_iff_ne.mpr c41
                          have c41b1 : (t173 != 0) = true := bne_iff_ne.mpr c41
                          obtain rfl := Option.some.inj H
                          go_wp2
                          go_ret
                          exact ⟨by first | rfl | (simp [errW_none, errW_some] <;> rfl) | (simp [*, errW_none, errW_some] <;> rfl), by repeat (first | (with_reducible first | exact HB.out | apply below_alloc | apply pw_below_drewN | apply below_drew1) | exact HB.out)⟩
                      · rw [if_neg c40] at H
                        have c40b0 : (t179 == x11_23) = false := beq_eq_false_iff_ne.mpr c40
                        have c40b1 : (t179 != x11_23) = true := bne_iff_ne.mpr c40
                        obtain rfl := Option.some.inj H
                        go_wp2
                        go_ret
                        exact ⟨by first | rfl | (simp [errW_none, errW_some] <;> rfl) | (simp [*, errW_none, errW_some] <;> rfl), by repeat (first | (with_reducible first | exact HB.out | apply below_alloc | apply pw_below_drewN | apply below_drew1) | exact HB.out)⟩
                    · rw [if_neg c39] at H
                      have c39b0 : (t174 == x11_23) = false := beq_eq_false_iff_ne.mpr c39
                      have c39b1 : (t174 != x11_23) = true := bne_iff_ne.mpr c39
                      obtain rfl := Option.some.inj H
                      go_wp2
                      go_ret
                      exact ⟨by first | rfl | (simp [errW_none, errW_some] <;> rfl) | (simp [*, errW_none, errW_some] <;> rfl), by repeat (first | (with_reducible first | exact HB.out | apply below_alloc | apply pw_below_drewN | apply below_drew1) | exact HB.out)⟩

/-- THE ONE PURE STATEMENT of gameroomlaw_PokerValues: yours. -/
def gameroomlaw_PokerValues.Pure : Prop := ∀ (l0 : List Int) (a1 : Int), l0.length ≤ maxLen → l0.length * 8 ≤ 140737488351232 → (∀ x ∈ l0, (Lit.int .i64 x).wf = true) → (Lit.int .i64 a1).wf = true → ∃ k, gameroomlaw_PokerValues.f k l0 a1 = some true
theorem gameroomlaw_PokerValues.walk (P : gameroomlaw_PokerValues.Pure) (a0 : Option Addr) (len0 cap0 : Nat) (z0 : List Int) (a1 : Int) (w : World) (w0 : (a0 = none ∧ len0 = 0 ∧ cap0 = 0 ∧ z0 = []) ∨ ∃ x, a0 = some x ∧ len0 ≤ cap0 ∧ cap0 ≤ maxLen ∧ z0.length = cap0 ∧ (∀ i, i < z0.length → w.cell? (x.add i) = some (.int .i64 (z0.getD i 0))) ∧ ∀ n ∈ z0, (Lit.int .i64 n).wf = true) (y0 : len0 * 8 ≤ 140737488351232) (w1 : (Lit.int .i64 a1).wf = true) :
    Calls Try.prog 3 #[.slice a0 len0 cap0, .int .i64 a1] w fun e w' => e = .returned (.bool true) ∧ Below w.heap.size w w' := by
  obtain ⟨l0, rfl, hr0, hm0, hw0, hc0⟩ := ReadsInt.ofRowC w0
  obtain ⟨k, h⟩ := P l0 a1 hm0 y0 hw0 w1
  refine (gameroomlaw_PokerValues.calls k _ _ l0 a1 true w (Kd.C_of_reads (d := (0 : Int)) (h1 := fun _ => rfl) hr0) hc0 h).mono ?_
  rintro e w' ⟨rfl, hd⟩
  exact ⟨rfl, hd⟩

end Go.Proofs.Ythmocnbkjapoaaa.Q
