import Derived.Test.YtpcmodmghpijeaaP3
import Derived.Test.YtpcmodmghpijeaaQf6
import Derived.Test.YtpcmodmghpijeaaGcheck
namespace Go.Proofs.Ytpcmodmghpijeaa.Pure
open Go.RowKit Go.Proofs.Ytpcmodmghpijeaa.Q Go.Proofs.YtpcmodmghpijeaaW.PrintWords Go.Proofs.YtpcmodmghpijeaaW.PrintLast
set_option linter.unusedVariables false
theorem at_ev (l : List Int) (x : Int) (hl : l.length ≤ 4611686018427387904) : ∀ d i : Nat, i + d = l.length →
    ∃ r : Int, Ev (fun k => gameroomref_at.l0 k l x (i : Int)) r ∧ (0 ≤ r ↔ x ∈ l.drop i) := by
  intro d
  induction d with
  | zero =>
    intro i hi
    refine ⟨-1, Ev.const fun k => ?_, ?_⟩
    · unfold gameroomref_at.l0
      rw [if_neg (by omega)]
    · rw [List.drop_of_length_le (by omega)]; simp
  | succ d ih =>
    intro i hi
    have hd : l.drop i = rd l i :: l.drop (i + 1) := by
      rw [List.drop_eq_getElem_cons (by omega)]
      simp [rd, List.getD_eq_getElem?_getD, List.getElem?_eq_getElem (show i < l.length by omega)]
    by_cases hx : rd l i = x
    · refine ⟨(i : Int), Ev.const fun k => ?_, ?_⟩
      · unfold gameroomref_at.l0
        rw [if_pos (by omega), if_pos (by omega), if_pos hx]
      · rw [hd, hx]; simp
    · obtain ⟨r, h1, h2⟩ := ih (i + 1) (by omega)
      refine ⟨r, h1.step fun k => ?_, ?_⟩
      · conv => lhs; unfold gameroomref_at.l0
        rw [if_pos (by omega), if_pos (by omega), if_neg hx, w64 _ (by omega) (by omega)]
        rfl
      · rw [h2, hd]; simp; exact fun e => absurd e.symm hx
theorem may1_ev (l : List Int) (hl : l.length ≤ 4611686018427387904) : ∀ d i : Nat, i + d = l.length → (l.take i).Nodup →
    Ev (fun k => gameroomref_CardsMay.l1 k l (i : Int)) (if l.Nodup then 0 else 6) := by
  intro d
  induction d with
  | zero =>
    intro i hi hn
    rw [List.take_of_length_le (by omega)] at hn
    rw [if_pos hn]
    refine Ev.const fun k => ?_
    unfold gameroomref_CardsMay.l1
    rw [if_neg (by omega)]
  | succ d ih =>
    intro i hi hn
    obtain ⟨r, h1, h2⟩ := at_ev (l.take i) (rd l i) (by simp; omega) (l.take i).length 0 (by omega)
    simp only [List.drop_zero] at h2
    have h1' : Ev (fun k => gameroomref_at.f k (l.take i) (rd l i)) r := h1
    have ht := poker_check.take_succ l i (by omega)
    refine Ev.bind h1' (H := fun t k => if t ≥ 0 then some 6 else gameroomref_CardsMay.l1 k l ((i : Int) + 1)) ?_ fun k => ?_
    · by_cases hm : rd l i ∈ l.take i
      · have hr : r ≥ 0 := h2.2 hm
        have hnn : ¬ l.Nodup := fun hnd => by
          have := hnd.sublist (List.take_sublist (i + 1) l)
          rw [ht] at this
          have := (List.nodup_append.1 this).2.2 _ hm _ (by simp : rd l i ∈ [rd l i])
          exact this rfl
        simp only [if_pos hr, if_neg hnn]
        exact ⟨0, fun _ _ => rfl⟩
      · have hr : ¬ r ≥ 0 := fun h => hm (h2.1 h)
        simp only [if_neg hr]
        have := ih (i + 1) (by omega) (by rw [ht, List.nodup_append]; exact ⟨hn, by simp, fun a ha b hb => by simp at hb; subst hb; exact fun e => hm (e ▸ ha)⟩)
        exact_mod_cast this
    · conv => lhs; unfold gameroomref_CardsMay.l1
      rw [if_pos (by omega), if_pos (by omega), if_pos (by omega), w64 _ (by omega) (by omega), Int.toNat_natCast]
theorem may0_ev (l : List Int) (hl : l.length ≤ 4611686018427387904) : ∀ d i : Nat, i + d = l.length → (∀ x ∈ l.take i, 0 ≤ x ∧ x < 52) →
    Ev (fun k => gameroomref_CardsMay.l0 k l (i : Int)) (if ∀ x ∈ l, 0 ≤ x ∧ x < 52 then (if l.Nodup then 0 else 6) else 3) := by
  intro d
  induction d with
  | zero =>
    intro i hi hn
    rw [List.take_of_length_le (by omega)] at hn
    rw [if_pos hn]
    refine (may1_ev l hl l.length 0 (by omega) (by simp)).step fun k => ?_
    unfold gameroomref_CardsMay.l0
    rw [if_neg (by omega)]
    rfl
  | succ d ih =>
    intro i hi hn
    have ht := poker_check.take_succ l i (by omega)
    have hm := poker_check.rd_mem l i (by omega)
    by_cases hx : 0 ≤ rd l i ∧ rd l i < 52
    · refine (ih (i + 1) (by omega) (by rw [ht]; intro x hxm; simp at hxm; rcases hxm with h | rfl; exact hn x h; exact hx)).step fun k => ?_
      conv => lhs; unfold gameroomref_CardsMay.l0
      rw [if_pos (by omega), if_pos (by omega), w64 _ (by omega) (by omega)]
      simp only [gameroomref_within.f, if_pos hx.1, show decide (rd l i ≤ 51) = true from decide_eq_true (by omega)]
      rfl
    · rw [if_neg (fun h => hx (h _ hm))]
      refine Ev.const fun k => ?_
      unfold gameroomref_CardsMay.l0
      rw [if_pos (by omega), if_pos (by omega)]
      have : gameroomref_within.f (rd l i) 0 51 = some false := by
        unfold gameroomref_within.f
        by_cases h0 : rd l i ≥ 0
        · rw [if_pos h0]; simp; omega
        · rw [if_neg h0]
      rw [this]
      rfl
theorem may_ev (l : List Int) (hl : l.length ≤ 4611686018427387904) : Ev (fun k => gameroomref_CardsMay.f k l) (if ∀ x ∈ l, 0 ≤ x ∧ x < 52 then (if l.Nodup then 0 else 6) else 3) :=
  may0_ev l hl l.length 0 (by omega) (by simp)
end Go.Proofs.Ytpcmodmghpijeaa.Pure
