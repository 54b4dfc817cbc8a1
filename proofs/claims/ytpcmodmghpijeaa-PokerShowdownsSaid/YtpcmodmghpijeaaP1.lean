import Derived.Test.YtpcmodmghpijeaaP3
import Derived.Test.YtpcmodmghpijeaaP2
namespace Go.Proofs.Ytpcmodmghpijeaa.Pure
open Go.RowKit Go.Proofs.Ytpcmodmghpijeaa.Q Go.Proofs.YtpcmodmghpijeaaW.PrintWords Go.Proofs.YtpcmodmghpijeaaW.PrintLast
set_option linter.unusedVariables false
theorem Ev.mono {α : Type} {F : Nat → Option α} {r : α} (hm : ∀ k, LeO (F k) (F (k + 1))) (k0 : Nat) (h : F k0 = some r) : Ev F r := by
  refine ⟨k0, fun k hk => ?_⟩
  obtain ⟨d, rfl⟩ : ∃ d, k = k0 + d := ⟨k - k0, by omega⟩
  clear hk
  induction d with
  | zero => exact h
  | succ d ih => exact hm _ _ ih
theorem cnt_set (l : List Int) (c : Int) (h0 : 0 ≤ c) (h1 : c < 52) : (cnt l).set (c / 4).toNat (rd (cnt l) (c / 4) + 1) = cnt (l ++ [c]) := by
  have h := congrArg Array.toList (cnt_put l c h0 h1)
  simp only [nums, Array.toList_setIfInBounds] at h
  rw [← List.map_set] at h
  exact (List.map_inj_right (fun x y h => by injection h)).1 h
theorem hv0_ev (h : List Int) (h5 : h.length = 5) (hr : ∀ x ∈ h, 0 ≤ x ∧ x < 52) (r : Int) : ∀ d i : Nat, i + d = 5 → Ev (fun k => gameroomref_HandValue.l1 k (cnt h) (fl (rd h 0) h) [] 4) r →
    Ev (fun k => gameroomref_HandValue.l0 k h (cnt (h.take i)) (fl (rd h 0) (h.take i)) (i : Int)) r := by
  intro d
  induction d with
  | zero =>
    intro i hi he
    obtain rfl : i = 5 := by omega
    rw [List.take_of_length_le (by omega)]
    refine he.step fun k => ?_
    unfold gameroomref_HandValue.l0
    rw [if_neg (by omega)]
  | succ d ih =>
    intro i hi he
    have h1 := ih (i + 1) (by omega) he
    refine h1.step fun k => ?_
    have hx := hr (rd h i) (by simp [rd, List.getD_eq_getElem?_getD, List.getElem?_eq_getElem (show i < h.length by omega)])
    have ha := hr (rd h 0) (by simp [rd, List.getD_eq_getElem?_getD, List.getElem?_eq_getElem (show 0 < h.length by omega)])
    have ht := take_rd h i (by omega)
    have hbd := cnt_bd (h.take i) (rd h i / 4) (by omega) (by omega)
    have hle : (h.take i).length ≤ 5 := by simp; omega
    conv => lhs; unfold gameroomref_HandValue.l0
    rw [if_pos (by omega), if_pos (by omega), if_pos (by omega), Int.tdiv_eq_ediv_of_nonneg hx.1, w64 (rd h i / 4) (by omega) (by omega), if_pos (by omega), if_pos (by rw [cnt_len]; omega), w64 _ (by omega) (by omega), w64 _ (by omega) (by omega),
      cnt_set _ _ hx.1 hx.2, ← ht, Int.tmod_eq_emod_of_nonneg hx.1, Int.tmod_eq_emod_of_nonneg ha.1]
    have hf := fl_snoc (rd h 0) (rd h i) (h.take i)
    rw [← ht] at hf
    show (if fl (rd h 0) (h.take i) = true then _ else _) = _
    by_cases hfl : fl (rd h 0) (h.take i) = true
    · rw [if_pos hfl, if_pos (by omega)]
      rw [hfl, Bool.true_and] at hf
      rw [hf]; rfl
    · rw [if_neg hfl]
      rw [Bool.eq_false_iff.mpr hfl, Bool.false_and] at hf
      rw [hf]; rfl
theorem cnt_sum (l : List Int) (hr : ∀ x ∈ l, 0 ≤ x ∧ x < 52) : (cnt l).sum = l.length := by
  induction l with
  | nil => decide
  | cons c t ih =>
    have h := ih (fun x hx => hr x (by simp [hx]))
    have hc := hr c (by simp)
    obtain ⟨q, hq⟩ : ∃ q, c / 4 = q := ⟨_, rfl⟩
    have hq0 : 0 ≤ q := by omega
    have hq1 : q < 13 := by omega
    simp only [cnt, List.range_succ, List.range_zero, List.nil_append, List.cons_append, List.map_cons, List.map_nil, List.sum_cons, List.sum_nil, List.countP_cons, List.length_cons, hq] at h ⊢
    rcases (show q = 0 ∨ q = 1 ∨ q = 2 ∨ q = 3 ∨ q = 4 ∨ q = 5 ∨ q = 6 ∨ q = 7 ∨ q = 8 ∨ q = 9 ∨ q = 10 ∨ q = 11 ∨ q = 12 by omega) with rfl | rfl | rfl | rfl | rfl | rfl | rfl | rfl | rfl | rfl | rfl | rfl | rfl <;> simp <;> simp at h <;> omega
theorem cnt_4 (h : List Int) (h5 : h.length = 5) (hn : h.Nodup) : ∀ x ∈ cnt h, 0 ≤ x ∧ x ≤ 4 := by
  intro x hx
  simp only [cnt, List.mem_map] at hx
  obtain ⟨r, _, rfl⟩ := hx
  have hle := List.countP_le_length (p := fun c => c / 4 == (r : Int)) (l := h)
  have hne : h.countP (fun c => c / 4 == (r : Int)) ≠ 5 := by
    intro e
    have hall := List.countP_eq_length.1 (e.trans h5.symm)
    match h, h5 with
    | [a, b, c, d, e], _ =>
      simp at hall hn
      omega
  omega
theorem hv_ev (hK : allV 13 5 okV = true) (h : List Int) (h5 : h.length = 5) (hr : ∀ x ∈ h, 0 ≤ x ∧ x < 52) (hn : h.Nodup) : Ev (fun k => gameroomref_HandValue.f k h) (pval h) := by
  have hv := allV_sound 13 5 okV hK (cnt h) (cnt_len h) (cnt_4 h h5 hn) (by rw [cnt_sum h hr, h5])
  simp only [okV, Bool.and_eq_true, decide_eq_true_eq] at hv
  have h1 : gameroomref_HandValue.l1 200 (cnt h) (fl (rd h 0) h) [] 4 = some (pval h) := by
    unfold pval
    rw [srt_F]
    cases fl (rd h 0) h with
    | false => exact hv.1
    | true => exact hv.2
  have h2 := Ev.mono (F := fun k => gameroomref_HandValue.l1 k (cnt h) (fl (rd h 0) h) [] 4) (fun k => (gameroomref_HandValue.mono_l k).2.1 _ _ _ _) 200 h1
  have h3 := hv0_ev h h5 hr _ 5 0 (by omega) h2
  obtain ⟨k0, h3⟩ := h3
  refine ⟨k0, fun k hk => ?_⟩
  have := h3 k hk
  simp only [gameroomref_HandValue.f]
  rw [if_pos (by decide)]
  simpa [cnt_nil, fl] using this
end Go.Proofs.Ytpcmodmghpijeaa.Pure
