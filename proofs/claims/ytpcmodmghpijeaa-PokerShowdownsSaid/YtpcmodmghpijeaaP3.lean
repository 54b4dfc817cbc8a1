import Derived.Test.YtpcmodmghpijeaaQf17
import Derived.Test.YtpcmodmghpijeaaGbest
namespace Go.Proofs.Ytpcmodmghpijeaa.Pure
open Go.RowKit Go.Proofs.Ytpcmodmghpijeaa.Q Go.Proofs.YtpcmodmghpijeaaW.PrintWords Go.Proofs.YtpcmodmghpijeaaW.PrintLast
set_option linter.unusedVariables false
theorem w64 (x : Int) (h0 : -9223372036854775808 ≤ x) (h1 : x < 9223372036854775808) : wrap64 x = x := by
  unfold wrap64
  omega
/-- From some fuel on, F tells r. -/
def Ev {α : Type} (F : Nat → Option α) (r : α) : Prop := ∃ k0, ∀ k, k0 ≤ k → F k = some r
theorem Ev.step {α : Type} {F G : Nat → Option α} {r : α} (h : Ev G r) (he : ∀ k, F (k + 1) = G k) : Ev F r := by
  obtain ⟨k0, h0⟩ := h
  refine ⟨k0 + 1, fun k hk => ?_⟩
  obtain ⟨j, rfl⟩ : ∃ j, k = j + 1 := ⟨k - 1, by omega⟩
  rw [he, h0 j (by omega)]
theorem Ev.const {α : Type} {F : Nat → Option α} {r : α} (he : ∀ k, F (k + 1) = some r) : Ev F r := ⟨1, fun k hk => by
  obtain ⟨j, rfl⟩ : ∃ j, k = j + 1 := ⟨k - 1, by omega⟩
  exact he j⟩
theorem Ev.bind {α β : Type} {G : Nat → Option β} {H : β → Nat → Option α} {F : Nat → Option α} {b : β} {r : α} (hg : Ev G b) (hh : Ev (H b) r) (he : ∀ k, F (k + 1) = (G k).bind fun x => H x k) : Ev F r := by
  obtain ⟨k1, h1⟩ := hg
  obtain ⟨k2, h2⟩ := hh
  refine ⟨k1 + k2 + 1, fun k hk => ?_⟩
  obtain ⟨j, rfl⟩ : ∃ j, k = j + 1 := ⟨k - 1, by omega⟩
  rw [he, h1 j (by omega)]
  exact h2 j (by omega)
def fo (l : List Int) (ix : List Nat) (n left j : Nat) (s : Int × List Int) : Int × List Int := ((picks n left j).map (ix ++ ·)).foldl (fun s x => stepB s (handOf l x)) s
theorem fo_zero (l : List Int) (ix : List Nat) (n j : Nat) (s : Int × List Int) : fo l ix n 0 j s = stepB s (handOf l ix) := by simp [fo, picks]
theorem fo_end (l : List Int) (ix : List Nat) (n left j : Nat) (s : Int × List Int) (h : n ≤ j) : fo l ix n (left + 1) j s = s := by
  simp [fo, picks, show n - j = 0 by omega]
theorem fo_step (l : List Int) (ix : List Nat) (n left j : Nat) (s : Int × List Int) (h : j < n) : fo l ix n (left + 1) j s = fo l ix n (left + 1) (j + 1) (fo l (ix ++ [j]) n left (j + 1) s) := by
  have e : n - j = (n - (j + 1)) + 1 := by omega
  simp only [fo, picks, e, List.range'_succ, List.flatMap_cons, List.map_append, List.foldl_append, List.map_map, Function.comp_def, List.append_assoc, List.cons_append, List.nil_append]
theorem bestF_fo (l : List Int) (n : Nat) : bestF l (picks n 5 0) = fo l [] n 5 0 (-1, []) := by
  simp [bestF, fo, List.foldl_map]
section
variable (l : List Int) (r : Int × List Int) (n : Nat)
theorem l4_ev (hn : l.length = n) (hn7 : n ≤ 7) (HV : ∀ i0 i1 i2 i3 i4 : Nat, i0 < i1 → i1 < i2 → i2 < i3 → i3 < i4 → i4 < n → Ev (fun k => gameroomref_HandValue.f k (handOf l [i0, i1, i2, i3, i4])) (pval (handOf l [i0, i1, i2, i3, i4])))
    (i0 i1 i2 i3 : Nat) (h01 : i0 < i1) (h12 : i1 < i2) (h23 : i2 < i3) (h3n : i3 < n) : ∀ (d j : Nat) (s : Int × List Int), i3 < j → j + d = n →
    Ev (fun k => gameroomref_BestFive.l3 k l (n : Int) (fo l [i0, i1, i2, i3] n 1 j s).1 (fo l [i0, i1, i2, i3] n 1 j s).2 i0 i1 i2 ((i3 : Int) + 1)) r →
    Ev (fun k => gameroomref_BestFive.l4 k l (n : Int) s.1 s.2 i0 i1 i2 i3 (j : Int)) r := by
  intro d
  induction d with
  | zero =>
    intro j s hj hd h
    rw [fo_end _ _ _ _ _ _ (by omega)] at h
    refine h.step fun k => ?_
    unfold gameroomref_BestFive.l4
    rw [if_neg (by omega), w64 _ (by omega) (by omega)]
  | succ d ih =>
    intro j s hj hd h
    rw [fo_step _ _ _ _ _ _ (by omega), fo_zero] at h
    have hv := HV i0 i1 i2 i3 j h01 h12 h23 hj (by omega)
    have hi := ih (j + 1) _ (by omega) (by omega) h
    refine Ev.bind (b := pval (handOf l [i0, i1, i2, i3, j])) (H := fun t k => if t > s.1 then gameroomref_BestFive.l4 k l (n : Int) t (handOf l [i0, i1, i2, i3, j]) i0 i1 i2 i3 ((j : Int) + 1) else gameroomref_BestFive.l4 k l (n : Int) s.1 s.2 i0 i1 i2 i3 ((j : Int) + 1)) hv ?_ fun k => ?_
    · simp only [stepB, List.cons_append, List.nil_append] at hi
      by_cases hg : pval (handOf l [i0, i1, i2, i3, j]) > s.1
      · simp only [if_pos hg] at hi ⊢
        exact_mod_cast hi
      · simp only [if_neg hg] at hi ⊢
        exact_mod_cast hi
    · conv => lhs; unfold gameroomref_BestFive.l4
      rw [if_pos (by omega), if_pos (by omega), if_pos (by omega), if_pos (by omega), if_pos (by omega), if_pos (by omega), if_pos (by omega), if_pos (by omega), if_pos (by omega), if_pos (by omega), if_pos (by omega), w64 _ (by omega) (by omega)]
      rfl
theorem l3_ev (hn : l.length = n) (hn7 : n ≤ 7) (HV : ∀ i0 i1 i2 i3 i4 : Nat, i0 < i1 → i1 < i2 → i2 < i3 → i3 < i4 → i4 < n → Ev (fun k => gameroomref_HandValue.f k (handOf l [i0, i1, i2, i3, i4])) (pval (handOf l [i0, i1, i2, i3, i4])))
    (i0 i1 i2 : Nat) (h01 : i0 < i1) (h12 : i1 < i2) (hl3 : i2 < n) : ∀ (d j : Nat) (s : Int × List Int), i2 < j → j + d = n → Ev (fun k => gameroomref_BestFive.l2 k l (n : Int) (fo l [i0, i1, i2] n 2 j s).1 (fo l [i0, i1, i2] n 2 j s).2 i0 i1 ((i2 : Int) + 1)) r →
    Ev (fun k => gameroomref_BestFive.l3 k l (n : Int) s.1 s.2 i0 i1 i2 (j : Int)) r := by
  intro d
  induction d with
  | zero =>
    intro j s hj hd h
    rw [fo_end _ _ _ _ _ _ (by omega)] at h
    refine h.step fun k => ?_
    unfold gameroomref_BestFive.l3
    rw [if_neg (by omega), w64 _ (by omega) (by omega)]
  | succ d ih =>
    intro j s hj hd h
    rw [fo_step _ _ _ _ _ _ (by omega)] at h
    have hi := ih (j + 1) _ (by omega) (by omega) h
    have h2 := l4_ev l r n hn hn7 HV i0 i1 i2 j h01 h12 hj (by omega) d (j + 1) s (by omega) (by omega) (by simpa using hi)
    refine h2.step fun k => ?_
    conv => lhs; unfold gameroomref_BestFive.l3
    rw [if_pos (by omega), w64 _ (by omega) (by omega)]
    rfl
theorem l2_ev (hn : l.length = n) (hn7 : n ≤ 7) (HV : ∀ i0 i1 i2 i3 i4 : Nat, i0 < i1 → i1 < i2 → i2 < i3 → i3 < i4 → i4 < n → Ev (fun k => gameroomref_HandValue.f k (handOf l [i0, i1, i2, i3, i4])) (pval (handOf l [i0, i1, i2, i3, i4])))
    (i0 i1 : Nat) (h01 : i0 < i1) (hl2 : i1 < n) : ∀ (d j : Nat) (s : Int × List Int), i1 < j → j + d = n → Ev (fun k => gameroomref_BestFive.l1 k l (n : Int) (fo l [i0, i1] n 3 j s).1 (fo l [i0, i1] n 3 j s).2 i0 ((i1 : Int) + 1)) r →
    Ev (fun k => gameroomref_BestFive.l2 k l (n : Int) s.1 s.2 i0 i1 (j : Int)) r := by
  intro d
  induction d with
  | zero =>
    intro j s hj hd h
    rw [fo_end _ _ _ _ _ _ (by omega)] at h
    refine h.step fun k => ?_
    unfold gameroomref_BestFive.l2
    rw [if_neg (by omega), w64 _ (by omega) (by omega)]
  | succ d ih =>
    intro j s hj hd h
    rw [fo_step _ _ _ _ _ _ (by omega)] at h
    have hi := ih (j + 1) _ (by omega) (by omega) h
    have h2 := l3_ev l r n hn hn7 HV i0 i1 j h01 hj (by omega) d (j + 1) s (by omega) (by omega) (by simpa using hi)
    refine h2.step fun k => ?_
    conv => lhs; unfold gameroomref_BestFive.l2
    rw [if_pos (by omega), w64 _ (by omega) (by omega)]
    rfl
theorem l1_ev (hn : l.length = n) (hn7 : n ≤ 7) (HV : ∀ i0 i1 i2 i3 i4 : Nat, i0 < i1 → i1 < i2 → i2 < i3 → i3 < i4 → i4 < n → Ev (fun k => gameroomref_HandValue.f k (handOf l [i0, i1, i2, i3, i4])) (pval (handOf l [i0, i1, i2, i3, i4])))
    (i0 : Nat)  (hl1 : i0 < n) : ∀ (d j : Nat) (s : Int × List Int), i0 < j → j + d = n → Ev (fun k => gameroomref_BestFive.l0 k l (n : Int) (fo l [i0] n 4 j s).1 (fo l [i0] n 4 j s).2  ((i0 : Int) + 1)) r →
    Ev (fun k => gameroomref_BestFive.l1 k l (n : Int) s.1 s.2 i0 (j : Int)) r := by
  intro d
  induction d with
  | zero =>
    intro j s hj hd h
    rw [fo_end _ _ _ _ _ _ (by omega)] at h
    refine h.step fun k => ?_
    unfold gameroomref_BestFive.l1
    rw [if_neg (by omega), w64 _ (by omega) (by omega)]
  | succ d ih =>
    intro j s hj hd h
    rw [fo_step _ _ _ _ _ _ (by omega)] at h
    have hi := ih (j + 1) _ (by omega) (by omega) h
    have h2 := l2_ev l r n hn hn7 HV i0 j  hj (by omega) d (j + 1) s (by omega) (by omega) (by simpa using hi)
    refine h2.step fun k => ?_
    conv => lhs; unfold gameroomref_BestFive.l1
    rw [if_pos (by omega), w64 _ (by omega) (by omega)]
    rfl
theorem l0_ev (hn : l.length = n) (hn7 : n ≤ 7) (HV : ∀ i0 i1 i2 i3 i4 : Nat, i0 < i1 → i1 < i2 → i2 < i3 → i3 < i4 → i4 < n → Ev (fun k => gameroomref_HandValue.f k (handOf l [i0, i1, i2, i3, i4])) (pval (handOf l [i0, i1, i2, i3, i4])))
     : ∀ (d j : Nat) (s : Int × List Int), j + d = n → r = fo l [] n 5 j s →
    Ev (fun k => gameroomref_BestFive.l0 k l (n : Int) s.1 s.2  (j : Int)) r := by
  intro d
  induction d with
  | zero =>
    intro j s hd h
    subst h
    rw [fo_end _ _ _ _ _ _ (by omega)]
    refine Ev.const fun k => ?_
    unfold gameroomref_BestFive.l0
    rw [if_neg (by omega)]
  | succ d ih =>
    intro j s hd h
    rw [fo_step _ _ _ _ _ _ (by omega)] at h
    have hi := ih (j + 1) _ (by omega) h
    have h2 := l1_ev l r n hn hn7 HV  j (by omega) d (j + 1) s (by omega) (by omega) (by simpa using hi)
    refine h2.step fun k => ?_
    conv => lhs; unfold gameroomref_BestFive.l0
    rw [if_pos (by omega), w64 _ (by omega) (by omega)]
    rfl
theorem best_ev (hn : l.length = n) (hn7 : n ≤ 7) (HV : ∀ i0 i1 i2 i3 i4 : Nat, i0 < i1 → i1 < i2 → i2 < i3 → i3 < i4 → i4 < n → Ev (fun k => gameroomref_HandValue.f k (handOf l [i0, i1, i2, i3, i4])) (pval (handOf l [i0, i1, i2, i3, i4]))) :
    Ev (fun k => gameroomref_BestFive.f k l) (bestF l (picks l.length 5 0)) := by
  have h := l0_ev l (bestF l (picks l.length 5 0)) n hn hn7 HV n 0 (-1, []) (by omega) (by rw [hn, bestF_fo])
  rw [← hn] at h
  exact h
end
end Go.Proofs.Ytpcmodmghpijeaa.Pure
