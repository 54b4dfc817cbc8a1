import Derived.Test.YtpcmodmghpijeaaQf22
import Derived.Test.YtpcmodmghpijeaaGval2
namespace Go.Proofs.Ytpcmodmghpijeaa.Q
open Go.RowKit Go.Proofs.YtpcmodmghpijeaaW.PrintWords
/-- P holds of all lists of n numbers of 0 .. 4 with the sum s. -/
def allV : Nat → Nat → (List Int → Bool) → Bool
  | 0, 0, P => P []
  | 0, _ + 1, _ => true
  | n + 1, s, P => (List.range (min s 4 + 1)).all fun c => allV n (s - c) fun t => P ((c : Int) :: t)
def srtF (m s : List Int) : List Int := (insOuterF (ltOf (cfR m)) 0 (toR s).size (toR s).size 1 (toR s)).toList.map (·.1)
theorem srt_F (m s : List Int) : srt m s = srtF m s := by unfold srt srtF; rw [stab_F]
def okV (m : List Int) : Bool := decide (gameroomref_HandValue.l1 200 m false [] 4 = some (progV m false (srtF m (sgD m 13)))) && decide (gameroomref_HandValue.l1 200 m true [] 4 = some (progV m true (srtF m (sgD m 13))))
/-- The same with the first c of its range left out. -/
def allW (n s : Nat) (P : List Int → Bool) : Bool := ((List.range (min s 4)).all fun c => allV n (s - (c + 1)) fun t => P (((c + 1 : Nat) : Int) :: t))
theorem allV_cons (n s : Nat) (P : List Int → Bool) (h0 : allV n s (fun t => P (0 :: t)) = true) (h1 : allW n s P = true) : allV (n + 1) s P = true := by
  simp only [allV, List.all_eq_true, List.mem_range]
  intro c hc
  rcases c with _ | c
  · simpa using h0
  · simp only [allW, List.all_eq_true, List.mem_range] at h1
    exact h1 c (by omega)
theorem allV_sound : ∀ (n s : Nat) (P : List Int → Bool), allV n s P = true → ∀ m : List Int, m.length = n → (∀ x ∈ m, 0 ≤ x ∧ x ≤ 4) → m.sum = s → P m = true
  | 0, s, P, h, m, hm, _, hs => by
    obtain rfl := List.eq_nil_of_length_eq_zero hm
    obtain rfl : s = 0 := by simp at hs; omega
    exact h
  | n + 1, s, P, h, m, hm, hb, hs => by
    match m, hm with
    | x :: t, hm =>
      have hx := hb x (by simp)
      have ht0 : 0 ≤ t.sum := by
        have : ∀ t : List Int, (∀ y ∈ t, 0 ≤ y ∧ y ≤ 4) → 0 ≤ t.sum := fun t => by
          induction t with
          | nil => intro _; simp
          | cons y t ih => intro h; have h1 := h y (by simp); have h2 := ih (fun z hz => h z (by simp [hz])); simp; omega
        exact this t (fun y hy => hb y (by simp [hy]))
      simp only [List.sum_cons] at hs
      obtain ⟨c, rfl⟩ : ∃ c : Nat, x = c := ⟨x.toNat, by omega⟩
      simp only [allV, List.all_eq_true, List.mem_range] at h
      exact allV_sound n (s - c) (fun t => P ((c : Int) :: t)) (h c (by omega)) t (by simpa using hm) (fun y hy => hb y (by simp [hy])) (by omega)
end Go.Proofs.Ytpcmodmghpijeaa.Q
