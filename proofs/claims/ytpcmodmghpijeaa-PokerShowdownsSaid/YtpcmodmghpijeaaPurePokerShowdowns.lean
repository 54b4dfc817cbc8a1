import Derived.Test.YtpcmodmghpijeaaQf3
import Derived.Test.YtpcmodmghpijeaaP5
namespace Go.Proofs.Ytpcmodmghpijeaa.Pure
open Go.RowKit Go.Proofs.Ytpcmodmghpijeaa.Q Go.Proofs.YtpcmodmghpijeaaW.PrintWords Go.Proofs.YtpcmodmghpijeaaW.PrintLast
set_option linter.unusedVariables false
def lt (K : List Int) (i : Nat) : List Int := ((List.range' 0 i).filter fun (c : Nat) => decide (¬ (c : Int) ∈ K)).map fun (c : Nat) => (c : Int)
theorem lt_all (K : List Int) : lt K 52 = LK K 0 := rfl
theorem lt_succ (K : List Int) (i : Nat) : lt K (i + 1) = if (i : Int) ∈ K then lt K i else lt K i ++ [(i : Int)] := by
  unfold lt
  rw [List.range'_concat, List.filter_append, List.map_append]
  by_cases h : (i : Int) ∈ K
  · simp [h]
  · simp [h]
theorem lt_len (K : List Int) (i : Nat) : (lt K i).length ≤ i := by
  unfold lt
  have := List.length_filter_le (fun (c : Nat) => decide (¬ (c : Int) ∈ K)) (List.range' 0 i)
  simp at this ⊢
  omega
theorem lt_mem (K : List Int) (i : Nat) (x : Int) (h : x ∈ lt K i) : 0 ≤ x ∧ x < i ∧ x ∉ K := by
  unfold lt at h
  simp only [List.mem_map, List.mem_filter, List.mem_range'_1, decide_eq_true_eq] at h
  obtain ⟨c, ⟨h1, h2⟩, rfl⟩ := h
  exact ⟨by omega, by omega, h2⟩
theorem lt_nodup (K : List Int) (i : Nat) : (lt K i).Nodup := by
  unfold lt
  refine List.Pairwise.map _ (fun a b (h : a ≠ b) e => h (by omega)) ?_
  exact List.Pairwise.filter _ List.nodup_range'
theorem at_f (l : List Int) (x : Int) (hl : l.length ≤ 100) : ∃ r : Int, Ev (fun k => gameroomref_at.f k l x) r ∧ (r < 0 ↔ x ∉ l) := by
  obtain ⟨r, h1, h2⟩ := at_ev l x (by omega) l.length 0 (by omega)
  rw [List.drop_zero] at h2
  exact ⟨r, h1, ⟨fun h hm => by have := h2.2 hm; omega, fun h => by
    by_cases hr : 0 ≤ r
    · exact absurd (h2.1 hr) h
    · omega⟩⟩
def tailF (k : Nat) (a b t x9 : List Int) : Option (Int × Int × Int) :=
  if (t.length : Int) = 5 then (if ([] : List (List Int)).length < 5864062014805 then (gameroomref_ShowdownOf.j4 k a b t (([] : List (List Int)) ++ [[]])) else (none)) else (if (t.length : Int) = 4 then (gameroomref_ShowdownOf.l1 k a b t x9 ([] : List (List Int)) 0) else (if (t.length : Int) = 3 then (gameroomref_ShowdownOf.l2 k a b t x9 ([] : List (List Int)) 0) else (gameroomref_ShowdownOf.j4 k a b t ([] : List (List Int)))))
theorem l0_evs (a b t : List Int) (ha : a.length = 2) (hb : b.length = 2) (ht : t.length ≤ 5) (r : Int × Int × Int) (hr : Ev (fun k => tailF k a b t (lt (a ++ b ++ t) 52)) r) :
    ∀ (d i : Nat), i + d = 52 → Ev (fun k => gameroomref_ShowdownOf.l0 k a b t (lt (a ++ b ++ t) i) (i : Int)) r := by
  intro d
  induction d with
  | zero =>
    intro i hi
    obtain rfl : i = 52 := by omega
    refine hr.step fun k => ?_
    conv => lhs; unfold gameroomref_ShowdownOf.l0
    rw [if_neg (by omega)]
    rfl
  | succ d ih =>
    intro i hi
    have h1 := ih (i + 1) (by omega)
    rw [lt_succ] at h1
    have hll := lt_len (a ++ b ++ t) i
    obtain ⟨ra, ea, pa⟩ := at_f a (i : Int) (by omega)
    obtain ⟨rb, eb, pb⟩ := at_f b (i : Int) (by omega)
    obtain ⟨rt, et, pt⟩ := at_f t (i : Int) (by omega)
    generalize lt (a ++ b ++ t) i = x9 at *
    have step : ∀ k, gameroomref_ShowdownOf.l0 (k + 1) a b t x9 (i : Int) = ((gameroomref_at.f k a (i : Int)).bind fun t157 => (if t157 < 0 then ((gameroomref_at.f k b (i : Int)).bind fun t158 => (if t158 < 0 then ((gameroomref_at.f k t (i : Int)).bind fun t159 => (if t159 < 0 then (gameroomref_ShowdownOf.l0 k a b t (x9 ++ [(i : Int)]) ((i : Int) + 1)) else (gameroomref_ShowdownOf.l0 k a b t x9 ((i : Int) + 1)))) else (gameroomref_ShowdownOf.l0 k a b t x9 ((i : Int) + 1)))) else (gameroomref_ShowdownOf.l0 k a b t x9 ((i : Int) + 1)))) := by
      intro k
      conv => lhs; unfold gameroomref_ShowdownOf.l0
      have e4 : x9.length < 17592186044416 := by omega
      rw [if_pos (by omega), w64 _ (by omega) (by omega)]
      simp only [if_pos e4]
    obtain ⟨k0, h0⟩ := h1
    obtain ⟨k1, h1a⟩ := ea
    obtain ⟨k2, h2a⟩ := eb
    obtain ⟨k3, h3a⟩ := et
    refine ⟨k0 + k1 + k2 + k3 + 1, fun k hk => ?_⟩
    obtain ⟨j, rfl⟩ : ∃ j, k = j + 1 := ⟨k - 1, by omega⟩
    have q0 := h0 j (by omega)
    have q1 : gameroomref_at.f j a (i : Int) = some ra := h1a j (by omega)
    have q2 : gameroomref_at.f j b (i : Int) = some rb := h2a j (by omega)
    have q3 : gameroomref_at.f j t (i : Int) = some rt := h3a j (by omega)
    show gameroomref_ShowdownOf.l0 (j + 1) a b t x9 (i : Int) = _
    rw [step, q1]
    simp only [Option.bind_some]
    simp only [Int.natCast_add, Int.natCast_one] at q0
    by_cases m1 : (i : Int) ∈ a
    · rw [if_neg (fun h => pa.1 h m1)]
      rw [if_pos (by simp [m1])] at q0
      exact q0
    · rw [if_pos (pa.2 m1), q2]
      simp only [Option.bind_some]
      by_cases m2 : (i : Int) ∈ b
      · rw [if_neg (fun h => pb.1 h m2)]
        rw [if_pos (by simp [m2])] at q0
        exact q0
      · rw [if_pos (pb.2 m2), q3]
        simp only [Option.bind_some]
        by_cases m3 : (i : Int) ∈ t
        · rw [if_neg (fun h => pt.1 h m3)]
          rw [if_pos (by simp [m3])] at q0
          exact q0
        · rw [if_pos (pt.2 m3)]
          rw [if_neg (by simp [m1, m2, m3])] at q0
          exact q0
theorem rd_get (l : List Int) (i : Nat) (h : i < l.length) : rd l (i : Int) = l[i] := by
  simp [rd, List.getD_eq_getElem?_getD, List.getElem?_eq_getElem h]
theorem j4_evs (a b t : List Int) (xs : List (List Int)) (r : Int × Int × Int) (h : Ev (fun k => gameroomref_ShowdownOf.l4 k a b t xs 0 0 0) r) : Ev (fun k => gameroomref_ShowdownOf.j4 k a b t xs) r := by
  refine h.step fun k => ?_
  conv => lhs; unfold gameroomref_ShowdownOf.j4
theorem l1_evs (a b t x9 : List Int) (hx : x9.length ≤ 52) (r : Int × Int × Int) (h : Ev (fun k => gameroomref_ShowdownOf.j4 k a b t (x9.map fun c => [c])) r) : ∀ (d i : Nat), i + d = x9.length →
    Ev (fun k => gameroomref_ShowdownOf.l1 k a b t x9 ((x9.take i).map fun c => [c]) (i : Int)) r := by
  intro d
  induction d with
  | zero =>
    intro i hi
    rw [List.take_of_length_le (by omega)]
    refine h.step fun k => ?_
    conv => lhs; unfold gameroomref_ShowdownOf.l1
    rw [if_neg (by omega)]
  | succ d ih =>
    intro i hi
    refine (ih (i + 1) (by omega)).step fun k => ?_
    conv => lhs; unfold gameroomref_ShowdownOf.l1
    rw [if_pos (by omega), if_pos (by omega), if_pos (by simp; omega), w64 _ (by omega) (by omega), poker_check.take_succ x9 i (by omega)]
    simp
theorem pairsR_len (l : List Int) (hl : l.length ≤ 52) : ∀ i, i ≤ l.length → (pairsR l i).length ≤ i * 52
  | 0, _ => by simp [pairsR]
  | i + 1, h => by
    have := pairsR_len l hl i (by omega)
    simp [pairsR]
    omega
theorem l3_evs (a b t x9 : List Int) (hx : x9.length ≤ 52) (r : Int × Int × Int) (i : Nat) (hi : i < x9.length) (h : Ev (fun k => gameroomref_ShowdownOf.l2 k a b t x9 (pairsR x9 (i + 1)) ((i : Int) + 1)) r) : ∀ (d j : Nat), j + d = i →
    Ev (fun k => gameroomref_ShowdownOf.l3 k a b t x9 (pairsR x9 i ++ (x9.take j).map (fun y => [rd x9 i, y])) (i : Int) (j : Int)) r := by
  intro d
  induction d with
  | zero =>
    intro j hj
    obtain rfl : j = i := by omega
    refine h.step fun k => ?_
    conv => lhs; unfold gameroomref_ShowdownOf.l3
    rw [if_neg (by omega), w64 _ (by omega) (by omega)]
    rfl
  | succ d ih =>
    intro j hj
    have hp := pairsR_len x9 hx i (by omega)
    refine (ih (j + 1) (by omega)).step fun k => ?_
    conv => lhs; unfold gameroomref_ShowdownOf.l3
    rw [if_pos (by omega), if_pos (by omega), if_pos (by omega), if_pos (by omega), if_pos (by omega), if_pos (by simp; omega), w64 _ (by omega) (by omega), poker_check.take_succ x9 j (by omega)]
    simp
theorem l2_evs (a b t x9 : List Int) (hx : x9.length ≤ 52) (r : Int × Int × Int) (h : Ev (fun k => gameroomref_ShowdownOf.j4 k a b t (pairsR x9 x9.length)) r) : ∀ (d i : Nat), i + d = x9.length →
    Ev (fun k => gameroomref_ShowdownOf.l2 k a b t x9 (pairsR x9 i) (i : Int)) r := by
  intro d
  induction d with
  | zero =>
    intro i hi
    obtain rfl : i = x9.length := by omega
    refine h.step fun k => ?_
    conv => lhs; unfold gameroomref_ShowdownOf.l2
    rw [if_neg (by omega)]
  | succ d ih =>
    intro i hi
    have h1 := l3_evs a b t x9 hx r i (by omega) (by have := ih (i + 1) (by omega); exact_mod_cast this) i 0 (by omega)
    refine h1.step fun k => ?_
    conv => lhs; unfold gameroomref_ShowdownOf.l2
    rw [if_pos (by omega)]
    simp
theorem good_of (a b t u : List Int) (ha : a.length = 2) (hb : b.length = 2) (hr : ∀ x ∈ a ++ b ++ t, 0 ≤ x ∧ x < 52) (hn : (a ++ b ++ t).Nodup) (hu : u.Nodup) (hx : ∀ x ∈ u, (0 ≤ x ∧ x < 52) ∧ x ∉ a ++ b ++ t) (hl : t.length + u.length = 5) :
    good (a ++ (t ++ u)) ∧ good (b ++ (t ++ u)) := by
  rw [List.nodup_append] at hn
  obtain ⟨n1, nt, dt⟩ := hn
  rw [List.nodup_append] at n1
  obtain ⟨na, nb, dab⟩ := n1
  have ntu : (t ++ u).Nodup := by
    rw [List.nodup_append]
    refine ⟨nt, hu, fun x h1 y h2 e => ?_⟩
    subst e
    exact (hx x h2).2 (by simp [h1])
  have rtu : ∀ x ∈ t ++ u, 0 ≤ x ∧ x < 52 := by
    intro x h
    rw [List.mem_append] at h
    rcases h with h | h
    · exact hr x (by simp [h])
    · exact (hx x h).1
  refine ⟨⟨by simp; omega, ?_, ?_⟩, ⟨by simp; omega, ?_, ?_⟩⟩
  · intro x h
    rw [List.mem_append] at h
    rcases h with h | h
    · exact hr x (by simp [h])
    · exact rtu x h
  · rw [List.nodup_append]
    refine ⟨na, ntu, fun x h1 y h2 e => ?_⟩
    subst e
    rw [List.mem_append] at h2
    rcases h2 with h2 | h2
    · exact dt x (by simp [h1]) x h2 rfl
    · exact (hx x h2).2 (by simp [h1])
  · intro x h
    rw [List.mem_append] at h
    rcases h with h | h
    · exact hr x (by simp [h])
    · exact rtu x h
  · rw [List.nodup_append]
    refine ⟨nb, ntu, fun x h1 y h2 e => ?_⟩
    subst e
    rw [List.mem_append] at h2
    rcases h2 with h2 | h2
    · exact dt x (by simp [h1]) x h2 rfl
    · exact (hx x h2).2 (by simp [h1])
theorem pairsR_mem (l : List Int) (hn : l.Nodup) : ∀ i, i ≤ l.length → ∀ u ∈ pairsR l i, ∃ x y, u = [x, y] ∧ x ∈ l ∧ y ∈ l ∧ x ≠ y
  | 0, _, u, hu => by simp [pairsR] at hu
  | i + 1, h, u, hu => by
    rw [pairsR, List.mem_append] at hu
    rcases hu with hu | hu
    · exact pairsR_mem l hn i (by omega) u hu
    · rw [List.mem_map] at hu
      obtain ⟨y, hy, rfl⟩ := hu
      refine ⟨_, _, rfl, poker_check.rd_mem l i (by omega), List.mem_of_mem_take hy, ?_⟩
      rintro rfl
      exact poker_check.twice l i (by omega) hy hn
theorem show_ref (a b t : List Int) (ha : a.length = 2) (hb : b.length = 2) (h3 : 3 ≤ t.length) (h5 : t.length ≤ 5) (hr : ∀ x ∈ a ++ b ++ t, 0 ≤ x ∧ x < 52) (hn : (a ++ b ++ t).Nodup) :
    Ev (fun k => gameroomref_ShowdownOf.f k a b t) ((runS a b t (0, 0, 0) (fillsF (a ++ b ++ t) (5 - t.length) 0)).2.1, (runS a b t (0, 0, 0) (fillsF (a ++ b ++ t) (5 - t.length) 0)).2.2, (runS a b t (0, 0, 0) (fillsF (a ++ b ++ t) (5 - t.length) 0)).1) := by
  have hl52 := lt_len (a ++ b ++ t) 52
  have hmem := lt_mem (a ++ b ++ t) 52
  have hnd := lt_nodup (a ++ b ++ t) 52
  have main : Ev (fun k => tailF k a b t (lt (a ++ b ++ t) 52)) ((runS a b t (0, 0, 0) (fillsF (a ++ b ++ t) (5 - t.length) 0)).2.1, (runS a b t (0, 0, 0) (fillsF (a ++ b ++ t) (5 - t.length) 0)).2.2, (runS a b t (0, 0, 0) (fillsF (a ++ b ++ t) (5 - t.length) 0)).1) := by
    rw [runS_cnt]
    rcases (show t.length = 5 ∨ t.length = 4 ∨ t.length = 3 by omega) with h | h | h
    · have e : fillsF (a ++ b ++ t) (5 - t.length) 0 = [[]] := by rw [h]; rfl
      rw [e]
      have h4 := l4_evs a b t ha hb h5 [[]] (fun u hu => by
        simp only [List.mem_singleton] at hu
        subst hu
        exact good_of a b t [] ha hb hr hn List.nodup_nil (fun x hx => by cases hx) (by simpa using h)) (by simp) 1 0 0 0 rfl (by omega) (by omega) (by omega) (by omega)
      obtain ⟨k0, hk⟩ := j4_evs a b t [[]] _ h4
      refine ⟨k0, fun k hkk => ?_⟩
      show tailF k a b t _ = _
      unfold tailF
      rw [if_pos (by omega), if_pos (by simp)]
      have := hk k hkk
      simpa using this
    · have e : fillsF (a ++ b ++ t) (5 - t.length) 0 = (lt (a ++ b ++ t) 52).map fun c => [c] := by rw [h, lt_all]; exact fills1 _ _
      rw [e]
      generalize lt (a ++ b ++ t) 52 = x9 at *
      have h4 := l4_evs a b t ha hb h5 (x9.map fun c => [c]) (fun u hu => by
        rw [List.mem_map] at hu
        obtain ⟨c, hc, rfl⟩ := hu
        have := hmem c hc
        exact good_of a b t [c] ha hb hr hn (by simp) (fun x hx => by
          simp only [List.mem_singleton] at hx
          subst hx
          exact ⟨⟨this.1, by omega⟩, this.2.2⟩) (by simp; omega)) (by simp; omega) _ 0 0 0 (Nat.zero_add _) (by omega) (by omega) (by omega) (by omega)
      have h1 := l1_evs a b t x9 hl52 _ (j4_evs a b t _ _ h4) x9.length 0 (by omega)
      obtain ⟨k0, hk⟩ := h1
      refine ⟨k0, fun k hkk => ?_⟩
      show tailF k a b t _ = _
      unfold tailF
      rw [if_neg (by omega), if_pos (by omega)]
      have := hk k hkk
      simpa using this
    · have e : fillsF (a ++ b ++ t) (5 - t.length) 0 = pairsU (lt (a ++ b ++ t) 52) := by rw [h, lt_all]; exact fills2 _ 52 0 rfl
      rw [e]
      generalize lt (a ++ b ++ t) 52 = x9 at *
      have h4 := l4_evs a b t ha hb h5 (pairsR x9 x9.length) (fun u hu => by
        obtain ⟨x, y, rfl, hx, hy, hxy⟩ := pairsR_mem x9 hnd _ (Nat.le_refl _) u hu
        have m1 := hmem x hx
        have m2 := hmem y hy
        exact good_of a b t [x, y] ha hb hr hn (by simp [hxy]) (fun z hz => by
          simp only [List.mem_cons, List.not_mem_nil, or_false] at hz
          rcases hz with rfl | rfl
          · exact ⟨⟨m1.1, by omega⟩, m1.2.2⟩
          · exact ⟨⟨m2.1, by omega⟩, m2.2.2⟩) (by simp; omega)) (by have := pairsR_len x9 hl52 x9.length (Nat.le_refl _); omega) _ 0 0 0 (Nat.zero_add _) (by omega) (by omega) (by omega) (by omega)
      have h1 := l2_evs a b t x9 hl52 _ (j4_evs a b t _ _ h4) x9.length 0 (by omega)
      have c1 := pairs_cnt _ (gG_sym a b t ha hb h) x9 x9.length (Nat.le_refl _)
      have c2 := pairs_cnt _ (gE_sym a b t ha hb h) x9 x9.length (Nat.le_refl _)
      have c3 := pairs_len x9 x9.length (Nat.le_refl _)
      rw [List.take_length] at c1 c2 c3
      rw [← c1, ← c2, ← c3]
      obtain ⟨k0, hk⟩ := h1
      refine ⟨k0, fun k hkk => ?_⟩
      show tailF k a b t _ = _
      unfold tailF
      rw [if_neg (by omega), if_neg (by omega), if_pos (by omega)]
      have := hk k hkk
      simpa [pairsR] using this
  have h0 := l0_evs a b t ha hb h5 _ main 52 0 rfl
  exact h0
theorem ints_f (l : List Int) (h : l.length * 8 ≤ 140737488351232) : gameroomlaw_ints.f l = some l := by
  unfold gameroomlaw_ints.f
  rw [if_pos (by simp; omega)]
  rfl
theorem PokerShowdowns : gameroomlaw_PokerShowdowns.Pure := by
  intro l0 l1 l2 hm0 hb0 hw0 hm1 hb1 hw1 hm2 hb2 hw2
  by_cases hl : l0.length = 2 ∧ l1.length = 2 ∧ 3 ≤ l2.length ∧ l2.length ≤ 5
  · obtain ⟨h0, h1, h3, h5⟩ := hl
    have hmay := may_ev (l0 ++ l1 ++ l2) (by simp; omega)
    have hmay' : Ev (fun k => gameroomref_CardsMay.f k (l0 ++ l1 ++ l2)) (chk (l0 ++ l1 ++ l2)) := hmay
    by_cases hc : chk (l0 ++ l1 ++ l2) = 0
    · obtain ⟨hr, hn⟩ := chk_0 _ hc
      have hs := show_ref l0 l1 l2 h0 h1 h3 h5 hr hn
      have hf : poker_Showdown.f l0 l1 l2 = some ((runS l0 l1 l2 (0, 0, 0) (fillsF (l0 ++ l1 ++ l2) (5 - l2.length) 0)).2.1, (runS l0 l1 l2 (0, 0, 0) (fillsF (l0 ++ l1 ++ l2) (5 - l2.length) 0)).2.2, (runS l0 l1 l2 (0, 0, 0) (fillsF (l0 ++ l1 ++ l2) (5 - l2.length) 0)).1, 0) := by
        unfold poker_Showdown.f
        rw [if_pos ⟨h0, h1, h3, h5⟩, chk_f, hc]
        rfl
      generalize runS l0 l1 l2 (0, 0, 0) (fillsF (l0 ++ l1 ++ l2) (5 - l2.length) 0) = R at *
      rw [hc] at hmay'
      obtain ⟨k1, hk1⟩ := hmay'
      obtain ⟨k2, hk2⟩ := hs
      refine ⟨k1 + k2 + 1, ?_⟩
      have q1 : gameroomref_CardsMay.f (k1 + k2) (l0 ++ l1 ++ l2) = some 0 := hk1 (k1 + k2) (by omega)
      have q2 : gameroomref_ShowdownOf.f (k1 + k2) l0 l1 l2 = some (R.2.1, R.2.2, R.1) := hk2 (k1 + k2) (by omega)
      unfold gameroomlaw_PokerShowdowns.f
      rw [ints_f l0 hb0, ints_f l1 hb1, ints_f l2 hb2]
      simp only [Option.bind_some, hf]
      rw [if_pos (by omega), if_pos (by omega), if_pos (by omega), show decide ((l2.length : Int) ≤ 5) = true from decide_eq_true (by omega)]
      rw [gameroomlaw_PokerShowdowns.j0]
      rw [if_pos rfl, ints_f l0 hb0]
      simp only [Option.bind_some]
      rw [if_pos (by omega), if_pos (by simp; omega), q1]
      simp only [Option.bind_some, q2]
      simp
    · have hf : poker_Showdown.f l0 l1 l2 = some (0, 0, 0, chk (l0 ++ l1 ++ l2)) := by
        unfold poker_Showdown.f
        rw [if_pos ⟨h0, h1, h3, h5⟩, chk_f]
        simp only [Option.bind_some]
        rw [if_neg hc]
      obtain ⟨k1, hk1⟩ := hmay'
      refine ⟨k1 + 1, ?_⟩
      have q1 : gameroomref_CardsMay.f k1 (l0 ++ l1 ++ l2) = some (chk (l0 ++ l1 ++ l2)) := hk1 k1 (by omega)
      unfold gameroomlaw_PokerShowdowns.f
      rw [ints_f l0 hb0, ints_f l1 hb1, ints_f l2 hb2]
      simp only [Option.bind_some, hf]
      rw [if_pos (by omega), if_pos (by omega), if_pos (by omega), show decide ((l2.length : Int) ≤ 5) = true from decide_eq_true (by omega)]
      rw [gameroomlaw_PokerShowdowns.j0]
      rw [if_pos rfl, ints_f l0 hb0]
      simp only [Option.bind_some]
      rw [if_pos (by omega), if_pos (by simp; omega), q1]
      simp only [Option.bind_some]
      rw [if_neg hc]
      simp
  · have hf : poker_Showdown.f l0 l1 l2 = some (0, 0, 0, 11) := by
      unfold poker_Showdown.f
      rw [if_neg hl]
    refine ⟨1, ?_⟩
    have hj : gameroomlaw_PokerShowdowns.j0 1 l0 l1 l2 0 0 0 11 11 false = some true := by
      rw [gameroomlaw_PokerShowdowns.j0]
      simp
    unfold gameroomlaw_PokerShowdowns.f
    rw [ints_f l0 hb0, ints_f l1 hb1, ints_f l2 hb2]
    simp only [Option.bind_some, hf]
    by_cases h0 : l0.length = 2
    · rw [if_pos (by omega)]
      by_cases h1 : l1.length = 2
      · rw [if_pos (by omega)]
        by_cases h3 : 3 ≤ l2.length
        · rw [if_pos (by omega), show decide ((l2.length : Int) ≤ 5) = false from decide_eq_false (by omega)]
          exact hj
        · rw [if_neg (by omega)]
          exact hj
      · rw [if_neg (by omega)]
        exact hj
    · rw [if_neg (by omega)]
      exact hj
end Go.Proofs.Ytpcmodmghpijeaa.Pure
