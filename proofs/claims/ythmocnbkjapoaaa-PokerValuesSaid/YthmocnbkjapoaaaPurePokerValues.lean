import Derived.Test.YthmocnbkjapoaaaQf3
import Derived.OpenShut
import Derived.Test.YthmocnbkjapoaaaP1
import Derived.Test.YthmocnbkjapoaaaP4
import Derived.Test.YthmocnbkjapoaaaP2a
import Derived.Test.YthmocnbkjapoaaaP2b
import Derived.Test.YthmocnbkjapoaaaP2c
import Derived.Test.YthmocnbkjapoaaaP2d
import Derived.Test.YthmocnbkjapoaaaP2e
namespace Go.Proofs.Ythmocnbkjapoaaa.Pure
open Go.RowKit Go.Proofs.Ythmocnbkjapoaaa.Q Go.Proofs.YthmocnbkjapoaaaW.PrintWords Go.Proofs.YthmocnbkjapoaaaW.PrintLast
set_option linter.unusedVariables false
theorem allW_4 (n s : Nat) (P : List Int → Bool) (hs : 4 ≤ s) (h1 : allV n (s - 1) (fun t => P (1 :: t)) = true) (h2 : allV n (s - 2) (fun t => P (2 :: t)) = true) (h3 : allV n (s - 3) (fun t => P (3 :: t)) = true) (h4 : allV n (s - 4) (fun t => P (4 :: t)) = true) : allW n s P = true := by
  simp only [allW, List.all_eq_true, List.mem_range]
  intro c hc
  rcases (show c = 0 ∨ c = 1 ∨ c = 2 ∨ c = 3 by omega) with rfl | rfl | rfl | rfl
  · exact h1
  · exact h2
  · exact h3
  · exact h4
theorem okV_all : allV 13 5 okV = true := by
  refine allV_cons 12 5 _ ?_ (allW_4 12 5 _ (by decide) ?_ okV_F4 okV_F5 okV_F6)
  · refine allV_cons 11 5 _ ?_ (allW_4 11 5 _ (by decide) ?_ okV_E3 okV_E4 okV_E5)
    · refine allV_cons 10 5 _ ?_ okV_3
      refine allV_cons 9 5 _ ?_ okV_2
      exact allV_cons 8 5 _ okV_0 okV_1
    · exact allV_cons 10 4 _ okV_E1 okV_E2
  · refine allV_cons 11 4 _ ?_ okV_F3
    exact allV_cons 10 4 _ okV_F1 okV_F2
theorem sublist_nodup (l : List Int) (hn : l.Nodup) (hr : ∀ x ∈ l, 0 ≤ x ∧ x < 52) (n : Nat) (hl : l.length = n) (i0 i1 i2 i3 i4 : Nat) (h0 : i0 < i1) (h1 : i1 < i2) (h2 : i2 < i3) (h3 : i3 < i4) (h4 : i4 < n) :
    (handOf l [i0, i1, i2, i3, i4]).Nodup ∧ ∀ x ∈ handOf l [i0, i1, i2, i3, i4], 0 ≤ x ∧ x < 52 := by
  have rdg : ∀ i (h : i < l.length), rd l (i : Int) = l[i] := fun i h => by simp [rd, List.getD_eq_getElem?_getD, List.getElem?_eq_getElem h]
  have inj : ∀ i j, i < j → j < l.length → rd l (i : Int) ≠ rd l (j : Int) := fun i j hij hj e => by
    rw [rdg i (by omega), rdg j hj] at e
    exact List.pairwise_iff_getElem.1 hn i j (by omega) hj hij e
  constructor
  · simp only [handOf, List.map_cons, List.map_nil, List.nodup_cons, List.mem_cons, List.not_mem_nil, or_false, not_or]
    refine ⟨⟨?_, ?_, ?_, ?_⟩, ⟨?_, ?_, ?_⟩, ⟨?_, ?_⟩, ?_, ?_⟩ <;> first | exact inj _ _ (by omega) (by omega) | simp
  · intro x hx
    simp only [handOf, List.mem_map] at hx
    obtain ⟨i, hi, rfl⟩ := hx
    have : i < l.length := by simp at hi; omega
    exact hr _ (by rw [rdg i this]; exact List.getElem_mem this)
def chk (l : List Int) : Int := if ∀ x ∈ l, 0 ≤ x ∧ x < 52 then (if l.Nodup then 0 else 6) else 3
theorem chk_f (l : List Int) : poker_check.f l = some (chk l) := by
  unfold poker_check.f chk
  have : (l.all poker_check.ok = true) ↔ ∀ x ∈ l, 0 ≤ x ∧ x < 52 := by simp [poker_check.ok, List.all_eq_true]
  simp only [this]
def toldR (l : List Int) : Int × List Int × Int :=
  if l.length < 5 ∨ 7 < l.length then (0, [], 11) else if chk l = 0 then ((bestF l (picks l.length 5 0)).1, (bestF l (picks l.length 5 0)).2, 0) else (0, [], chk l)
theorem chk_0 (l : List Int) (h : chk l = 0) : (∀ x ∈ l, 0 ≤ x ∧ x < 52) ∧ l.Nodup := by
  unfold chk at h
  by_cases h1 : ∀ x ∈ l, 0 ≤ x ∧ x < 52
  · rw [if_pos h1] at h
    by_cases h2 : l.Nodup
    · exact ⟨h1, h2⟩
    · rw [if_neg h2] at h; omega
  · rw [if_neg h1] at h; omega
theorem told_ev (l : List Int) : Ev (fun k => poker_told.f k l) (toldR l) := by
  refine Ev.const fun k => ?_
  unfold poker_told.f toldR
  by_cases h5 : l.length < 5
  · rw [if_pos (by omega), if_pos (.inl h5)]
    rw [poker_told.j0]
    rw [if_pos rfl]
  · rw [if_neg (by omega)]
    by_cases h7 : 7 < l.length
    · rw [if_pos (.inr h7), show decide ((l.length : Int) > 7) = true from decide_eq_true (by omega)]
      rw [poker_told.j0]
      rw [if_pos rfl]
    · rw [if_neg (by omega), show decide ((l.length : Int) > 7) = false from decide_eq_false (by omega)]
      rw [poker_told.j0]
      rw [if_neg (by decide), chk_f]
      simp only [Option.bind_some]
      by_cases hc : chk l = 0
      · rw [if_pos hc, if_pos hc]
        have : poker_best.f l = some (bestF l (picks l.length 5 0)) := by
          unfold poker_best.f
          rw [if_pos ⟨by omega, by omega, (chk_0 l hc).1⟩]
        rw [this]
        rfl
      · rw [if_neg hc, if_neg hc]
theorem j3_bad (l : List Int) (e : Int) (he : e ≠ 0) : Ev (fun k => gameroomlaw_PokerValues.j3 k l 0 e [] e e) true := Ev.const fun k => by
  rw [gameroomlaw_PokerValues.j3]
  rw [if_neg he, if_pos rfl, if_pos rfl, if_pos rfl]
  rfl
theorem j3_ok (l : List Int) (n : Nat) (hl : l.length = n) (hn7 : n ≤ 7) (hc : chk l = 0) : Ev (fun k => gameroomlaw_PokerValues.j3 k l (bestF l (picks l.length 5 0)).1 0 (bestF l (picks l.length 5 0)).2 0 0) true := by
  obtain ⟨hr, hn⟩ := chk_0 l hc
  have hb := best_ev l n hl hn7 (fun i0 i1 i2 i3 i4 h0 h1 h2 h3 h4 => by
    obtain ⟨a, b⟩ := sublist_nodup l hn hr n hl i0 i1 i2 i3 i4 h0 h1 h2 h3 h4
    exact hv_ev okV_all _ rfl b a)
  have hlen : (bestF l (picks l.length 5 0)).2.length ≤ 5 := by
    have : ∀ (xs : List (List Nat)) (s : Int × List Int), s.2.length ≤ 5 → (∀ x ∈ xs, x.length ≤ 5) → ((xs.map (handOf l)).foldl stepB s).2.length ≤ 5 := by
      intro xs
      induction xs with
      | nil => intro s h _; exact h
      | cons x t ih =>
        intro s h hx
        refine ih _ ?_ (fun y hy => hx y (by simp [hy]))
        unfold stepB
        split
        · have := hx x (by simp)
          simpa [handOf] using this
        · exact h
    refine this _ _ (by simp) ?_
    have hp : ∀ (left start : Nat), ∀ x ∈ picks l.length left start, x.length ≤ left := by
      intro left
      induction left with
      | zero => intro start x hx; simp [picks] at hx; simp [hx]
      | succ left ih =>
        intro start x hx
        simp only [picks, List.mem_flatMap, List.mem_map] at hx
        obtain ⟨i, _, y, hy, rfl⟩ := hx
        have := ih _ _ hy
        simp; omega
    exact hp 5 0
  have hs := same_ev (bestF l (picks l.length 5 0)).2 (by omega) _ 0 (Nat.zero_add _)
  refine Ev.bind hb (H := fun bt k => if (0 : Int) = 0 then (if (0 : Int) = 0 then (if (bestF l (picks l.length 5 0)).1 = bt.1 then ((gameroomlaw_sameInts.f k (bestF l (picks l.length 5 0)).2 bt.2).bind fun t189 => (some t189)) else (some false)) else (some false)) else (some false)) ?_ fun k => ?_
  · obtain ⟨k0, h0⟩ := hs
    refine ⟨k0, fun k hk => ?_⟩
    have h1 := h0 k hk
    simp only [if_pos, gameroomlaw_sameInts.f]
    have h2 : gameroomlaw_sameInts.l0 k (bestF l (picks l.length 5 0)).2 (bestF l (picks l.length 5 0)).2 0 = some true := h1
    rw [h2]
    rfl
  · conv => lhs; rw [gameroomlaw_PokerValues.j3]
    rw [if_pos rfl]
theorem j1_ev (l : List Int) (hl : l.length ≤ 4611686018427387904) : Ev (fun k => gameroomlaw_PokerValues.j1 k l (toldR l).1 (toldR l).2.2 (toldR l).2.1 (toldR l).2.2) true := by
  unfold toldR
  by_cases h5 : l.length < 5
  · rw [if_pos (.inl h5)]
    refine (Ev.step (j3_bad l 11 (by decide)) (F := fun k => gameroomlaw_PokerValues.j2 k l 0 11 [] 11 11 false) fun k => ?_).step fun k => ?_
    · conv => lhs; rw [gameroomlaw_PokerValues.j2]
      rw [if_neg (by decide)]
    · conv => lhs; rw [gameroomlaw_PokerValues.j1]
      rw [if_neg (by omega)]
  · by_cases h7 : 7 < l.length
    · rw [if_pos (.inr h7)]
      refine (Ev.step (j3_bad l 11 (by decide)) (F := fun k => gameroomlaw_PokerValues.j2 k l 0 11 [] 11 11 false) fun k => ?_).step fun k => ?_
      · conv => lhs; rw [gameroomlaw_PokerValues.j2]
        rw [if_neg (by decide)]
      · conv => lhs; rw [gameroomlaw_PokerValues.j1]
        rw [if_pos (by omega), show decide ((l.length : Int) ≤ 7) = false from decide_eq_false (by omega)]
    · rw [if_neg (by omega)]
      have hm := may_ev l hl
      have hm' : Ev (fun k => gameroomref_CardsMay.f k l) (chk l) := hm
      by_cases hc : chk l = 0
      · rw [if_pos hc]
        rw [hc] at hm'
        refine (Ev.bind hm' (j3_ok l l.length rfl (by omega) hc) (F := fun k => gameroomlaw_PokerValues.j2 k l (bestF l (picks l.length 5 0)).1 0 (bestF l (picks l.length 5 0)).2 0 11 true) (H := fun t k => gameroomlaw_PokerValues.j3 k l (bestF l (picks l.length 5 0)).1 0 (bestF l (picks l.length 5 0)).2 0 t) fun k => ?_).step fun k => ?_
        · conv => lhs; rw [gameroomlaw_PokerValues.j2]
          rw [if_pos rfl]
        · conv => lhs; rw [gameroomlaw_PokerValues.j1]
          rw [if_pos (by omega), show decide ((l.length : Int) ≤ 7) = true from decide_eq_true (by omega)]
      · rw [if_neg hc]
        refine (Ev.bind hm' (j3_bad l (chk l) hc) (F := fun k => gameroomlaw_PokerValues.j2 k l 0 (chk l) [] (chk l) 11 true) (H := fun t k => gameroomlaw_PokerValues.j3 k l 0 (chk l) [] (chk l) t) fun k => ?_).step fun k => ?_
        · conv => lhs; rw [gameroomlaw_PokerValues.j2]
          rw [if_pos rfl]
        · conv => lhs; rw [gameroomlaw_PokerValues.j1]
          rw [if_pos (by omega), show decide ((l.length : Int) ≤ 7) = true from decide_eq_true (by omega)]
theorem PokerValues : gameroomlaw_PokerValues.Pure := by
  intro l a1 hlen hb hwf hwa
  have hl : l.length ≤ 17592186043904 := by omega
  have hi : gameroomlaw_ints.f l = some l := by
    unfold gameroomlaw_ints.f
    rw [if_pos (by simp; omega)]
    rfl
  have ht := told_ev l
  have hj := j1_ev l (by omega)
  have key : ∀ (c1 c2 : Int) (b : Bool), poker_Class.f a1 = some (c1, c2) → (∀ k, gameroomlaw_PokerValues.j0 (k + 1) l a1 (toldR l).1 (toldR l).2.2 (toldR l).2.1 (toldR l).2.2 c1 c2 b = gameroomlaw_PokerValues.j1 k l (toldR l).1 (toldR l).2.2 (toldR l).2.1 (toldR l).2.2) →
      (if a1 < 0 then true else decide (a1 ≥ 3341637)) = b → ∃ k, gameroomlaw_PokerValues.f k l a1 = some true := by
    intro c1 c2 b hcl hj0 hbb
    obtain ⟨k1, h1⟩ := ht
    obtain ⟨k2, h2⟩ := hj.step (F := fun k => gameroomlaw_PokerValues.j0 k l a1 (toldR l).1 (toldR l).2.2 (toldR l).2.1 (toldR l).2.2 c1 c2 b) hj0
    refine ⟨k1 + k2, ?_⟩
    have e1 := h1 (k1 + k2) (by omega)
    have e2 := h2 (k1 + k2) (by omega)
    simp only [gameroomlaw_PokerValues.f, poker_Value.f, poker_Best.f, hi, e1, hcl, Option.bind_some]
    by_cases h0 : a1 < 0
    · rw [if_pos h0] at hbb ⊢
      subst hbb; exact e2
    · rw [if_neg h0] at hbb ⊢
      subst hbb; exact e2
  have hw : -9223372036854775808 ≤ a1 ∧ a1 ≤ 9223372036854775807 := by
    exact bounds_i64 hwa
  by_cases h0 : a1 < 0
  · refine key 0 3 true (by unfold poker_Class.f; rw [if_pos h0]) (fun k => ?_) (by rw [if_pos h0])
    conv => lhs; rw [gameroomlaw_PokerValues.j0]
    rw [if_pos rfl, if_pos rfl, if_pos rfl]
  · have hd : Int.tdiv a1 371293 = a1 / 371293 := Int.tdiv_eq_ediv_of_nonneg (by omega)
    have hwd : wrap64 (a1 / 371293) = a1 / 371293 := w64 _ (by omega) (by omega)
    by_cases h8 : a1 / 371293 > 8
    · refine key 0 3 true (by unfold poker_Class.f; rw [if_neg h0, hd, hwd, if_pos h8]) (fun k => ?_) (by rw [if_neg h0]; exact decide_eq_true (by omega))
      conv => lhs; rw [gameroomlaw_PokerValues.j0]
      rw [if_pos rfl, if_pos rfl, if_pos rfl]
    · refine key (a1 / 371293) 0 false (by unfold poker_Class.f; rw [if_neg h0, hd, hwd, if_neg h8]) (fun k => ?_) (by rw [if_neg h0]; exact decide_eq_false (by omega))
      conv => lhs; rw [gameroomlaw_PokerValues.j0]
      rw [if_neg (by decide), if_pos rfl, hd, hwd, if_pos rfl]
end Go.Proofs.Ythmocnbkjapoaaa.Pure
