import Derived.Test.YtpcmodmghpijeaaGshow3
import Derived.Test.YtpcmodmghpijeaaP1
import Derived.Test.YtpcmodmghpijeaaP4
import Derived.Test.YtpcmodmghpijeaaP2a
import Derived.Test.YtpcmodmghpijeaaP2b
import Derived.Test.YtpcmodmghpijeaaP2c
import Derived.Test.YtpcmodmghpijeaaP2d
import Derived.Test.YtpcmodmghpijeaaP2e
import Derived.Test.YtpcmodmghpijeaaQf7
namespace Go.Proofs.Ytpcmodmghpijeaa.Pure
open Go.RowKit Go.Proofs.Ytpcmodmghpijeaa.Q Go.Proofs.YtpcmodmghpijeaaW.PrintWords Go.Proofs.YtpcmodmghpijeaaW.PrintLast
set_option linter.unusedVariables false
theorem allW_4 (n s : Nat) (P : List Int → Bool) (hs : 4 ≤ s) (h1 : allV n (s - 1) (fun t => P (1 :: t)) = true) (h2 : allV n (s - 2) (fun t => P (2 :: t)) = true) (h3 : allV n (s - 3) (fun t => P (3 :: t)) = true) (h4 : allV n (s - 4) (fun t => P (4 :: t)) = true) : allW n s P = true := by
  simp only [allW, List.all_eq_true, List.mem_range]
  intro c hc
  rcases (show c = 0 ∨ c = 1 ∨ c = 2 ∨ c = 3 by omega) with rfl | rfl | rfl | rfl
  · exact h1
  · exact h2
  · exact h3
  · exact h4
theorem okV_all : allV 13 5 okV = true := by
  refine allV_cons 12 5 _ ?_ (allW_4 12 5 _ (by decide) ?_ okV_F4 okV_F5 okV_F6)
  · refine allV_cons 11 5 _ ?_ (allW_4 11 5 _ (by decide) ?_ okV_E3 okV_E4 okV_E5)
    · refine allV_cons 10 5 _ ?_ okV_3
      refine allV_cons 9 5 _ ?_ okV_2
      exact allV_cons 8 5 _ okV_0 okV_1
    · exact allV_cons 10 4 _ okV_E1 okV_E2
  · refine allV_cons 11 4 _ ?_ okV_F3
    exact allV_cons 10 4 _ okV_F1 okV_F2
theorem sublist_nodup (l : List Int) (hn : l.Nodup) (hr : ∀ x ∈ l, 0 ≤ x ∧ x < 52) (n : Nat) (hl : l.length = n) (i0 i1 i2 i3 i4 : Nat) (h0 : i0 < i1) (h1 : i1 < i2) (h2 : i2 < i3) (h3 : i3 < i4) (h4 : i4 < n) :
    (handOf l [i0, i1, i2, i3, i4]).Nodup ∧ ∀ x ∈ handOf l [i0, i1, i2, i3, i4], 0 ≤ x ∧ x < 52 := by
  have rdg : ∀ i (h : i < l.length), rd l (i : Int) = l[i] := fun i h => by simp [rd, List.getD_eq_getElem?_getD, List.getElem?_eq_getElem h]
  have inj : ∀ i j, i < j → j < l.length → rd l (i : Int) ≠ rd l (j : Int) := fun i j hij hj e => by
    rw [rdg i (by omega), rdg j hj] at e
    exact List.pairwise_iff_getElem.1 hn i j (by omega) hj hij e
  constructor
  · simp only [handOf, List.map_cons, List.map_nil, List.nodup_cons, List.mem_cons, List.not_mem_nil, or_false, not_or]
    refine ⟨⟨?_, ?_, ?_, ?_⟩, ⟨?_, ?_, ?_⟩, ⟨?_, ?_⟩, ?_, ?_⟩ <;> first | exact inj _ _ (by omega) (by omega) | simp
  · intro x hx
    simp only [handOf, List.mem_map] at hx
    obtain ⟨i, hi, rfl⟩ := hx
    have : i < l.length := by simp at hi; omega
    exact hr _ (by rw [rdg i this]; exact List.getElem_mem this)
def chk (l : List Int) : Int := if ∀ x ∈ l, 0 ≤ x ∧ x < 52 then (if l.Nodup then 0 else 6) else 3
theorem chk_f (l : List Int) : poker_check.f l = some (chk l) := by
  unfold poker_check.f chk
  have : (l.all poker_check.ok = true) ↔ ∀ x ∈ l, 0 ≤ x ∧ x < 52 := by simp [poker_check.ok, List.all_eq_true]
  simp only [this]
theorem chk_0 (l : List Int) (h : chk l = 0) : (∀ x ∈ l, 0 ≤ x ∧ x < 52) ∧ l.Nodup := by
  unfold chk at h
  by_cases h1 : ∀ x ∈ l, 0 ≤ x ∧ x < 52
  · rw [if_pos h1] at h
    by_cases h2 : l.Nodup
    · exact ⟨h1, h2⟩
    · rw [if_neg h2] at h; omega
  · rw [if_neg h1] at h; omega
theorem bf_ev (l : List Int) (hl : l.length = 7) (hr : ∀ x ∈ l, 0 ≤ x ∧ x < 52) (hn : l.Nodup) : Ev (fun k => gameroomref_BestFive.f k l) (bestF l (picks 7 5 0)) := by
  have hb := best_ev l 7 hl (by omega) (fun i0 i1 i2 i3 i4 h0 h1 h2 h3 h4 => by
    obtain ⟨a, b⟩ := sublist_nodup l hn hr 7 hl i0 i1 i2 i3 i4 h0 h1 h2 h3 h4
    exact hv_ev okV_all _ rfl b a)
  rw [hl] at hb
  exact hb
/-! the value of seven cards does not depend on the order of the last two -/
theorem cnt_perm {h h' : List Int} (p : h.Perm h') : cnt h = cnt h' := by
  unfold cnt
  apply List.map_congr_left
  intro r _
  rw [p.countP_eq]
theorem pval_swap (a b c x y : Int) : pval [a, b, c, x, y] = pval [a, b, c, y, x] := by
  have p : [a, b, c, x, y].Perm [a, b, c, y, x] := List.Perm.cons _ (List.Perm.cons _ (List.Perm.cons _ (List.Perm.swap _ _ _)))
  have h1 := cnt_perm p
  have h2 : fl (rd [a, b, c, x, y] 0) [a, b, c, x, y] = fl (rd [a, b, c, y, x] 0) [a, b, c, y, x] := by
    have e : rd [a, b, c, x, y] 0 = a := rfl
    have e' : rd [a, b, c, y, x] 0 = a := rfl
    rw [e, e']
    unfold fl
    simp only [List.all_cons, List.all_nil, Bool.and_true]
    cases (x % 4 == a % 4) <;> cases (y % 4 == a % 4) <;> rfl
  unfold pval
  rw [h1, h2]
theorem foldB (hs : List (List Int)) : ∀ s : Int × List Int, (hs.foldl stepB s).1 = hs.foldl (fun m h => if pval h > m then pval h else m) s.1 := by
  induction hs with
  | nil => intro s; rfl
  | cons h t ih =>
    intro s
    simp only [List.foldl_cons]
    rw [ih]
    congr 1
    unfold stepB
    split <;> rfl
theorem fold_le (hs : List (List Int)) (c : Int) : ∀ m : Int, hs.foldl (fun m h => if pval h > m then pval h else m) m ≤ c ↔ m ≤ c ∧ ∀ h ∈ hs, pval h ≤ c := by
  induction hs with
  | nil => intro m; simp
  | cons h t ih =>
    intro m
    simp only [List.foldl_cons, ih, List.mem_cons, forall_eq_or_imp]
    constructor
    · rintro ⟨h1, h2⟩
      split at h1
      · exact ⟨by omega, by omega, h2⟩
      · exact ⟨by omega, by omega, h2⟩
    · rintro ⟨h1, h2, h3⟩
      split
      · exact ⟨h2, h3⟩
      · exact ⟨h1, h3⟩
def bv (l : List Int) : Int := (bestF l (picks 7 5 0)).1
theorem bv_le (l : List Int) (c : Int) : bv l ≤ c ↔ -1 ≤ c ∧ ∀ ix ∈ picks 7 5 0, pval (handOf l ix) ≤ c := by
  unfold bv bestF
  rw [foldB, fold_le]
  simp
def sw (ix : List Nat) : List Nat := if 5 ∈ ix ∧ 6 ∈ ix then ix else ix.map fun i => if i = 5 then 6 else if i = 6 then 5 else i
theorem sw_mem : ∀ ix ∈ picks 7 5 0, sw ix ∈ picks 7 5 0 := by decide
theorem sw_val (a b c d e x y : Int) : ∀ ix ∈ picks 7 5 0, pval (handOf [a, b, c, d, e, x, y] ix) = pval (handOf [a, b, c, d, e, y, x] (sw ix)) := by
  intro ix hix
  have hp : picks 7 5 0 = [[0, 1, 2, 3, 4], [0, 1, 2, 3, 5], [0, 1, 2, 3, 6], [0, 1, 2, 4, 5], [0, 1, 2, 4, 6], [0, 1, 2, 5, 6], [0, 1, 3, 4, 5], [0, 1, 3, 4, 6], [0, 1, 3, 5, 6], [0, 1, 4, 5, 6], [0, 2, 3, 4, 5], [0, 2, 3, 4, 6], [0, 2, 3, 5, 6], [0, 2, 4, 5, 6], [0, 3, 4, 5, 6], [1, 2, 3, 4, 5], [1, 2, 3, 4, 6], [1, 2, 3, 5, 6], [1, 2, 4, 5, 6], [1, 3, 4, 5, 6], [2, 3, 4, 5, 6]] := by decide
  rw [hp] at hix
  simp only [List.mem_cons, List.not_mem_nil, or_false] at hix
  rcases hix with rfl | rfl | rfl | rfl | rfl | rfl | rfl | rfl | rfl | rfl | rfl | rfl | rfl | rfl | rfl | rfl | rfl | rfl | rfl | rfl | rfl
  all_goals first
    | exact congrArg pval rfl
    | exact pval_swap _ _ _ _ _
theorem bv_swap (p : List Int) (x y : Int) (h : p.length = 5) : bv (p ++ [x, y]) = bv (p ++ [y, x]) := by
  obtain ⟨a, b, c, d, e, rfl⟩ : ∃ a b c d e, p = [a, b, c, d, e] := by
    match p, h with
    | [a, b, c, d, e], _ => exact ⟨a, b, c, d, e, rfl⟩
  have key : ∀ x y : Int, bv [a, b, c, d, e, x, y] ≤ bv [a, b, c, d, e, y, x] := by
    intro x y
    have h2 := (bv_le [a, b, c, d, e, y, x] _).1 (Int.le_refl _)
    rw [bv_le]
    refine ⟨h2.1, fun ix hix => ?_⟩
    rw [sw_val a b c d e x y ix hix]
    exact h2.2 _ (sw_mem ix hix)
  exact Int.le_antisymm (key x y) (key y x)
end Go.Proofs.Ytpcmodmghpijeaa.Pure
namespace Go.Proofs.Ytpcmodmghpijeaa.Pure
open Go.RowKit Go.Proofs.Ytpcmodmghpijeaa.Q Go.Proofs.YtpcmodmghpijeaaW.PrintWords Go.Proofs.YtpcmodmghpijeaaW.PrintLast
set_option linter.unusedVariables false
def gG (a b t u : List Int) : Bool := decide (bv (a ++ (t ++ u)) > bv (b ++ (t ++ u)))
def gE (a b t u : List Int) : Bool := decide (bv (a ++ (t ++ u)) = bv (b ++ (t ++ u)))
theorem runS_cnt (a b t : List Int) : ∀ (xs : List (List Int)) (s : Int × Int × Int), runS a b t s xs = (s.1 + xs.length, s.2.1 + xs.countP (gG a b t), s.2.2 + xs.countP (gE a b t))
  | [], s => by simp [runS]
  | x :: xs, s => by
    have h := runS_cnt a b t xs (stepS a b s (t ++ x))
    have e : runS a b t s (x :: xs) = runS a b t (stepS a b s (t ++ x)) xs := by simp [runS]
    rw [e, h]
    simp only [stepS, List.length_cons, List.countP_cons]
    by_cases hg : bv (a ++ (t ++ x)) > bv (b ++ (t ++ x))
    · have h1 : gG a b t x = true := decide_eq_true hg
      have h2 : gE a b t x = false := decide_eq_false (by omega)
      have hg' : (bestF (a ++ (t ++ x)) (picks 7 5 0)).1 > (bestF (b ++ (t ++ x)) (picks 7 5 0)).1 := hg
      simp only [if_pos hg', h1, h2]
      simp
      omega
    · have h1 : gG a b t x = false := decide_eq_false hg
      have hg' : ¬ (bestF (a ++ (t ++ x)) (picks 7 5 0)).1 > (bestF (b ++ (t ++ x)) (picks 7 5 0)).1 := hg
      by_cases he : bv (a ++ (t ++ x)) = bv (b ++ (t ++ x))
      · have h2 : gE a b t x = true := decide_eq_true he
        have he' : (bestF (a ++ (t ++ x)) (picks 7 5 0)).1 = (bestF (b ++ (t ++ x)) (picks 7 5 0)).1 := he
        simp only [if_neg hg', if_pos he', h1, h2]
        simp
        omega
      · have h2 : gE a b t x = false := decide_eq_false he
        have he' : ¬ (bestF (a ++ (t ++ x)) (picks 7 5 0)).1 = (bestF (b ++ (t ++ x)) (picks 7 5 0)).1 := he
        simp only [if_neg hg', if_neg he', h1, h2]
        simp
        omega
/-! the program's fills and the reference's -/
def LK (K : List Int) (s : Nat) : List Int := ((List.range' s (52 - s)).filter fun (c : Nat) => decide (¬ (c : Int) ∈ K)).map fun (c : Nat) => (c : Int)
def pairsU : List Int → List (List Int)
  | [] => []
  | x :: r => r.map (fun y => [x, y]) ++ pairsU r
theorem fills1 (K : List Int) (s : Nat) : fillsF K 1 s = (LK K s).map fun c => [c] := by
  unfold fillsF LK
  simp only [fillsF]
  generalize List.range' s (52 - s) = l
  induction l with
  | nil => rfl
  | cons c t ih =>
    rw [List.flatMap_cons, ih]
    by_cases h : (c : Int) ∈ K
    · simp [h]
    · simp [h]
theorem LK_step (K : List Int) (s : Nat) (h : s < 52) : LK K s = if (s : Int) ∈ K then LK K (s + 1) else (s : Int) :: LK K (s + 1) := by
  unfold LK
  rw [show 52 - s = (52 - (s + 1)) + 1 by omega, List.range'_succ]
  by_cases hk : (s : Int) ∈ K
  · simp [hk]
  · simp [hk]
theorem LK_end (K : List Int) (s : Nat) (h : 52 ≤ s) : LK K s = [] := by
  unfold LK
  rw [show 52 - s = 0 by omega]
  rfl
theorem fills2 (K : List Int) : ∀ (d s : Nat), s + d = 52 → fillsF K 2 s = pairsU (LK K s)
  | 0, s, h => by
    rw [LK_end K s (by omega)]
    unfold fillsF
    rw [show 52 - s = 0 by omega]
    rfl
  | d + 1, s, h => by
    have ih := fills2 K d (s + 1) (by omega)
    have e : fillsF K 2 s = (if (s : Int) ∈ K then [] else (fillsF K 1 (s + 1)).map ((s : Int) :: ·)) ++ fillsF K 2 (s + 1) := by
      conv => lhs; unfold fillsF
      conv => rhs; rhs; unfold fillsF
      rw [show 52 - s = (52 - (s + 1)) + 1 by omega, List.range'_succ, List.flatMap_cons]
    rw [e, ih, LK_step K s (by omega), fills1]
    by_cases hk : (s : Int) ∈ K
    · simp [hk]
    · simp [hk, pairsU]
def pairsR (l : List Int) : Nat → List (List Int)
  | 0 => []
  | i + 1 => pairsR l i ++ (l.take i).map (fun y => [rd l i, y])
theorem pairsU_snoc (f : List Int → Bool) (z : Int) : ∀ l : List Int, (pairsU (l ++ [z])).countP f = (pairsU l).countP f + l.countP (fun y => f [y, z])
  | [] => by simp [pairsU]
  | x :: r => by
    have ih := pairsU_snoc f z r
    simp only [List.cons_append, pairsU, List.countP_append, List.map_append, List.countP_cons, ih, List.map_cons, List.map_nil, List.countP_nil]
    omega
theorem pairs_cnt (f : List Int → Bool) (hf : ∀ x y, f [x, y] = f [y, x]) (l : List Int) : ∀ i, i ≤ l.length → (pairsR l i).countP f = (pairsU (l.take i)).countP f
  | 0, _ => by simp [pairsR, pairsU]
  | i + 1, h => by
    rw [pairsR, List.countP_append, pairs_cnt f hf l i (by omega), poker_check.take_succ l i (by omega), pairsU_snoc, List.countP_map]
    congr 1
    apply List.countP_congr
    intro y _
    simp only [Function.comp]
    rw [hf]
theorem pairs_len (l : List Int) : ∀ i, i ≤ l.length → (pairsR l i).length = (pairsU (l.take i)).length := fun i h => by
  have := pairs_cnt (fun _ => true) (fun _ _ => rfl) l i h
  simpa using this
theorem gG_sym (a b t : List Int) (ha : a.length = 2) (hb : b.length = 2) (ht : t.length = 3) (x y : Int) : gG a b t [x, y] = gG a b t [y, x] := by
  unfold gG
  have e1 := bv_swap (a ++ t) x y (by simp; omega)
  have e2 := bv_swap (b ++ t) x y (by simp; omega)
  simp only [List.append_assoc] at e1 e2
  rw [e1, e2]
theorem gE_sym (a b t : List Int) (ha : a.length = 2) (hb : b.length = 2) (ht : t.length = 3) (x y : Int) : gE a b t [x, y] = gE a b t [y, x] := by
  unfold gE
  have e1 := bv_swap (a ++ t) x y (by simp; omega)
  have e2 := bv_swap (b ++ t) x y (by simp; omega)
  simp only [List.append_assoc] at e1 e2
  rw [e1, e2]
/-! the reference's loops -/
def good (l : List Int) : Prop := l.length = 7 ∧ (∀ x ∈ l, 0 ≤ x ∧ x < 52) ∧ l.Nodup
theorem rdL1 (xs : List (List Int)) (i : Nat) (h : i < xs.length) : rd_L1 xs (i : Int) = xs[i] := by
  simp [rd_L1, List.getD_eq_getElem?_getD, List.getElem?_eq_getElem h]
theorem l4_evs (a b t : List Int) (ha : a.length = 2) (hb : b.length = 2) (ht : t.length ≤ 5) (xs : List (List Int)) (hx : ∀ u ∈ xs, good (a ++ (t ++ u)) ∧ good (b ++ (t ++ u))) (hxl : xs.length ≤ 10000) :
    ∀ (d i : Nat) (x15 x16 : Int), i + d = xs.length → 0 ≤ x15 → x15 ≤ i → 0 ≤ x16 → x16 ≤ i →
    Ev (fun k => gameroomref_ShowdownOf.l4 k a b t xs x15 x16 (i : Int)) (x15 + (xs.drop i).countP (gG a b t), x16 + (xs.drop i).countP (gE a b t), (xs.length : Int)) := by
  intro d
  induction d with
  | zero =>
    intro i x15 x16 hi h1 h2 h3 h4
    rw [List.drop_of_length_le (by omega)]
    simp only [List.countP_nil, Int.natCast_zero, Int.add_zero]
    refine Ev.const fun k => ?_
    unfold gameroomref_ShowdownOf.l4
    rw [if_neg (by omega)]
  | succ d ih =>
    intro i x15 x16 hi h1 h2 h3 h4
    have hlt : i < xs.length := by omega
    obtain ⟨u, hu⟩ : ∃ u, xs[i] = u := ⟨_, rfl⟩
    obtain ⟨g1, g2⟩ := hx u (by rw [← hu]; exact List.getElem_mem hlt)
    have hdrop : xs.drop i = u :: xs.drop (i + 1) := by rw [List.drop_eq_getElem_cons hlt, hu]
    have hul : u.length ≤ 5 := by
      have := g1.1
      simp at this
      omega
    have b1 := bf_ev _ g1.1 g1.2.1 g1.2.2
    have b2 := bf_ev _ g2.1 g2.2.1 g2.2.2
    refine Ev.bind b1 (H := fun bt194 k => (gameroomref_BestFive.f k (b ++ (t ++ u))).bind fun bt204 => (if bt194.1 > bt204.1 then (if bt194.1 = bt204.1 then (gameroomref_ShowdownOf.l4 k a b t xs (x15 + 1) (x16 + 1) ((i : Int) + 1)) else (gameroomref_ShowdownOf.l4 k a b t xs (x15 + 1) x16 ((i : Int) + 1))) else (if bt194.1 = bt204.1 then (gameroomref_ShowdownOf.l4 k a b t xs x15 (x16 + 1) ((i : Int) + 1)) else (gameroomref_ShowdownOf.l4 k a b t xs x15 x16 ((i : Int) + 1))))) ?_ fun k => ?_
    · obtain ⟨k2, hk2⟩ := b2
      have fin : Ev (fun k => (if bv (a ++ (t ++ u)) > bv (b ++ (t ++ u)) then (if bv (a ++ (t ++ u)) = bv (b ++ (t ++ u)) then (gameroomref_ShowdownOf.l4 k a b t xs (x15 + 1) (x16 + 1) ((i : Int) + 1)) else (gameroomref_ShowdownOf.l4 k a b t xs (x15 + 1) x16 ((i : Int) + 1))) else (if bv (a ++ (t ++ u)) = bv (b ++ (t ++ u)) then (gameroomref_ShowdownOf.l4 k a b t xs x15 (x16 + 1) ((i : Int) + 1)) else (gameroomref_ShowdownOf.l4 k a b t xs x15 x16 ((i : Int) + 1))))) (x15 + (xs.drop i).countP (gG a b t), x16 + (xs.drop i).countP (gE a b t), (xs.length : Int)) := by
        rw [hdrop]
        simp only [List.countP_cons]
        by_cases hg : bv (a ++ (t ++ u)) > bv (b ++ (t ++ u))
        · have e1 : gG a b t u = true := decide_eq_true hg
          have e2 : gE a b t u = false := decide_eq_false (by omega)
          simp only [if_pos hg, if_neg (show ¬ bv (a ++ (t ++ u)) = bv (b ++ (t ++ u)) by omega), e1, e2, if_true, Bool.false_eq_true, if_false]
          have := ih (i + 1) (x15 + 1) x16 (by omega) (by omega) (by omega) (by omega) (by omega)
          rw [show x15 + 1 + ((xs.drop (i + 1)).countP (gG a b t) : Int) = x15 + (((xs.drop (i + 1)).countP (gG a b t) + 1 : Nat) : Int) by omega] at this
          exact_mod_cast this
        · have e1 : gG a b t u = false := decide_eq_false hg
          by_cases he : bv (a ++ (t ++ u)) = bv (b ++ (t ++ u))
          · have e2 : gE a b t u = true := decide_eq_true he
            simp only [if_neg hg, if_pos he, e1, e2, if_true, Bool.false_eq_true, if_false]
            have := ih (i + 1) x15 (x16 + 1) (by omega) (by omega) (by omega) (by omega) (by omega)
            rw [show x16 + 1 + ((xs.drop (i + 1)).countP (gE a b t) : Int) = x16 + (((xs.drop (i + 1)).countP (gE a b t) + 1 : Nat) : Int) by omega] at this
            exact_mod_cast this
          · have e2 : gE a b t u = false := decide_eq_false he
            simp only [if_neg hg, if_neg he, e1, e2, Bool.false_eq_true, if_false]
            have := ih (i + 1) x15 x16 (by omega) (by omega) (by omega) (by omega) (by omega)
            exact_mod_cast this
      obtain ⟨k3, hk3⟩ := fin
      refine ⟨k2 + k3, fun k hk => ?_⟩
      have h2 := hk2 k (by omega)
      have h3 := hk3 k (by omega)
      simp only [h2, Option.bind_some]
      exact h3
    · conv => lhs; unfold gameroomref_ShowdownOf.l4
      have e1 : gameroomref_Ints.f t = some t := by
        unfold gameroomref_Ints.f
        rw [if_pos (by simp; omega)]
        rfl
      have e2 : gameroomref_Ints.f a = some a := by
        unfold gameroomref_Ints.f
        rw [if_pos (by simp; omega)]
        rfl
      have e3 : gameroomref_Ints.f b = some b := by
        unfold gameroomref_Ints.f
        rw [if_pos (by simp; omega)]
        rfl
      rw [if_pos (by omega), e1]
      simp only [Option.bind_some]
      rw [if_pos (by omega), rdL1 xs i hlt, hu, if_pos (by omega), e2]
      simp only [Option.bind_some]
      rw [if_pos (by simp; omega), w64 _ (by omega) (by omega), w64 _ (by omega) (by omega), w64 _ (by omega) (by omega)]
      have e4 : b.length + (t ++ u).length < 17592186044416 := by simp; omega
      simp only [e3, Option.bind_some, if_pos e4]
end Go.Proofs.Ytpcmodmghpijeaa.Pure
