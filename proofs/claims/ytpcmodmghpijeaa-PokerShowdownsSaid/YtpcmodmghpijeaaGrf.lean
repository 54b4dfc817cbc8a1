import Derived.RangeFuncNested
import Derived.RangeFuncBound
import Derived.RangeFuncCalls
import Derived.RangeFuncLeaves
import Derived.Shelf.Abstract
import Derived.Shelf.RegionOpen
import Derived.WalkKit
import Derived.OwnWalkIn
import Derived.TacticsInMore
import Derived.LoopNIn
import Derived.LoopIn
import Derived.Test.YtpcmodmghpijeaaQ0
namespace Go.Proofs.Ytpcmodmghpijeaa.Q
open Go.RowKit Go.Shelf Go.Proofs.YtpcmodmghpijeaaW.PrintWords Go.Proofs.YtpcmodmghpijeaaW.PrintLast Go.Proofs.YtpcmodmghpijeaaW.PrintMore
set_option linter.unusedVariables false
/-- Whatever lay in A lies so in B, but for the blocks of E. -/
structure SameBut (E : List Nat) (A B : World) : Prop where
  os : B.os = A.os
  tape : B.tape = A.tape
  output : B.output = A.output
  size : A.heap.size ≤ B.heap.size
  same : ∀ k, k < A.heap.size → k ∉ E → B.heap[k]? = A.heap[k]?
namespace SameBut
theorem refl (E : List Nat) (A : World) : SameBut E A A := ⟨rfl, rfl, rfl, Nat.le_refl _, fun _ _ _ => rfl⟩
theorem trans {E : List Nat} {A B C : World} (h : SameBut E A B) (k : SameBut E B C) : SameBut E A C := ⟨k.os.trans h.os, k.tape.trans h.tape, k.output.trans h.output, Nat.le_trans h.size k.size, fun i hi hE => (k.same i (Nat.lt_of_lt_of_le hi h.size) hE).trans (h.same i hi hE)⟩
theorem mono {E E' : List Nat} {A B : World} (h : SameBut E A B) (he : ∀ k ∈ E, k ∈ E') : SameBut E' A B := ⟨h.os, h.tape, h.output, h.size, fun i hi hE => h.same i hi (fun hm => hE (he i hm))⟩
theorem alloc {E : List Nat} {A B : World} (h : SameBut E A B) (o : Obj) : SameBut E A (B.alloc o) := ⟨h.os, h.tape, h.output, by simp; have := h.size; omega, fun i hi hE => (Below.heap_alloc B o i (Nat.lt_of_lt_of_le hi h.size)).trans (h.same i hi hE)⟩
theorem putObj {E : List Nat} {A B : World} (h : SameBut E A B) {l : Nat} (hl : l ∈ E) (o : Obj) : SameBut E A (B.putObj l o) := ⟨h.os, h.tape, h.output, by simp [World.putObj]; exact h.size, fun i hi hE => (World.putObj_heap_other (fun e => hE (by rw [e]; exact hl))).trans (h.same i hi hE)⟩
theorem setCell {E : List Nat} {A B : World} (h : SameBut E A B) (p : Addr) (hl : p.block ∈ E) (u : Value) : SameBut E A (B.setCell p u) := ⟨h.os, h.tape, h.output, by simp [World.setCell]; exact h.size, fun i hi hE => (Below.heap_setCell B p u i (fun e => hE (by rw [e]; exact hl))).trans (h.same i hi hE)⟩
theorem blk {E : List Nat} {A B : World} (h : SameBut E A B) {k : Nat} {o : Obj} (ho : A.heap[k]? = some o) (hE : k ∉ E) : B.heap[k]? = some o := (h.same k (blk_lt ho) hE).trans ho
theorem below {E : List Nat} {n₀ : Nat} {w A B : World} (h : SameBut E A B) (hb : Below n₀ w A) (hE : ∀ k ∈ E, n₀ ≤ k) (hn : n₀ ≤ A.heap.size) : Below n₀ w B :=
  ⟨h.os.trans hb.os, h.tape.trans hb.tape, h.output.trans hb.output, Nat.le_trans hb.size h.size, fun i hi => (h.same i (by omega) (fun hm => by have := hE i hm; omega)).trans (hb.block i hi)⟩
theorem of_below {n₀ : Nat} {A B : World} (h : Below n₀ A B) (hn : A.heap.size ≤ n₀) (E : List Nat) : SameBut E A B := ⟨h.os, h.tape, h.output, h.size, fun i hi _ => h.block i (by omega)⟩
end SameBut
/-- How a round's body is left: it goes on. -/
def postC {α : Type} (E : List Nat) (J : List α → World → Prop) (xs : List α) (W : World) : Exit → Act → World → Prop
  | .normal, _, W' => SameBut E W W' ∧ J xs W'
  | _, _, _ => False
/-- A range over a function whose body never leaves; the iterator's own cells and the caller's lie in one invariant. -/
theorem rfC {α : Type} {n : Nat} {P : Program} {g : Operand} {ps : Array Tmp} {assign body : Code} {Q : Exit → Act → World → Prop} {a : Act} {w : World} {gf : Nat} {lb : Array Value}
    (hg : a.eval g = .func (.func gf) #[] lb) (eg : ∀ args w, (callFunc gf args).run P w = .ok (.enter gf args) w)
    (encs : α → Array Value) (hps : ∀ x, (encs x).size = ps.size) (J : List α → World → Prop) (ok : α → Prop) (E : List Nat) (hEl : ∀ k ∈ E, k < w.heap.size)
    (hJ : ∀ pre A B, J pre A → SameBut [w.heap.size, w.heap.size + 1] A B → J pre B)
    (hround : ∀ (l : Nat) (pre : List α) (x : α) (W : World), l = w.heap.size + 1 → ok x → J pre W →
      assign.wpIn (Fence.wide.inRound l) n P (Exit.then (fun a₁ w₁ => SameBut E W w₁ ∧ ∀ w₂, SameBut [w.heap.size, w.heap.size + 1] w₁ w₂ → body.wpIn (Fence.wide.inRound l) n P (postC E J (pre ++ [x]) w₂) a₁ w₂) (fun _ _ _ => False))
        { tmps := (ps.zip (encs x)).foldl (fun t (p, v) => t.setIfInBounds p v) a.tmps, defers := [] } W)
    (xs : List α)
    (hcall : ∀ (W1 : World) (Rec : World → Prop), SameBut [] w W1 → W1.heap.size = w.heap.size + 2 → Rec W1 →
      (∀ A B, Rec A → B.heap[w.heap.size]? = A.heap[w.heap.size]? → B.heap[w.heap.size + 1]? = A.heap[w.heap.size + 1]? → Rec B) →
      (∀ pre x W, ok x → J pre W → Rec W → YieldAt Fence.wide n P (w.heap.size + 1) (encs x) W fun e W' =>
        e = .returned (.bool true) ∧ J (pre ++ [x]) W' ∧ Rec W' ∧ SameBut ((w.heap.size + 1) :: E) W W') →
      CallsIn Fence.wide n P gf (#[.func (.yield (w.heap.size + 1)) #[] #[]] ++ lb) W1 fun e W2 => (∃ v, e = .returned v) ∧ J xs W2 ∧ Rec W2)
    (hdone : ∀ (W : World), J xs W → W.heap[w.heap.size]? = some (.deferred (some [])) → Q .normal { a with defers := { target := .collected w.heap.size, args := #[] } :: a.defers } W) :
    (Code.rangeFunc g ps assign body).wpIn Fence.wide (n + 1) P Q a w := by
  refine wpIn_rangeFunc ?_
  intro fn hfn
  rw [show Fence.wide.round = none from rfl]
  obtain ⟨rec, hrec⟩ : ∃ rec : LoopState → Option Code → Loop, rec = fun st pe => { state := st, pending := pe, fn, tmps := a.tmps, params := ps, assign, body, defers := w.heap.size } := ⟨_, rfl⟩
  obtain ⟨W1, hW1⟩ : ∃ W1, (w.alloc (.deferred (some []))).alloc (.loop (rec .ready none)) = W1 := ⟨_, rfl⟩
  have hL1 : W1.heap[w.heap.size + 1]? = some (.loop (rec .ready none)) := by
    rw [← hW1]; have := World.alloc_heap_new (w.alloc (.deferred (some []))) (.loop (rec .ready none)); rwa [World.size_alloc] at this
  have hK1 : W1.heap[w.heap.size]? = some (.deferred (some [])) := by
    rw [← hW1]; exact (Below.heap_alloc _ _ _ (by simp)).trans (World.alloc_heap_new w _)
  refine ⟨w.heap.size + 1, [{ target := .collected w.heap.size, args := #[] }], W1, { target := .fn (.func gf) lb, args := #[.func (.yield (w.heap.size + 1)) #[] #[]] }, W1, gf,
    #[.func (.yield (w.heap.size + 1)) #[] #[]] ++ lb, W1, ?_, ?_, ?_, ?_, (fun h => by cases h), ?_⟩
  · rw [← hW1, hrec]; exact run_enterLoop_outer _ _ _ _ _
  · simp only [resolve, hg]
    simp [go_sem]
  · intro f' hf'; simp [Target.leads] at hf'; subst hf'; trivial
  · simp [invoke, go_sem, eg]
  · have hEn : ∀ k ∈ E, k ≠ w.heap.size ∧ k ≠ w.heap.size + 1 := fun k hk => by have := hEl k hk; omega
    refine (hcall W1 (fun W => W.heap[w.heap.size + 1]? = some (.loop (rec .ready none)) ∧ W.heap[w.heap.size]? = some (.deferred (some [])))
      (by rw [← hW1]; exact ((SameBut.refl _ _).alloc _).alloc _) (by rw [← hW1]; simp) ⟨hL1, hK1⟩ (fun A B hA h0 h1 => ⟨h1.trans hA.1, h0.trans hA.2⟩) ?_).mono ?_
    · rintro pre x W hok hj ⟨hl, hk⟩
      have hlt : w.heap.size + 1 < W.heap.size := (Array.getElem?_eq_some_iff.1 hl).1
      have hy := run_yield (P := P) (args := encs x) hl (by rw [hrec]; exact hps x)
      rw [hrec] at hy
      refine ⟨fn, _, assign, body, hy, roundIn_of_wpIn hfn (wpIn_mono (hround _ pre x W rfl hok hj) ?_)⟩
      rintro e a1 w1 hp
      cases e with
      | normal =>
        obtain ⟨hs1, hb1⟩ := hp
        have hl1 : w1.heap[w.heap.size + 1]? = _ := hs1.blk hl (fun h => (hEn _ h).2 rfl)
        have hk1 : w1.heap[w.heap.size]? = _ := hs1.blk hk (fun h => (hEn _ h).1 rfl)
        have hlt1 : w.heap.size + 1 < w1.heap.size := (Array.getElem?_eq_some_iff.1 hl1).1
        refine ⟨_, run_beginRound hl1 (by rw [hrec]), ?_⟩
        obtain ⟨W2, hW2⟩ : ∃ W2, w1.putObj (w.heap.size + 1) (.loop { rec .ready none with state := .busy }) = W2 := ⟨_, rfl⟩
        have hl2 : W2.heap[w.heap.size + 1]? = some (.loop { rec .ready none with state := .busy }) := by rw [← hW2]; exact World.putObj_heap_same hlt1
        have hk2 : W2.heap[w.heap.size]? = some (.deferred (some [])) := by rw [← hW2]; exact (World.putObj_heap_other (by omega)).trans hk1
        have hs2 : ∀ E', w.heap.size + 1 ∈ E' → SameBut E' w1 W2 := fun E' h => by rw [← hW2]; exact (SameBut.refl _ _).putObj h _
        rw [hW2]
        refine wpIn_mono (hb1 W2 (hs2 _ (by simp))) ?_
        rintro e a3 W3 hp
        cases e with
        | normal =>
          obtain ⟨hs3, hj3⟩ := hp
          have hl3 : W3.heap[w.heap.size + 1]? = _ := hs3.blk hl2 (fun h => (hEn _ h).2 rfl)
          have hk3 : W3.heap[w.heap.size]? = _ := hs3.blk hk2 (fun h => (hEn _ h).1 rfl)
          have hr := run_endRound (P := P) none hl3
          refine ⟨_, _, hr, rfl, ?_, ⟨?_, ?_⟩, ?_⟩
          · exact hJ _ _ _ hj3 ((SameBut.refl _ _).putObj (by simp) _)
          · rw [World.putObj_heap_same (Array.getElem?_eq_some_iff.1 hl3).1, hrec]; rfl
          · exact (World.putObj_heap_other (by omega)).trans hk3
          · exact (((hs1.mono (fun k h => List.mem_cons_of_mem _ h)).trans (hs2 _ (by simp))).trans (hs3.mono (fun k h => List.mem_cons_of_mem _ h))).putObj (by simp) _
        | _ => exact hp.elim
      | _ => exact hp.elim
    · rintro e W2 ⟨⟨v, rfl⟩, hj, hl, hk⟩
      exact ⟨none, _, by have := run_endLoop (P := P) hl (by rw [hrec]; simp); rw [hrec] at this; exact this, hdone _ (hJ _ _ _ hj ((SameBut.refl _ _).putObj (by simp) _)) ((World.putObj_heap_other (by omega)).trans hk)⟩
end Go.Proofs.Ytpcmodmghpijeaa.Q
