import Derived.Sort.OwnSortedInts
import Derived.Shelf.SlSortCmp.Insertion
namespace Go.Proofs.Ytpcmodmghpijeaa.Q
open Go Go.RowKit Go.Sort Go.Proofs Go.ChangeShapes Go.WideShapes
set_option linter.unusedVariables false
section
variable {α : Type} [Inhabited α] (enc : α → Value)
theorem holds_of_blockG {w : World} {g : Nat} {cur : Array Value} {e : TypeId} {ss : Array α} (hb : w.heap[g]? = some (.cells cur e (0, 0))) (ht : cur.toList.take ss.size = ss.toList.map enc) : Holds enc w g 0 ss := by
  intro j hj
  refine ⟨?_, by simp [World.frozen?, hb]⟩
  have h1 : (cur.toList.take ss.size)[j]? = (ss.toList.map enc)[j]? := by rw [ht]
  rw [List.getElem?_take_of_lt hj] at h1
  simp only [World.cell?, hb, Nat.zero_add]
  simp only [Option.isSome_none, Bool.false_eq_true, if_false]
  rw [← Array.getElem?_toList, h1]
  simp [hj]
theorem heap_sortedG {w : World} {g n : Nat} {os : Array Obj} {cur : Array Value} {e : TypeId} {fr : Nat × Nat} (d : Array α) (hb : w.heap[g]? = some (.cells cur e fr)) :
    (grow (putRow enc (Sort.ahead w n) g 0 d) os).heap[g]? = some (.cells (putCells enc 0 d cur) e fr) := by
  have hg : g < w.heap.size := (Array.getElem?_eq_some_iff.1 hb).1
  rw [heap_grow_old _ _ (by simpa using hg)]
  simp [putRow, mapBlock, Sort.ahead, Array.getElem?_modify, hb, onCells]
theorem grownBy_sortedG {w : World} {g n : Nat} {os : Array Obj} (d : Array α) : w.grownBy (grow (putRow enc (Sort.ahead w n) g 0 d) os) (some g) := by
  refine ⟨rfl, rfl, rfl, by simp, fun k hk hne => ?_⟩
  rw [heap_grow_old _ _ (by simpa using hk)]
  have : g ≠ k := fun e => hne (by rw [e])
  simp [putRow, mapBlock, Sort.ahead, Array.getElem?_modify, this]
theorem take_putCellsG (cur : Array Value) (ts : Array α) (h : ts.size ≤ cur.size) : (putCells enc 0 ts cur).toList.take ts.size = ts.toList.map enc := by
  apply List.ext_getElem?
  intro j
  by_cases hj : j < ts.size
  · rw [List.getElem?_take_of_lt hj, Array.getElem?_toList]
    simp [putCells, hj, show j < cur.size by omega]
  · rw [List.getElem?_take_eq_none (by omega), List.getElem?_eq_none (by simp; omega)]
theorem ownsRow_sortedG {w : World} {base g cap n m : Nat} {e : TypeId} {os : Array Obj} {cur : Array Value} {ts : Array α} (hl : ts.size = m) (hbase : base ≤ g) (hb : w.heap[g]? = some (.cells cur e (0, 0)))
    (h1 : m ≤ cap) (h2 : cap ≤ maxLen) (h3 : cur.size = cap * 1) :
    (grow (putRow enc (Sort.ahead w n) g 0 ts) os).ownsRow base e 1 (.slice (some ⟨g, 0, none⟩) m cap) m (ts.toList.map enc) :=
  ⟨by simp [hl], .inr ⟨g, cap, _, rfl, hbase, heap_sortedG enc _ hb, h1, h2, by simp [putCells, h3], by rw [Nat.mul_one, ← hl]; exact take_putCellsG enc cur ts (by omega)⟩⟩
theorem sortWorld_blk {w : World} {g q : Nat} {dk : Array α} {os : Array Obj} {B : Nat} {o : Obj} (hB : w.heap[B]? = some o) (hne : B ≠ g) : (sortWorld enc w g 0 q dk os).heap[B]? = some o :=
  blk_of_grown (grownBy_sortedG enc (n := q) (os := os) dk) hB (fun e => hne (by injection e))
where blk_of_grown {w w1 : World} {g : Nat} {o : Obj} {row : Option Nat} (hg : w.grownBy w1 row) (h : w.heap[g]? = some o) (hne : some g ≠ row) : w1.heap[g]? = some o := (hg.block g (Array.getElem?_eq_some_iff.1 h).1 hne).trans h
end
end Go.Proofs.Ytpcmodmghpijeaa.Q
