/- What the walks of layer 3's statements carry from call to call: the graphs in their blocks. -/
import Derived.Test.YtkgfepnkikcpiaaDoorM7
import Derived.Deep.RegionHeld3
import Derived.Deep.MidRow
namespace Go.Proofs.YtkgfepnkikcpiaaDoor
open Go.RowKit
open PSet PMat PWay

/-- The graphs of a list lie in their blocks; what was below is as it was. -/
def Held (w : World) (l : List (Nat × List Nat)) (X : World) : Prop := (∀ p, p ∈ l → Nums X p.1 43 p.2) ∧ Below w.heap.size w X
theorem Held.to {w X Y : World} {l : List (Nat × List Nat)} (k : Held w l X) (hb : Below X.heap.size X Y) : Held w l Y :=
  ⟨fun p hp => (k.1 p hp).below hb (k.1 p hp).lt, k.2.trans (hb.mono k.2.size)⟩
theorem Held.store {w W : World} {l : List (Nat × List Nat)} (k : Held w l W) (n : List Nat) : Held w ((W.heap.size, n) :: l) ((W.alloc (.cells (numsV zeros) 43)).setRow W.heap.size (numsV n)) := by
  refine ⟨fun p hp => ?_, below_stored k.2 k.2.size _ _⟩
  rcases List.mem_cons.1 hp with rfl | hp
  · exact nums_stored n _ W
  · have h := k.1 p hp
    exact h.of_block (by rw [setRow_other _ _ _ _ (by have := h.lt; omega)]; exact Below.heap_alloc _ _ _ h.lt)
theorem Held.tab {w X : World} {l : List (Nat × List Nat)} (hT : Tab w) (k : Held w l X) : Tab X := Tab.below hT hT.pos k.2
theorem Held.nil {w X : World} (h : Below w.heap.size w X) : Held w [] X := ⟨fun _ hp => (List.not_mem_nil hp).elim, h⟩

/-- A call's world under a name of its own. -/
theorem calls_in {f : FuncId} {args : Array Value} {Q : Ending → World → Prop} {W : World} (φ : World → Prop) (hφ : φ W) (h : ∀ X, φ X → Calls Tryd.prog f args X Q) : Calls Tryd.prog f args W Q := h W hφ

theorem wpList_load_rmat {ops : Array Oper} {rest : List Oper} {o : Oper} {a : Act} {w : World} {Q : Exit → Act → World → Prop} (x : Operand) (ho : o.op = .load 41 x)
    (g : Nat) (n : List Nat) (hn : n.length = 32) (hx : a.eval x = .pointer (some ⟨g, 0, none⟩)) (hg : Nums w g 41 n) (hw : Region.wanted o (yielded ops a.tmps) = true)
    (h : wpList Tryd.prog ops Q rest (a.put o.dst (.agg (numsV n))) w) : wpList Tryd.prog ops Q (o :: rest) a w :=
  wpList_wanted hw fun _ hK => wp_load_row 41 x ho g hx 41 (numsV n) (0, 0) _ hg Tryd.underlying41 rfl (size_rmat hn) (hK _ _ h)
theorem nums_new41 (m : List Nat) (w : World) : Nums (w.alloc (.cells (numsV m) 41)) w.heap.size 41 m := heap_alloc_new _ _

/-- A graph's 32 values; in memory they are a row. -/
def valsV (m : List Nat) : List Value := m.map numV
theorem valsV_length (m : List Nat) : (valsV m).length = m.length := by simp [valsV]
theorem range_of_nums {X : World} {g : Nat} {m : List Nat} (h : Nums X g 43 m) : X.rangeAt g 0 (valsV m) := by
  intro j v hv
  rw [Nat.zero_add, cell_of_row X g j _ 43 _ h]
  simpa [numsV, valsV] using hv
theorem wpList_load_v {ops : Array Oper} {rest : List Oper} {o : Oper} {a : Act} {w : World} {Q : Exit → Act → World → Prop} (x : Operand) (ho : o.op = .load 43 x)
    (g : Nat) (n : List Nat) (hn : n.length = 32) (hx : a.eval x = .pointer (some ⟨g, 0, none⟩)) (hg : Nums w g 43 n) (hw : Region.wanted o (yielded ops a.tmps) = true)
    (h : wpList Tryd.prog ops Q rest (a.put o.dst (.agg (valsV n).toArray)) w) : wpList Tryd.prog ops Q (o :: rest) a w :=
  wpList_load_mat' x ho g n hn hx hg hw h
theorem wpList_store_v {ops : Array Oper} {rest : List Oper} {o : Oper} {a : Act} {w : World} {Q : Exit → Act → World → Prop} (hgd : o.guard = none) (x y : Operand) (ho : o.op = .store 43 x y)
    (g : Nat) (n : List Nat) (hn : n.length = 32) (hx : a.eval x = .pointer (some ⟨g, 0, none⟩)) (hy : a.eval y = .agg (valsV n).toArray) (old : List Nat) (hold : old.length = 32) (hg : Nums w g 43 old)
    (h : wpList Tryd.prog ops Q rest (a.put o.dst undef) (w.setRow g (numsV n))) : wpList Tryd.prog ops Q (o :: rest) a w :=
  wpList_store_mat hgd x y ho g n hn hx hy old hold hg h
theorem wpList_load_rv {ops : Array Oper} {rest : List Oper} {o : Oper} {a : Act} {w : World} {Q : Exit → Act → World → Prop} (x : Operand) (ho : o.op = .load 41 x)
    (g : Nat) (n : List Nat) (hn : n.length = 32) (hx : a.eval x = .pointer (some ⟨g, 0, none⟩)) (hg : Nums w g 41 n) (hw : Region.wanted o (yielded ops a.tmps) = true)
    (h : wpList Tryd.prog ops Q rest (a.put o.dst (.agg (valsV n).toArray)) w) : wpList Tryd.prog ops Q (o :: rest) a w :=
  wpList_load_rmat x ho g n hn hx hg hw h
theorem eq_v (m n : List Nat) (hm : m.length = 32) (hn : n.length = 32) (W : World) : (Op.equalIn 10000 43 (.agg (valsV m).toArray) (.agg (valsV n).toArray)).run Tryd.prog W = .ok (decide (m = n)) W := run_equalIn_mat m n W hm hn
theorem req_v (m n : List Nat) (hm : m.length = 32) (hn : n.length = 32) (W : World) : (Op.equalIn 10000 41 (.agg (valsV m).toArray) (.agg (valsV n).toArray)).run Tryd.prog W = .ok (decide (m = n)) W := run_equalIn_rmat m n W hm hn
theorem sizeV {m : List Nat} (h : m.length = 32) : (Tryd.prog.info? 43).map (·.size) = some (valsV m).length := by rw [valsV_length, h]; exact size43

theorem outs_v (m : List Nat) (a : Int) (W : World) (hm : Mat m) : Calls Tryd.prog 39 #[.agg (valsV m).toArray, .int .i64 a] W fun e w' => e = .returned (.int .u64 (outsN m a : Nat)) ∧ Below W.heap.size W w' := outs_any m a W hm
theorem ins_v (m : List Nat) (a : Int) (W : World) (hm : Mat m) : Calls Tryd.prog 41 #[.agg (valsV m).toArray, .int .i64 a] W fun e w' => e = .returned (.int .u64 (insN m a : Nat)) ∧ Below W.heap.size W w' := ins_any m a W hm
theorem mhas_v (m : List Nat) (a b : Int) (W : World) (hm : Mat m) : Calls Tryd.prog 37 #[.agg (valsV m).toArray, .int .i64 a, .int .i64 b] W fun e w' => e = .returned (.bool (hasB (outsN m a) b)) ∧ Below W.heap.size W w' := mhas_any m a b W hm
theorem put_v (m : List Nat) (a b : Int) (W : World) (hm : Mat m) : Calls Tryd.prog 32 #[.agg (valsV m).toArray, .int .i64 a, .int .i64 b] W fun e w' => e = .returned (.tuple #[.agg (valsV (putN m a b)).toArray, .bool (putB a b)]) ∧ Below W.heap.size W w' := put_any m a b W hm
theorem cut_v (m : List Nat) (a : Int) (W : World) (hm : Mat m) : Calls Tryd.prog 35 #[.agg (valsV m).toArray, .int .i64 a] W fun e w' => e = .returned (.agg (valsV (cutN m a)).toArray) ∧ Below W.heap.size W w' := cut_any m a W hm
theorem reach_v (m : List Nat) (a : Int) (W : World) (hm : Mat m) (hT : Tab W) : Calls Tryd.prog 43 #[.agg (valsV m).toArray, .int .i64 a] W fun e w' => e = .returned (.int .u64 (reachN m a : Nat)) ∧ Below W.heap.size W w' := reach_any m a W hm hT
theorem back_v (m : List Nat) (a : Int) (W : World) (hm : Mat m) (hT : Tab W) : Calls Tryd.prog 45 #[.agg (valsV m).toArray, .int .i64 a] W fun e w' => e = .returned (.int .u64 (backN m a : Nat)) ∧ Below W.heap.size W w' := back_any m a W hm hT
theorem free_v (m : List Nat) (W : World) (hm : Mat m) (hT : Tab W) : Calls Tryd.prog 46 #[.agg (valsV m).toArray] W fun e w' => e = .returned (.bool (freeB m)) ∧ Below W.heap.size W w' := free_any m W hm hT
theorem theirs_v (m : List Nat) (W : World) (hm : m.length = 32) : Calls Tryd.prog 31 #[.agg (valsV m).toArray] W fun e w' => e = .returned (.agg (valsV m).toArray) ∧ Below W.heap.size W w' := theirs_any m W hm
theorem ours_v (m : List Nat) (W : World) (hm : m.length = 32) : Calls Tryd.prog 34 #[.agg (valsV m).toArray] W fun e w' => e = .returned (.agg (valsV m).toArray) ∧ Below W.heap.size W w' := ours_any m W hm

/-- A graph with an edge more, without a node's, is a graph. -/
theorem putN_Mat {m : List Nat} (h : Mat m) (a b : Int) : Mat (putN m a b) := by
  unfold putN
  split
  · refine mat_of (by rw [List.length_set]; exact h.1) fun x hx => ?_
    rcases List.mem_or_eq_of_mem_set hx with hx | rfl
    · exact mem_of_mat h x hx
    · exact withN_lt (h.2 _) _
  · exact h
theorem cutN_Mat {m : List Nat} (h : Mat m) (a : Int) : Mat (cutN m a) := by
  unfold cutN
  split
  · have hc := cutTo_Mat h a 32
    refine mat_of (by rw [List.length_set]; exact hc.1) fun x hx => ?_
    rcases List.mem_or_eq_of_mem_set hx with hx | rfl
    · exact mem_of_mat hc x hx
    · exact Nat.lt_of_le_of_lt Nat.and_le_left (hc.2 _)
  · exact h
end Go.Proofs.YtkgfepnkikcpiaaDoor
