/- The walks of graph's good and slots, of an engine whose first slot alone is taken. The walk of graph's who. Many cells of a block set at once; the graph engine in its block. The walk of graph's Begin. The walk of graph's Write, of a transaction without steps. No conditions but those that each theorem names. -/
import Derived.Test.YteflpdhgojcmcaaGreatDoorU01
import Derived.Test.YteflpdhgojcmcaaGreatDoorU09
namespace Go.Proofs.YteflpdhgojcmcaaGreatDoor
open Go.RowKit PSet PMat
theorem grGood (g : Nat) (z : Int) (w : World) (h0 : w.cell? ⟨g, 0, none⟩ = some (.int .i64 z)) (hz : 0 < z) :
    Calls Tryz.prog 61 #[.pointer (some ⟨g, 0, none⟩)] w fun e w' => e = .returned (.bool true) ∧ w = w' := by
  go_enter Tryz.func61, Tryz.ntmps61
  go_wp2_with fail
  go_ret
  exact ⟨by simp, rfl⟩
set_option maxRecDepth 100000 in
theorem grSlots (g a b : Nat) (id : Int) (w : World) (h65 : w.cell? ⟨g, 65, none⟩ = some (.int .u64 a)) (h66 : w.cell? ⟨g, 66, none⟩ = some (.int .u64 b)) (h67 : w.cell? ⟨g, 67, none⟩ = some (.int .i64 id))
    (ha : a < 2 ^ 64) (hb : b < 2 ^ 64) (hab : a ||| b = 1) (hT : Tab w) :
    Calls Tryz.prog 342 #[.pointer (some ⟨g, 0, none⟩)] w fun e w' => ∃ r, e = .returned (.map (some r)) ∧ w.heap.size ≤ r ∧ w'.heap[r]? = some (.map #[{ key := .int .i64 id, val := .int .i64 0, born := 0 }] 1) ∧ Below w.heap.size w w' := by
  have hmm := @run_makeMap Tryz.prog
  have lg : g < w.heap.size := block_lt_of_cell h65
  have hor : bits .or .u64 (a : Int) (b : Int) = ((1 : Nat) : Int) := by rw [u64_or_nat a b ha hb, hab]
  have hb0 : Below w.heap.size w (w.alloc (.map #[] 0)) := (Below.refl _ _).alloc (Nat.le_refl _) _
  have e0 : (w.alloc (.map #[] 0)).heap[w.heap.size]? = some (.map #[] 0) := Go.heap_alloc_new _ _
  have C := Lib.hid (items_int 1 ((w.alloc (.map #[] 0)).drew) (by decide) (hT.below hT.pos hb0.drew))
  have i0 : itemsI 1 = [0] := by decide
  have k65 := (hb0.cell (p := ⟨g, 65, none⟩) lg).trans h65
  have k66 := (hb0.cell (p := ⟨g, 66, none⟩) lg).trans h66
  have k67 := (hb0.cell (p := ⟨g, 67, none⟩) lg).trans h67
  have K67 := Lib.hid k67
  have HB0 := Lib.hid hb0
  have E0 := Lib.hid e0
  have HOR := Lib.hid hor
  clear hT e0 hb0 hor h65 h66 h67 hab ha hb k67
  go_enter Tryz.func342, Tryz.ntmps342
  go_wp2_with fail
  have hS0 : (fun w' : World => w'.cell? ⟨g, 65, none⟩ = some (.int .u64 a) ∧ w'.cell? ⟨g, 66, none⟩ = some (.int .u64 b)) (w.alloc (.map #[] 0)).drew := ⟨k65, k66⟩
  refine wp_region_held_drew (S := fun w' => w'.cell? ⟨g, 65, none⟩ = some (.int .u64 a) ∧ w'.cell? ⟨g, 66, none⟩ = some (.int .u64 b)) (by kernel_rfl) hS0 (fun hHeld => ?_)
  clear hS0
  refine hd 0 (v := ?_) ?_ ?_
  rotate_left
  · rintro w ⟨hS1, hS2⟩; go_simp; try with_reducible rfl
  simp only [Act.put, pt1, pt2, pt3]
  refine hd 1 (v := ?_) ?_ ?_
  rotate_left
  · rintro w ⟨hS1, hS2⟩; go_simp; try with_reducible rfl
  simp only [Act.put, pt1, pt2, pt3]
  refine hd 2 (v := ?_) ?_ ?_
  rotate_left
  · rintro w ⟨hS1, hS2⟩; go_simp; try with_reducible rfl
  simp only [Act.put, pt1, pt2, pt3]
  refine hd 3 (v := ?_) ?_ ?_
  rotate_left
  · rintro w ⟨hS1, hS2⟩; go_simp; try with_reducible rfl
  simp only [Act.put, pt1, pt2, pt3]
  refine hd 4 (v := ?_) ?_ ?_
  rotate_left
  · rintro w ⟨hS1, hS2⟩; go_simp; try with_reducible rfl
  simp only [Act.put, pt1, pt2, pt3]
  refine hd 5 (v := ?_) ?_ ?_
  rotate_left
  · rintro w ⟨hS1, hS2⟩; go_simp; try with_reducible rfl
  simp only [Act.put, pt1, pt2, pt3]
  refine hd 6 (v := ?_) ?_ ?_
  rotate_left
  · rintro w ⟨hS1, hS2⟩; go_simp; try with_reducible rfl
  simp only [Act.put, pt1, pt2, pt3]
  refine hd 7 (v := ?_) ?_ ?_
  rotate_left
  · rintro w ⟨hS1, hS2⟩; go_simp; try with_reducible rfl
  simp only [Act.put, pt1, pt2, pt3]
  refine hd 8 (v := ?_) ?_ ?_
  rotate_left
  · rintro w ⟨hS1, hS2⟩; go_simp; try with_reducible rfl
  simp only [Act.put, pt1, pt2, pt3]
  refine hd 9 (v := ?_) ?_ ?_
  rotate_left
  · rintro w ⟨hS1, hS2⟩; go_simp; try with_reducible rfl
  simp only [Act.put, pt1, pt2, pt3]
  refine hd 10 (v := .int .u64 ((1 : Nat) : Int)) ?_ ?_
  · rintro w ⟨hS1, hS2⟩; go_simp; rw [HOR.out]; rfl
  simp only [Act.put, pt1, pt2, pt3]
  refine hd 13 (v := ?_) ?_ ?_
  rotate_left
  · rintro w ⟨hS1, hS2⟩; go_simp; try with_reducible rfl
  simp only [Act.put, pt1, pt2, pt3]
  refine hcl 11 (fun K hK => ?_)
  go_simp
  go_at_call 348
  refine (C.out).mono ?_
  rintro e y ⟨a4, c4, rfl, hI, hb4⟩
  rw [i0] at hI ⊢
  obtain ⟨b4, off4, ha4, hi4⟩ := hI 0 (by decide)
  subst ha4
  have q4 : y.cell? ⟨b4, off4, none⟩ = some (.int .i64 0) := hi4
  have m4 := (hb4.block w.heap.size (by simp)).trans E0.out
  have q65 := (hb4.cell (p := ⟨g, 65, none⟩) (by simp; omega)).trans k65
  have q66 := (hb4.cell (p := ⟨g, 66, none⟩) (by simp; omega)).trans k66
  have q67 := (hb4.cell (p := ⟨g, 67, none⟩) (by simp; omega)).trans K67.out
  have M4 := Lib.hid m4
  have HB := Lib.hid (HB0.out.drew.trans (hb4.mono HB0.out.drew.size))
  have Q67 := Lib.hid q67
  clear hb4 hI hi4 i0 m4 q67
  go_wp2_with fail
  refine hK.out _ _ ?_ (fun hHeld => ?_)
  · exact ⟨q65, q66⟩
  clear hK K
  try simp only [Act.put, pt1, pt2, pt3]
  refine hd 12 (v := ?_) ?_ ?_
  rotate_left
  · rintro w ⟨hS1, hS2⟩; go_simp; try with_reducible rfl
  simp only [Act.put, pt1, pt2, pt3]
  refine held_done (by kernel_rfl) ?_
  clear hHeld k65 k66 q65 q66
  have q67 := Q67.out
  have hmu := run_put_first 32 3 3 w.heap.size 0 (.int .i64 0) id y Tryz.underlying32 Tryz.underlying3 M4.out
  go_wp2_with fail
  refine wp_loop_rounds 2 ?_
  rw [rounds_succ]
  go_wp2_with fail
  rw [rounds_succ]
  go_wp2_with fail
  go_ret
  refine ⟨w.heap.size, rfl, Nat.le_refl _, ?_, ?_⟩
  · exact World.putObj_heap_same (block_lt M4.out)
  · exact HB.out.grown (grownBy_putObj' y w.heap.size _) HB.out.size (fun k e => by cases e; exact Nat.le_refl _)
end Go.Proofs.YteflpdhgojcmcaaGreatDoor
namespace Go.Proofs.YteflpdhgojcmcaaGreatDoor
open Go.RowKit PSet PMat
set_option maxRecDepth 100000 in
theorem grWho (g : Nat) (z id c : Int) (w : World) (h0 : w.cell? ⟨g, 0, none⟩ = some (.int .i64 z)) (hz : 0 < z) (h65 : w.cell? ⟨g, 65, none⟩ = some (.int .u64 (1 : Nat))) (h66 : w.cell? ⟨g, 66, none⟩ = some (.int .u64 (0 : Nat)))
    (h67 : w.cell? ⟨g, 67, none⟩ = some (.int .i64 id)) (h99 : w.cell? ⟨g, 99, none⟩ = some (.int .i64 c)) (hi : 1 ≤ id) (hic : id ≤ c) (hT : Tab w) :
    Calls Tryz.prog 336 #[.pointer (some ⟨g, 0, none⟩), .int .i64 id] w fun e w' => e = .returned (.tuple #[.int .i64 0, .int .i64 0]) ∧ Below w.heap.size w w' := by
  have lg : g < w.heap.size := block_lt_of_cell h65
  have C1 := Lib.hid (grGood g z w h0 hz)
  have C2 := Lib.hid (grSlots g 1 0 id w h65 h66 h67 (by decide) (by decide) (by decide) hT)
  have C3 := Lib.hid (fun W => has_any 1 0 W (by decide))
  rw [show hasB 1 0 = true from by decide] at C3
  have K65 := Lib.hid h65
  clear h66 h67 hT h0 h65
  go_enter Tryz.func336, Tryz.ntmps336
  go_wp2_with fail
  refine (C1.out).mono ?_
  rintro e y ⟨rfl, rfl⟩
  go_wp2_with fail
  refine (C2.out).mono ?_
  rintro e y ⟨r, rfl, hr, hm, hb⟩
  have hl := run_look_one 32 3 3 r 1 0 (.int .i64 0) id true y Tryz.underlying32 Tryz.underlying3 hm
  have k65 := (hb.cell (p := ⟨g, 65, none⟩) lg).trans K65.out
  have HB := Lib.hid hb
  clear hm hb hr
  go_wp2_with fail
  refine (C3.out _).mono ?_
  rintro e y2 ⟨rfl, rfl⟩
  go_wp2_with fail
  go_ret2
  exact ⟨rfl, HB.out⟩
end Go.Proofs.YteflpdhgojcmcaaGreatDoor
namespace Go.Proofs.YteflpdhgojcmcaaGreatDoor
open Go.RowKit PSet PMat
def setAll : List Value → Nat → List Value → List Value
  | L, _, [] => L
  | L, o, v :: vs => setAll (L.set o v) (o + 1) vs
theorem setAll_mid : ∀ (vs A B C : List Value), vs.length = B.length → setAll (A ++ B ++ C) A.length vs = A ++ vs ++ C
  | [], A, B, C, h => by
    have e : B = [] := List.length_eq_zero_iff.1 h.symm
    subst e
    rfl
  | v :: vs, A, [], C, h => by simp at h
  | v :: vs, A, b :: B, C, h => by
    have h1 : (A ++ b :: B ++ C).set A.length v = (A ++ [v]) ++ B ++ C := by simp
    rw [setAll, h1]
    have h2 := setAll_mid vs (A ++ [v]) B C (by simpa using h)
    simp at h2 ⊢
    exact h2
theorem setCells_row (b t : Nat) : ∀ (vs L : List Value) (o : Nat) (w : World), w.heap[b]? = some (.cells L.toArray t (0, 0)) → (w.setCells b o vs).heap[b]? = some (.cells (setAll L o vs).toArray t (0, 0))
  | [], _, _, _, h => h
  | v :: vs, L, o, w, h => by
    have h1 : (w.setCell ⟨b, o, none⟩ v).heap[b]? = some (.cells (L.set o v).toArray t (0, 0)) := by
      have := heap_setCell_same w b o _ _ v h
      rw [List.setIfInBounds_toArray] at this
      exact this
    exact setCells_row b t vs (L.set o v) (o + 1) _ h1
theorem setCells_other (b : Nat) : ∀ (vs : List Value) (o : Nat) (w : World) (g : Nat), g ≠ b → (w.setCells b o vs).heap[g]? = w.heap[g]?
  | [], _, _, _, _ => rfl
  | _ :: vs, o, _, g, h => (setCells_other b vs (o + 1) _ g h).trans (heap_setCell_other _ _ _ _ h)
theorem Chg.setCells {F : Nat → Prop} {a : World} (b : Nat) (hb : F b ∨ a.heap.size ≤ b) : ∀ (vs : List Value) (o : Nat) (w : World), Chg F a w → Chg F a (w.setCells b o vs)
  | [], _, _, h => h
  | v :: vs, o, _, h => Chg.setCells b hb vs (o + 1) _ (h.setCell (p := ⟨b, o, none⟩) hb v)
/-- The graph engine: its pool (100 cells), its store, its works (64 cells), its log, its count. -/
def engC (L : List Value) (v : Value) (K : List Value) (lg : Value) (ct : Int) : List Value := L ++ (v :: K) ++ [lg, .int .i64 ct]
structure EngAt (w : World) (g : Nat) (L : List Value) (v : Value) (K : List Value) (lg : Value) (ct : Int) : Prop where
  at0 : w.heap[g]? = some (.cells (engC L v K lg ct).toArray 151 (0, 0))
  lenL : L.length = 100
  lenK : K.length = 64
theorem EngAt.keep {w w' : World} {g : Nat} {L : List Value} {v : Value} {K : List Value} {lg : Value} {ct : Int} (h : EngAt w g L v K lg ct) (e : w'.heap[g]? = w.heap[g]?) : EngAt w' g L v K lg ct := ⟨e.trans h.at0, h.lenL, h.lenK⟩
theorem EngAt.below {w w' : World} {g : Nat} {L : List Value} {v : Value} {K : List Value} {lg : Value} {ct : Int} (h : EngAt w g L v K lg ct) (hb : Below w.heap.size w w') : EngAt w' g L v K lg ct := h.keep (hb.block _ (block_lt h.at0))
theorem EngAt.lt {w : World} {g : Nat} {L : List Value} {v : Value} {K : List Value} {lg : Value} {ct : Int} (h : EngAt w g L v K lg ct) : g < w.heap.size := block_lt h.at0
theorem EngAt.frozen {w : World} {g : Nat} {L : List Value} {v : Value} {K : List Value} {lg : Value} {ct : Int} (h : EngAt w g L v K lg ct) (j : Nat) : w.frozen? ⟨g, j, none⟩ = false := frozen_of_row _ _ j _ _ h.at0
theorem EngAt.pool {w : World} {g : Nat} {L : List Value} {v : Value} {K : List Value} {lg : Value} {ct : Int} (h : EngAt w g L v K lg ct) {j : Nat} {x : Value} (hj : L[j]? = some x) : w.cell? ⟨g, j, none⟩ = some x := by
  rw [cell_of_row _ _ _ _ _ _ h.at0]
  have hl := (List.getElem?_eq_some_iff.1 hj).1
  simp only [engC, List.getElem?_toArray]
  rw [List.getElem?_append_left (by simp; omega), List.getElem?_append_left hl]
  exact hj
theorem EngAt.poolRange {w : World} {g : Nat} {L : List Value} {v : Value} {K : List Value} {lg : Value} {ct : Int} (h : EngAt w g L v K lg ct) : w.rangeAt g 0 L := fun j x hj => by rw [Nat.zero_add]; exact h.pool hj
theorem EngAt.store {w : World} {g : Nat} {L : List Value} {v : Value} {K : List Value} {lg : Value} {ct : Int} (h : EngAt w g L v K lg ct) : w.cell? ⟨g, 100, none⟩ = some v := by
  rw [cell_of_row _ _ _ _ _ _ h.at0]
  simp only [engC, List.getElem?_toArray]
  rw [List.getElem?_append_left (by simp [h.lenL]), List.getElem?_append_right (by rw [h.lenL]; omega), h.lenL]
  rfl
theorem EngAt.work {w : World} {g : Nat} {L : List Value} {v : Value} {K : List Value} {lg : Value} {ct : Int} (h : EngAt w g L v K lg ct) {j : Nat} {x : Value} (hj : K[j]? = some x) : w.cell? ⟨g, 101 + j, none⟩ = some x := by
  have hl := (List.getElem?_eq_some_iff.1 hj).1
  rw [cell_of_row _ _ _ _ _ _ h.at0]
  simp only [engC, List.getElem?_toArray]
  rw [List.getElem?_append_left (by simp [h.lenL]; omega), List.getElem?_append_right (by rw [h.lenL]; omega), h.lenL]
  rw [show 101 + j - 100 = j + 1 from by omega, List.getElem?_cons_succ]
  exact hj
theorem EngAt.log {w : World} {g : Nat} {L : List Value} {v : Value} {K : List Value} {lg : Value} {ct : Int} (h : EngAt w g L v K lg ct) : w.cell? ⟨g, 165, none⟩ = some lg := by
  rw [cell_of_row _ _ _ _ _ _ h.at0]
  simp only [engC, List.getElem?_toArray]
  rw [List.getElem?_append_right (by simp [h.lenL, h.lenK])]
  simp [h.lenL, h.lenK]
theorem EngAt.count {w : World} {g : Nat} {L : List Value} {v : Value} {K : List Value} {lg : Value} {ct : Int} (h : EngAt w g L v K lg ct) : w.cell? ⟨g, 166, none⟩ = some (.int .i64 ct) := by
  rw [cell_of_row _ _ _ _ _ _ h.at0]
  simp only [engC, List.getElem?_toArray]
  rw [List.getElem?_append_right (by simp [h.lenL, h.lenK])]
  simp [h.lenL, h.lenK]
theorem EngAt.setPool {w : World} {g : Nat} {L : List Value} {v : Value} {K : List Value} {lg : Value} {ct : Int} (h : EngAt w g L v K lg ct) (M : List Value) (hM : M.length = 100) : EngAt (w.setCells g 0 M) g M v K lg ct := by
  refine ⟨?_, hM, h.lenK⟩
  have h1 := setCells_row g 151 M _ 0 w h.at0
  have h2 := setAll_mid M [] L ((v :: K) ++ [lg, .int .i64 ct]) (by rw [hM, h.lenL])
  simp only [List.nil_append, List.length_nil] at h2
  rw [h1]
  congr 3
  simpa [engC] using h2
theorem EngAt.setStore {w : World} {g : Nat} {L : List Value} {v : Value} {K : List Value} {lg : Value} {ct : Int} (h : EngAt w g L v K lg ct) (x : Value) : EngAt (w.setCell ⟨g, 100, none⟩ x) g L x K lg ct := by
  refine ⟨?_, h.lenL, h.lenK⟩
  have h1 := heap_setCell_same w g 100 _ _ x h.at0
  rw [h1, List.setIfInBounds_toArray]
  congr 3
  simp only [engC]
  rw [List.set_append_left _ _ (by simp [h.lenL]), List.set_append_right _ _ (by rw [h.lenL]; omega), h.lenL]
  rfl
theorem EngAt.setWork {w : World} {g : Nat} {L : List Value} {v : Value} {K : List Value} {lg : Value} {ct : Int} (h : EngAt w g L v K lg ct) (j : Nat) (hj : j < 64) (x : Value) : EngAt (w.setCell ⟨g, 101 + j, none⟩ x) g L v (K.set j x) lg ct := by
  refine ⟨?_, h.lenL, by rw [List.length_set]; exact h.lenK⟩
  have h1 := heap_setCell_same w g (101 + j) _ _ x h.at0
  rw [h1, List.setIfInBounds_toArray]
  congr 3
  simp only [engC]
  rw [List.set_append_left _ _ (by simp [h.lenL, h.lenK]; omega), List.set_append_right _ _ (by rw [h.lenL]; omega), h.lenL, show 101 + j - 100 = j + 1 from by omega, List.set_cons_succ]
theorem EngAt.setLog {w : World} {g : Nat} {L : List Value} {v : Value} {K : List Value} {lg : Value} {ct : Int} (h : EngAt w g L v K lg ct) (x : Value) : EngAt (w.setCell ⟨g, 165, none⟩ x) g L v K x ct := by
  refine ⟨?_, h.lenL, h.lenK⟩
  have h1 := heap_setCell_same w g 165 _ _ x h.at0
  rw [h1, List.setIfInBounds_toArray]
  congr 3
  simp only [engC]
  rw [List.set_append_right _ _ (by simp [h.lenL, h.lenK])]
  simp [h.lenL, h.lenK]
theorem EngAt.setCount {w : World} {g : Nat} {L : List Value} {v : Value} {K : List Value} {lg : Value} {ct : Int} (h : EngAt w g L v K lg ct) (x : Int) : EngAt (w.setCell ⟨g, 166, none⟩ (.int .i64 x)) g L v K lg x := by
  refine ⟨?_, h.lenL, h.lenK⟩
  have h1 := heap_setCell_same w g 166 _ _ (.int .i64 x) h.at0
  rw [h1, List.setIfInBounds_toArray]
  congr 3
  simp only [engC]
  rw [List.set_append_right _ _ (by simp [h.lenL, h.lenK])]
  simp [h.lenL, h.lenK]
end Go.Proofs.YteflpdhgojcmcaaGreatDoor
namespace Go.Proofs.YteflpdhgojcmcaaGreatDoor
open Go.RowKit PSet PMat
theorem work_one : (#[Value.slice none 0 0, Value.bool false] : Array Value).all (·.oneCell') = true := by simp [Value.oneCell']
set_option maxRecDepth 100000 in
set_option maxHeartbeats 1000000 in
theorem grBegin (g : Nat) (L : List Value) (v : Value) (K : List Value) (lg : Value) (ct : Int) (z : Nat) (c : Int) (w : World) (hE : EngAt w g L v K lg ct) (h1 : L.toArray.all (·.oneCell') = true) (h0 : L[0]? = some (.int .i64 z)) (hz : z = 3 ∨ z = 4)
    (h65 : L[65]? = some (.int .u64 0)) (h66 : L[66]? = some (.int .u64 0)) (h99 : L[99]? = some (.int .i64 c)) (hc : 0 ≤ c) (hc2 : c < 4611686018427387904) (hT : Tab w) :
    Calls Tryz.prog 329 #[.pointer (some ⟨g, 0, none⟩)] w fun e w' => e = .returned (.tuple #[.int .i64 (c + 1), .int .i64 0]) ∧ EngAt w' g (beganP L c) v ((K.set 0 (.slice none 0 0)).set 1 (.bool false)) lg ct ∧ Chg (fun b => b = g) w w' := by
  have lg0 : g < w.heap.size := hE.lt
  have hL := hE.lenL
  have C1 := Lib.hid (grGood g z w (hE.pool h0) (by rcases hz with rfl | rfl <;> decide))
  have C2 := Lib.hid (poolBegin L z c w hL h1 h0 hz h65 h66 h99 hc hc2 hT)
  have hl5 : (beganP L c).length = 100 := by simp [beganP, hL]
  have ho5 : (beganP L c).toArray.all (·.oneCell') = true := one_set (one_set (one_set h1 _ _ rfl) _ _ rfl) _ _ rfl
  have hm67 : (beganP L c)[67]? = some (.int .i64 (c + 1)) := by
    unfold beganP
    rw [List.getElem?_set_self (by simp [hL])]
  have HE := Lib.hid hE
  have HL := Lib.hid hL
  clear hE h1 h0 hz h65 h66 h99 hc hc2 hT hL
  generalize hM : beganP L c = M at *
  have HM := Lib.hid hM
  have HL5 := Lib.hid hl5
  have HO5 := Lib.hid ho5
  have H67 := Lib.hid hm67
  clear hM hl5 ho5 hm67
  go_enter Tryz.func329, Tryz.ntmps329
  go_wp2_with fail
  refine (C1.out).mono ?_
  rintro e y ⟨rfl, rfl⟩
  go_wp2_with (refine wpList_load_mid rfl 144 _ rfl g 0 rfl L _ HE.out.poolRange Tryz.underlying144 rfl (info144 HL.out) ?_)
  refine (C2.out).mono ?_
  rintro e y ⟨rfl, hb⟩
  have hz1 := Go.heap_alloc_new y (.cells zeroPool 144)
  have hE1 : EngAt (y.alloc (.cells zeroPool 144)) g L v K lg ct := HE.out.below (hb.alloc hb.size _)
  have hb1 := hb.alloc hb.size (.cells zeroPool 144)
  have hsy := hb.size
  have HZ := Lib.hid hz1
  have HE1 := Lib.hid hE1
  have HB1 := Lib.hid hb1
  clear hz1 hE1 hb1 hb
  go_wp2_with (refine wpList_store_row rfl 144 _ _ rfl y.heap.size M.toArray rfl rfl 144 zeroPool HZ.out (info144a (by simpa using HL5.out)) (by simp [HL5.out, zeroPool_size]) HO5.out ?_)
  refine name_w ?_
  intro W6 hW6
  have r6 : W6.heap[y.heap.size]? = some (.cells M.toArray 144) := by rw [hW6]; exact block_setRow_same HZ.out
  have hE6 : EngAt W6 g L v K lg ct := by rw [hW6]; exact HE1.out.keep (setRow_other _ _ _ _ (by omega))
  have hc6 : Chg (fun b => b = g) w W6 := by rw [hW6]; exact Chg.of_below (below_setRow' HB1.out (by omega) _)
  have R6 := Lib.hid r6
  have HE6 := Lib.hid hE6
  have HC6 := Lib.hid hc6
  clear hW6 hE6 hc6 HZ HE1 HB1
  have hS0 : (fun w' : World => w'.rangeAt y.heap.size 0 M) W6.drew := range_of_block r6
  refine wp_region_held_drew (S := fun w' => w'.rangeAt y.heap.size 0 M) (by kernel_rfl) hS0 (fun hHeld => ?_)
  clear hS0 r6
  refine hd 0 (v := ?_) ?_ ?_
  rotate_left
  · intro w hS; go_simp; try with_reducible rfl
  simp only [Act.put, pt1, pt2, pt3]
  refine hd 1 (v := ?_) ?_ ?_
  rotate_left
  · intro w hS; go_simp; try with_reducible rfl
  simp only [Act.put, pt1, pt2, pt3]
  refine hd 2 (v := ?_) ?_ ?_
  rotate_left
  · intro w hS; go_simp; try with_reducible rfl
  simp only [Act.put, pt1, pt2, pt3]
  refine held_long 3 144 _ y.heap.size 0 M _ rfl rfl (by kernel_rfl) (by kernel_rfl) (by kernel_rfl) (fun _ _ _ h => h) (by rfl) rfl Tryz.underlying144 rfl (info144 HL5.out) (fun _ h => h) (by assumption) ?_
  simp only [Act.put, pt1, pt2, pt3]
  refine hd 4 (v := ?_) ?_ ?_
  rotate_left
  · intro w hS; go_simp; try with_reducible rfl
  simp only [Act.put, pt1, pt2, pt3]
  refine hd 5 (v := ?_) ?_ ?_
  rotate_left
  · intro w hS; go_simp; try with_reducible rfl
  simp only [Act.put, pt1, pt2, pt3]
  refine hd 6 (v := ?_) ?_ ?_
  rotate_left
  · intro w hS; go_simp; try with_reducible rfl
  simp only [Act.put, pt1, pt2, pt3]
  refine hd 8 (v := ?_) ?_ ?_
  rotate_left
  · intro w hS; go_simp; try with_reducible rfl
  simp only [Act.put, pt1, pt2, pt3]
  refine hd 9 (v := ?_) ?_ ?_
  rotate_left
  · intro w hS; go_simp; try with_reducible rfl
  simp only [Act.put, pt1, pt2, pt3]
  refine hcl 7 (fun K' hK => ?_)
  rw [if_pos (by rfl)]
  refine wp_store_mid 144 _ _ rfl g 0 M.toArray rfl rfl (fun j hj => ⟨?t1, ?t2⟩) (info144a (by simpa using HL5.out)) HO5.out ?_
  case t1 => exact HE6.out.poolRange.isSome j (by have := HL.out; have := HL5.out; simp at hj; omega)
  case t2 => exact HE6.out.frozen _
  rw [List.toList_toArray] at *
  refine hK.out _ _ ?_ (fun hHeld => ?_)
  · exact range_keep hHeld (setCells_other g M 0 _ _ (by omega))
  clear hK K'
  have hE7 : EngAt (W6.drew.setCells g 0 M) g M v K lg ct := EngAt.setPool (HE6.out.keep (w' := W6.drew) rfl) M HL5.out
  have r7 : (W6.drew.setCells g 0 M).heap[y.heap.size]? = some (.cells M.toArray 144) := (setCells_other g M 0 _ _ (by omega)).trans R6.out
  have hc7 : Chg (fun b => b = g) w (W6.drew.setCells g 0 M) := Chg.setCells (F := fun b => b = g) g (.inl rfl) M 0 _ HC6.out.drew
  generalize W6.drew.setCells g 0 M = W7 at *
  have HE7 := Lib.hid hE7
  have R7 := Lib.hid r7
  have HC7 := Lib.hid hc7
  clear hE7 r7 hc7
  try simp only [Act.put]
  refine hd 10 (v := ?_) ?_ ?_
  rotate_left
  · intro w hS; go_simp; try with_reducible rfl
  simp only [Act.put, pt1, pt2, pt3]
  refine hcl 11 (fun K' hK => ?_)
  rw [if_pos (by rfl)]
  refine wp_store_mid 148 _ _ rfl g 101 #[.slice none 0 0, .bool false] rfl rfl (fun j hj => ⟨?t3, ?t4⟩) (by kernel_rfl) work_one ?_
  case t3 =>
    have hk := HE7.out.lenK
    have hj2 : j < 2 := hj
    rw [HE7.out.work (List.getElem?_eq_getElem (by omega))]
    rfl
  case t4 => exact HE7.out.frozen _
  have hE8 : EngAt (W7.setCells g 101 [.slice none 0 0, .bool false]) g M v ((K.set 0 (.slice none 0 0)).set 1 (.bool false)) lg ct := (HE7.out.setWork 0 (by decide) _).setWork 1 (by decide) _
  have r8 : (W7.setCells g 101 [.slice none 0 0, .bool false]).heap[y.heap.size]? = some (.cells M.toArray 144) := (setCells_other g _ 101 _ _ (by omega)).trans R7.out
  have hc8 : Chg (fun b => b = g) w (W7.setCells g 101 [.slice none 0 0, .bool false]) := Chg.setCells (F := fun b => b = g) g (.inl rfl) _ 101 _ HC7.out
  rw [List.toList_toArray]
  refine hK.out _ _ ?_ (fun hHeld => ?_)
  · exact range_of_block r8
  clear hK K'
  generalize W7.setCells g 101 [.slice none 0 0, .bool false] = W8 at *
  have HE8 := Lib.hid hE8
  have HC8 := Lib.hid hc8
  have k67 : W8.cell? ⟨y.heap.size, 67, none⟩ = some (.int .i64 (c + 1)) := (cell_of_row _ _ _ _ _ _ r8).trans (by simpa using H67.out)
  clear hE8 r8 hc8 hHeld
  try simp only [Act.put]
  refine held_done (by kernel_rfl) ?_
  go_wp2_with fail
  go_ret2
  exact ⟨rfl, HE8.out, HC8.out⟩
end Go.Proofs.YteflpdhgojcmcaaGreatDoor
namespace Go.Proofs.YteflpdhgojcmcaaGreatDoor
open Go.RowKit PSet PMat
set_option maxRecDepth 100000 in
set_option maxHeartbeats 1000000 in
theorem grWrite (g : Nat) (L : List Value) (a : Option Addr) (n cp : Nat) (K : List Value) (lg : Value) (ct : Int) (z id c x vk vn : Int) (w : World) (hE : EngAt w g L (.slice a n cp) K lg ct) (h0 : L[0]? = some (.int .i64 z)) (hz : 0 < z)
    (h65 : L[65]? = some (.int .u64 (1 : Nat))) (h66 : L[66]? = some (.int .u64 (0 : Nat))) (h67 : L[67]? = some (.int .i64 id)) (h99 : L[99]? = some (.int .i64 c)) (hi : 1 ≤ id) (hic : id ≤ c)
    (hK : K[0]? = some (.slice none 0 0)) (hx0 : 0 ≤ x) (hxn : x < n) (hx64 : x < 64) (hv : rightV vk vn = true) (hT : Tab w) :
    Calls Tryz.prog 334 #[.pointer (some ⟨g, 0, none⟩), .int .i64 id, .int .i64 x, .agg #[.int .i64 vk, .int .i64 vn]] w fun e w' => e = .returned (.int .i64 0) ∧
      ∃ v', EngAt w' g L (.slice a n cp) (K.set 0 v') lg ct ∧ w'.ownsRow w.heap.size 155 4 v' 1 (StepM.cells ⟨x, vk, vn, true⟩) ∧ Chg (fun b => b = g) w w' := by
  have lg0 : g < w.heap.size := hE.lt
  obtain ⟨W, hW⟩ : ∃ W, W = w.alloc (.cells #[.int .i64 vk, .int .i64 vn] 53) := ⟨_, rfl⟩
  have hbW : Below w.heap.size w W := by rw [hW]; exact (Below.refl _ _).alloc (Nat.le_refl _) _
  have hrW : W.heap[w.heap.size]? = some (.cells #[.int .i64 vk, .int .i64 vn] 53) := by rw [hW]; exact Go.heap_alloc_new _ _
  have hEW : EngAt W g L (.slice a n cp) K lg ct := hE.below hbW
  have C1 := Lib.hid (grWho g z id c W (hEW.pool h0) hz (hEW.pool h65) (hEW.pool h66) (hEW.pool h67) (hEW.pool h99) hi hic (hT.below hT.pos hbW))
  have C2 := Lib.hid (fun W => txnWrite_nil x vk vn W hx0 hx64 hv)
  have HEW := Lib.hid hEW
  have HBW := Lib.hid hbW
  have HRW := Lib.hid hrW
  have HK := Lib.hid hK
  clear hE h0 hz h65 h66 h67 h99 hi hic hT hv hEW hbW hrW hK
  go_enter Tryz.func334, Tryz.ntmps334
  go_wp2_with fail
  rw [← hW]
  refine (C1.out).mono ?_
  rintro e y ⟨rfl, hb⟩
  have hE1 := HEW.out.below hb
  have r1 := (hb.block _ (block_lt HRW.out)).trans HRW.out
  have s100 := hE1.store
  have q0 := cell_of_row _ _ 0 _ _ _ r1
  have q1 := cell_of_row _ _ 1 _ _ _ r1
  have HE1 := Lib.hid hE1
  have R1 := Lib.hid r1
  have HB1 := Lib.hid (HBW.out.trans (hb.mono HBW.out.size))
  clear hW hb hE1 r1 HEW HBW HRW C1
  go_wp2_with fail
  have hS0 : (fun w' : World => w'.cell? ⟨w.heap.size, 0, none⟩ = some (.int .i64 vk) ∧ w'.cell? ⟨w.heap.size, 1, none⟩ = some (.int .i64 vn)) y.drew := ⟨q0, q1⟩
  refine wp_region_held_drew (S := fun w' => w'.cell? ⟨w.heap.size, 0, none⟩ = some (.int .i64 vk) ∧ w'.cell? ⟨w.heap.size, 1, none⟩ = some (.int .i64 vn)) (by kernel_rfl) hS0 (fun hHeld => ?_)
  clear hS0
  refine hd 0 (v := ?_) ?_ ?_
  rotate_left
  · rintro w ⟨hS1, hS2⟩; go_simp; try with_reducible rfl
  simp only [Act.put, pt1, pt2, pt3]
  refine hd 1 (v := ?_) ?_ ?_
  rotate_left
  · rintro w ⟨hS1, hS2⟩; go_simp; try with_reducible rfl
  simp only [Act.put, pt1, pt2, pt3]
  refine hd 2 (v := ?_) ?_ ?_
  rotate_left
  · rintro w ⟨hS1, hS2⟩; go_simp; try with_reducible rfl
  simp only [Act.put, pt1, pt2, pt3]
  refine hd 3 (v := ?_) ?_ ?_
  rotate_left
  · rintro w ⟨hS1, hS2⟩; go_simp; try with_reducible rfl
  simp only [Act.put, pt1, pt2, pt3]
  refine hd 4 (v := ?_) ?_ ?_
  rotate_left
  · rintro w ⟨hS1, hS2⟩; go_simp; try with_reducible rfl
  simp only [Act.put, pt1, pt2, pt3]
  refine hd 5 (v := ?_) ?_ ?_
  rotate_left
  · rintro w ⟨hS1, hS2⟩; go_simp; try with_reducible rfl
  simp only [Act.put, pt1, pt2, pt3]
  refine hd 6 (v := ?_) ?_ ?_
  rotate_left
  · rintro w ⟨hS1, hS2⟩; go_simp; try with_reducible rfl
  simp only [Act.put, pt1, pt2, pt3]
  refine hd 7 (v := ?_) ?_ ?_
  rotate_left
  · rintro w ⟨hS1, hS2⟩; go_simp; try with_reducible rfl
  simp only [Act.put, pt1, pt2, pt3]
  refine hd 9 (v := ?_) ?_ ?_
  rotate_left
  · rintro w ⟨hS1, hS2⟩; go_simp; try with_reducible rfl
  simp only [Act.put, pt1, pt2, pt3]
  refine hd 10 (v := .agg #[.int .i64 vk, .int .i64 vn]) ?_ ?_
  · rintro w ⟨hS1, hS2⟩; go_simp
  simp only [Act.put, pt1, pt2, pt3]
  refine hd 15 (v := ?_) ?_ ?_
  rotate_left
  · rintro w ⟨hS1, hS2⟩; go_simp; try with_reducible rfl
  simp only [Act.put, pt1, pt2, pt3]
  refine hd 16 (v := ?_) ?_ ?_
  rotate_left
  · rintro w ⟨hS1, hS2⟩; go_simp; try with_reducible rfl
  simp only [Act.put, pt1, pt2, pt3]
  have k101 : y.drew.cell? ⟨g, 101, none⟩ = some (.slice none 0 0) := HE1.out.work HK.out
  refine hcl 8 (fun K' hK => ?_)
  go_simp
  refine hK.out _ _ ?_ (fun hHeld => ?_)
  · assumption
  clear hK K'
  try simp only [Act.put, pt1, pt2, pt3]
  refine hcl 11 (fun K' hK => ?_)
  go_simp
  go_at_call 163
  refine (C2.out _).mono ?_
  rintro e y2 ⟨v', rfl, hown, hb2⟩
  have hE2 : EngAt y2 g L (.slice a n cp) K lg ct := (HE1.out.keep (w' := y.drew) rfl).below hb2
  have r2 := (hb2.block _ (block_lt R1.out)).trans R1.out
  have HE2 := Lib.hid hE2
  have R2 := Lib.hid r2
  have HB2 := Lib.hid (HB1.out.drew.trans (hb2.mono HB1.out.drew.size))
  have HO2 := Lib.hid hown
  have hsy : w.heap.size < y.heap.size := block_lt R1.out
  obtain ⟨_, av, cv, rfl, _⟩ := RowAt.of_owns hown
  clear hE2 r2 hb2 hown
  go_wp2_with fail
  refine hK.out _ _ ?_ (fun hHeld => ?_)
  · exact ⟨cell_of_row _ _ 0 _ _ _ R2.out, cell_of_row _ _ 1 _ _ _ R2.out⟩
  clear hK K'
  try simp only [Act.put, pt1, pt2, pt3]
  refine hd 12 (v := ?_) ?_ ?_
  rotate_left
  · rintro w ⟨hS1, hS2⟩; go_simp; try with_reducible rfl
  simp only [Act.put, pt1, pt2, pt3]
  refine hd 13 (v := ?_) ?_ ?_
  rotate_left
  · rintro w ⟨hS1, hS2⟩; go_simp; try with_reducible rfl
  simp only [Act.put, pt1, pt2, pt3]
  refine hd 14 (v := ?_) ?_ ?_
  rotate_left
  · rintro w ⟨hS1, hS2⟩; go_simp; try with_reducible rfl
  simp only [Act.put, pt1, pt2, pt3]
  refine hd 17 (v := ?_) ?_ ?_
  rotate_left
  · rintro w ⟨hS1, hS2⟩; go_simp; try with_reducible rfl
  simp only [Act.put, pt1, pt2, pt3]
  refine hd 18 (v := ?_) ?_ ?_
  rotate_left
  · rintro w ⟨hS1, hS2⟩; go_simp; try with_reducible rfl
  simp only [Act.put, pt1, pt2, pt3]
  have k2 := HE2.out.work HK.out
  have f2 := HE2.out.frozen 101
  refine hcl 19 (fun K' hK => ?_)
  go_simp
  have hE3 := HE2.out.setWork 0 (by decide) (.slice av 1 cv)
  have hc3 : Chg (fun b => b = g) w (y2.setCell ⟨g, 101, none⟩ (.slice av 1 cv)) := Chg.setCell (F := fun b => b = g) (Chg.of_below HB2.out) (p := ⟨g, 101, none⟩) (.inl rfl) _
  have ho3 : (y2.setCell ⟨g, 101, none⟩ (.slice av 1 cv)).ownsRow w.heap.size 155 4 (.slice av 1 cv) 1 (StepM.cells ⟨x, vk, vn, true⟩) := owns_mono (owns_keep HO2.out fun k hk _ => heap_setCell_other _ _ _ _ (by simp at hk ⊢; omega)) (by simp; omega)
  have HF := Lib.hid (And.intro hE3 (And.intro ho3 hc3))
  clear hE3 hc3 ho3
  refine hK.out _ _ ?_ (fun hHeld => ?_)
  · exact ⟨(World.cell?_setCell_far _ _ _ _ (by simp; omega)).trans hHeld.1, (World.cell?_setCell_far _ _ _ _ (by simp; omega)).trans hHeld.2⟩
  clear hK K'
  try simp only [Act.put]
  refine hd 20 (v := ?_) ?_ ?_
  rotate_left
  · rintro w ⟨hS1, hS2⟩; go_simp; try with_reducible rfl
  simp only [Act.put, pt1, pt2, pt3]
  refine held_done (by kernel_rfl) ?_
  clear hHeld
  go_wp2_with fail
  go_ret
  exact ⟨rfl, _, HF.out.1, HF.out.2.1, HF.out.2.2⟩
end Go.Proofs.YteflpdhgojcmcaaGreatDoor
