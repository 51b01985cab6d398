/- The walk of the first look of layer 3's statements: the answers that the document fixes are given. -/
import Derived.Test.YtkgfepnkikcpiaaDoorPG
namespace Go.Proofs.YtkgfepnkikcpiaaDoor
open Go.RowKit
open PSet PMat PWay

theorem putv {m n : List Nat} {a b : Int} {c : Bool} (hm : Mat m) (h : putN m a b = n) (hb : putB a b = c) (W : World) :
    Calls Tryd.prog 32 #[.agg (numsV m), .int .i64 a, .int .i64 b] W fun e w' => e = .returned (.tuple #[.agg (numsV n), .bool c]) ∧ Below W.heap.size W w' := by
  have h1 := put_any m a b W hm
  rw [h, hb] at h1
  exact h1

/-- A graph stored into a block that holds one; loaded from it. -/
theorem wpList_store_mat {ops : Array Oper} {rest : List Oper} {o : Oper} {a : Act} {w : World} {Q : Exit → Act → World → Prop} (hgd : o.guard = none) (x y : Operand) (ho : o.op = .store 43 x y)
    (g : Nat) (n : List Nat) (hn : n.length = 32) (hx : a.eval x = .pointer (some ⟨g, 0, none⟩)) (hy : a.eval y = .agg (numsV n)) (old : List Nat) (hold : old.length = 32) (hg : Nums w g 43 old)
    (h : wpList Tryd.prog ops Q rest (a.put o.dst undef) (w.setRow g (numsV n))) : wpList Tryd.prog ops Q (o :: rest) a w :=
  wpList_store_row hgd 43 x y ho g (numsV n) hx hy 43 (numsV old) hg (size_mat hn) (by rw [size_numsV, size_numsV, hn, hold]) (one_numsV n) h
theorem wpList_load_mat {ops : Array Oper} {rest : List Oper} {o : Oper} {a : Act} {w : World} {Q : Exit → Act → World → Prop} (hgd : o.guard = none) (x : Operand) (ho : o.op = .load 43 x)
    (g : Nat) (n : List Nat) (hn : n.length = 32) (hx : a.eval x = .pointer (some ⟨g, 0, none⟩)) (hg : Nums w g 43 n)
    (h : wpList Tryd.prog ops Q rest (a.put o.dst (.agg (numsV n))) w) : wpList Tryd.prog ops Q (o :: rest) a w :=
  wpList_load_row hgd 43 x ho g hx 43 (numsV n) (0, 0) _ hg Tryd.underlying43 rfl (size_mat hn) h
theorem wpList_wanted {ops : Array Oper} {rest : List Oper} {o : Oper} {a : Act} {w : World} {Q : Exit → Act → World → Prop} (hw : Region.wanted o (yielded ops a.tmps) = true)
    (h : ∀ K : Act → World → Prop, (∀ a w, wpList Tryd.prog ops Q rest a w → K a w) → o.wp Tryd.prog a w K Q) : wpList Tryd.prog ops Q (o :: rest) a w :=
  wpList_step fun K hK => by rw [if_pos hw]; exact h K hK
theorem wpList_load_mat' {ops : Array Oper} {rest : List Oper} {o : Oper} {a : Act} {w : World} {Q : Exit → Act → World → Prop} (x : Operand) (ho : o.op = .load 43 x)
    (g : Nat) (n : List Nat) (hn : n.length = 32) (hx : a.eval x = .pointer (some ⟨g, 0, none⟩)) (hg : Nums w g 43 n) (hw : Region.wanted o (yielded ops a.tmps) = true)
    (h : wpList Tryd.prog ops Q rest (a.put o.dst (.agg (numsV n))) w) : wpList Tryd.prog ops Q (o :: rest) a w :=
  wpList_wanted hw fun _ hK => wp_load_row 43 x ho g hx 43 (numsV n) (0, 0) _ hg Tryd.underlying43 rfl (size_mat hn) (hK _ _ h)
theorem nums_zero (W : World) : Nums (W.alloc (.cells (numsV zeros) 43)) W.heap.size 43 zeros := heap_alloc_new _ _
/-- A graph stored into a new block of its own: the block, and what was below. -/
theorem nums_stored (n : List Nat) (z : Array Value) (W : World) : Nums ((W.alloc (.cells z 43)).setRow W.heap.size (numsV n)) W.heap.size 43 n := block_setRow_same (heap_alloc_new _ _)
theorem below_stored {B : Nat} {w W : World} (h : Below B w W) (hB : B ≤ W.heap.size) (n z : Array Value) : Below B w ((W.alloc (.cells z 43)).setRow W.heap.size n) := below_setRow' (h.alloc hB _) hB _

/-- What is carried from call to call: the two graphs in their blocks, the table, and what was below. -/
structure Kept (w X : World) (g h : Nat) : Prop where
  m : Nums X g 43 G2
  n : Nums X h 43 G3
  b : Below w.heap.size w X
theorem Kept.to {w X Y : World} {g h : Nat} (k : Kept w X g h) (hb : Below X.heap.size X Y) : Kept w Y g h :=
  ⟨k.m.below hb k.m.lt, k.n.below hb k.n.lt, k.b.trans (hb.mono k.b.size)⟩

set_option maxHeartbeats 1000000 in
set_option maxRecDepth 100000 in
theorem alive3 (w : World) (hT : Tab w) :
    Calls Tryd.prog 30 #[] w fun e w' => e = .returned (.bool true) ∧ Below w.heap.size w w' := by
  have HT := Lib.hid hT
  clear hT
  have P1 := Lib.hid (putv mat0 put01 is01)
  have P2 := Lib.hid (putv mat1 put12 is12)
  have P3 := Lib.hid (putv mat2 put20 is20)
  have P4 := Lib.hid (putv mat2 put11 is11)
  go_enter Tryd.func30, Tryd.ntmps30
  go_wp2_with fail
  change Calls Tryd.prog 32 #[.agg (numsV zeros), .int .i64 0, .int .i64 1] w _
  refine (P1.out w).mono ?_
  rintro e w1 ⟨rfl, hB1⟩
  have B1 := Lib.hid hB1
  clear hB1
  go_wp2_with (first | (refine wpList_store_mat rfl _ _ rfl w1.heap.size G1 rfl rfl rfl zeros rfl (by exact nums_zero w1) ?_) | (refine wpList_load_mat rfl _ rfl w1.heap.size G1 rfl rfl (by exact nums_stored G1 _ w1) ?_))
  have N1 := Lib.hid (nums_stored G1 (numsV zeros) w1)
  have S1 := Lib.hid (below_stored B1.out B1.out.size (numsV G1) (numsV zeros))
  refine (P2.out _).mono ?_
  rintro e w2 ⟨rfl, hB2⟩
  have N2 := Lib.hid (N1.out.below hB2 N1.out.lt)
  have B2 := Lib.hid (S1.out.trans (hB2.mono S1.out.size))
  have L1 := B1.out.size
  generalize w1.heap.size = g at *
  clear hB2 N1 S1 B1
  have N2' := Lib.hid (block_setRow_same (cs := numsV G2) N2.out)
  have S2 := Lib.hid (below_setRow' B2.out L1 (numsV G2))
  go_wp2_with (first | (refine wpList_store_mat rfl _ _ rfl g G2 rfl rfl rfl G1 rfl N2.out ?_) | (refine wpList_load_mat rfl _ rfl g G2 rfl rfl N2'.out ?_))
  refine (P3.out _).mono ?_
  rintro e w3 ⟨rfl, hB3⟩
  have N3 : Hid (Nums w3 g 43 G2) := Lib.hid (Nums.below N2'.out hB3 (Nums.lt N2'.out))
  have B3 := Lib.hid (S2.out.trans (hB3.mono S2.out.size))
  clear hB3 N2 N2' S2 B2
  have K3 : Hid (Nums ((w3.alloc (.cells (numsV zeros) 43)).setRow w3.heap.size (numsV G3)) g 43 G2) :=
    Lib.hid (N3.out.of_block (by rw [setRow_other _ _ _ _ (by have := N3.out.lt; omega)]; exact Below.heap_alloc _ _ _ N3.out.lt))
  have N4 := Lib.hid (nums_stored G3 (numsV zeros) w3)
  have S3 := Lib.hid (below_stored B3.out B3.out.size (numsV G3) (numsV zeros))
  go_wp2_with (first | (refine wpList_store_mat rfl _ _ rfl w3.heap.size G3 rfl rfl rfl zeros rfl (by exact nums_zero w3) ?_) | (refine wpList_load_mat rfl _ rfl g G2 rfl rfl (by exact K3.out) ?_))
  refine (P4.out _).mono ?_
  rintro e w4 ⟨rfl, hB4⟩
  have Q : Hid (Kept w w4 g w3.heap.size) := Lib.hid (Kept.to ⟨K3.out, N4.out, S3.out⟩ hB4)
  generalize w3.heap.size = h at *
  clear hB4 N4 S3 K3 N3 B3
  have Q2 : Hid (Kept w ((w4.alloc (.cells (numsV zeros) 43)).setRow w4.heap.size (numsV G2)) g h) := Lib.hid
    ⟨Q.out.m.of_block (by rw [setRow_other _ _ _ _ (by have := Q.out.m.lt; omega)]; exact Below.heap_alloc _ _ _ Q.out.m.lt),
     Q.out.n.of_block (by rw [setRow_other _ _ _ _ (by have := Q.out.n.lt; omega)]; exact Below.heap_alloc _ _ _ Q.out.n.lt),
     below_stored Q.out.b Q.out.b.size _ _⟩
  have Q3 := Lib.hid Q2.out
  obtain ⟨X, hX⟩ : ∃ X, X = ((w4.alloc (.cells (numsV zeros) 43)).setRow w4.heap.size (numsV G2)) := ⟨_, rfl⟩
  rw [← hX] at Q2
  have HX := Lib.hid hX
  clear hX
  have c1 : ∀ W, Tab W → Calls Tryd.prog 43 #[.agg (numsV G2), .int .i64 0] W fun e w' => e = .returned (.int .u64 6) ∧ Below W.heap.size W w' := fun W hT => by
    have h := reach_any G2 0 W mat2 hT
    rw [reach20] at h
    exact h
  have c2 : ∀ W, Tab W → Calls Tryd.prog 45 #[.agg (numsV G2), .int .i64 2] W fun e w' => e = .returned (.int .u64 3) ∧ Below W.heap.size W w' := fun W hT => by
    have h := back_any G2 2 W mat2 hT
    rw [back22] at h
    exact h
  have c3 : ∀ W, Tab W → Calls Tryd.prog 39 #[.agg (numsV G2), .int .i64 1] W fun e w' => e = .returned (.int .u64 4) ∧ Below W.heap.size W w' := fun W _ => by
    have h := outs_any G2 1 W mat2
    rw [outs21] at h
    exact h
  have c4 : ∀ W, Tab W → Calls Tryd.prog 41 #[.agg (numsV G2), .int .i64 1] W fun e w' => e = .returned (.int .u64 1) ∧ Below W.heap.size W w' := fun W _ => by
    have h := ins_any G2 1 W mat2
    rw [ins21] at h
    exact h
  have c5 : ∀ W, Tab W → Calls Tryd.prog 37 #[.agg (numsV G2), .int .i64 0, .int .i64 1] W fun e w' => e = .returned (.bool true) ∧ Below W.heap.size W w' := fun W _ => by
    have h := mhas_any G2 0 1 W mat2
    rw [has201] at h
    exact h
  have c6 : ∀ W, Tab W → Calls Tryd.prog 46 #[.agg (numsV G2)] W fun e w' => e = .returned (.bool true) ∧ Below W.heap.size W w' := fun W hT => by
    have h := free_any G2 W mat2 hT
    rw [free2] at h
    exact h
  have c7 : ∀ W, Tab W → Calls Tryd.prog 46 #[.agg (numsV G3)] W fun e w' => e = .returned (.bool false) ∧ Below W.heap.size W w' := fun W hT => by
    have h := free_any G3 W mat3 hT
    rw [free3] at h
    exact h
  have c8 : ∀ W, Tab W → Calls Tryd.prog 35 #[.agg (numsV G3), .int .i64 1] W fun e w' => e = .returned (.agg (numsV GC)) ∧ Below W.heap.size W w' := fun W _ => by
    have h := cut_any G3 1 W mat3
    rw [cut31] at h
    exact h
  have C1 := Lib.hid c1
  have C2 := Lib.hid c2
  have C3 := Lib.hid c3
  have C4 := Lib.hid c4
  have C5 := Lib.hid c5
  have C6 := Lib.hid c6
  have C7 := Lib.hid c7
  have C8 := Lib.hid c8
  clear c1 c2 c3 c4 c5 c6 c7 c8
  have heq : ∀ W, (Op.equalIn 10000 43 (.agg (numsV GC)) (.agg #[.int .u64 0, .int .u64 0, .int .u64 1, .int .u64 0, .int .u64 0, .int .u64 0, .int .u64 0, .int .u64 0, .int .u64 0, .int .u64 0, .int .u64 0, .int .u64 0, .int .u64 0, .int .u64 0, .int .u64 0, .int .u64 0, .int .u64 0, .int .u64 0, .int .u64 0, .int .u64 0, .int .u64 0, .int .u64 0, .int .u64 0, .int .u64 0, .int .u64 0, .int .u64 0, .int .u64 0, .int .u64 0, .int .u64 0, .int .u64 0, .int .u64 0, .int .u64 0])).run Tryd.prog W = .ok true W := fun W => run_equalIn_mat GC GC W rfl rfl
  go_wp2_with (first | (refine wpList_store_mat rfl _ _ rfl w4.heap.size G2 rfl rfl rfl zeros rfl (by exact nums_zero w4) ?_) | (refine wpList_load_mat' _ rfl g G2 rfl rfl (by exact Q3.out.m) (by rfl) ?_))
  change Calls Tryd.prog 43 _ ((w4.alloc (.cells (numsV zeros) 43)).setRow w4.heap.size (numsV G2)) _
  rw [← HX.out]
  have T2 := Lib.hid (Tab.below HT.out HT.out.pos Q2.out.b)
  refine (C1.out X T2.out).mono ?_
  rintro e y1 ⟨rfl, hY1⟩
  clear Q3 Q P1 P2 P3 P4 HX
  have R1 := Lib.hid (Q2.out.to hY1)
  have U1 := Lib.hid (Tab.below HT.out HT.out.pos R1.out.b)
  clear hY1
  go_wp2_with (refine wpList_load_mat' _ rfl g G2 rfl rfl R1.out.m (by rfl) ?_)
  refine (C2.out y1 U1.out).mono ?_
  rintro e y2 ⟨rfl, hY2⟩
  have R2 := Lib.hid (R1.out.to hY2)
  have U2 := Lib.hid (Tab.below HT.out HT.out.pos R2.out.b)
  clear hY2
  go_wp2_with (refine wpList_load_mat' _ rfl g G2 rfl rfl R2.out.m (by rfl) ?_)
  refine (C3.out y2 U2.out).mono ?_
  rintro e y3 ⟨rfl, hY3⟩
  have R3 := Lib.hid (R2.out.to hY3)
  have U3 := Lib.hid (Tab.below HT.out HT.out.pos R3.out.b)
  clear hY3
  go_wp2_with (refine wpList_load_mat' _ rfl g G2 rfl rfl R3.out.m (by rfl) ?_)
  refine (C4.out y3 U3.out).mono ?_
  rintro e y4 ⟨rfl, hY4⟩
  have R4 := Lib.hid (R3.out.to hY4)
  have U4 := Lib.hid (Tab.below HT.out HT.out.pos R4.out.b)
  clear hY4
  go_wp2_with (refine wpList_load_mat' _ rfl g G2 rfl rfl R4.out.m (by rfl) ?_)
  refine (C5.out y4 U4.out).mono ?_
  rintro e y5 ⟨rfl, hY5⟩
  have R5 := Lib.hid (R4.out.to hY5)
  have U5 := Lib.hid (Tab.below HT.out HT.out.pos R5.out.b)
  clear hY5
  go_wp2_with (refine wpList_load_mat' _ rfl g G2 rfl rfl R5.out.m (by rfl) ?_)
  refine (C6.out y5 U5.out).mono ?_
  rintro e y6 ⟨rfl, hY6⟩
  have R6 := Lib.hid (R5.out.to hY6)
  have U6 := Lib.hid (Tab.below HT.out HT.out.pos R6.out.b)
  clear hY6
  go_wp2_with (refine wpList_load_mat' _ rfl h G3 rfl rfl R6.out.n (by rfl) ?_)
  refine (C7.out y6 U6.out).mono ?_
  rintro e y7 ⟨rfl, hY7⟩
  have R7 := Lib.hid (R6.out.to hY7)
  have U7 := Lib.hid (Tab.below HT.out HT.out.pos R7.out.b)
  clear hY7
  go_wp2_with (refine wpList_load_mat' _ rfl h G3 rfl rfl R7.out.n (by rfl) ?_)
  refine (C8.out y7 U7.out).mono ?_
  rintro e y8 ⟨rfl, hY8⟩
  have R8 := Lib.hid (R7.out.to hY8)
  clear hY8
  go_wp2_with fail
  go_ret
  exact ⟨rfl, R8.out.b⟩
end Go.Proofs.YtkgfepnkikcpiaaDoor
