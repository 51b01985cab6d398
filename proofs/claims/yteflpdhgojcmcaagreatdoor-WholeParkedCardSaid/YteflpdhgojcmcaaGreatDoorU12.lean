/- The walk of graph's Read, of a transaction without steps, of a variable that nobody else writes. The walks of graph's Values and New. The walks of clocked's Values and of the recorder's good, Record and Values, with either engine. The walks of the recorder's Values, with either engine, and of Record. The walk of the recorder's keep: one event more. No conditions but those that each theorem names. -/
import Derived.Test.YteflpdhgojcmcaaGreatDoorU01
import Derived.Test.YteflpdhgojcmcaaGreatDoorU11
import Derived.Test.YteflpdhgojcmcaaGreatDoorU10
import Derived.OneCell
namespace Go.Proofs.YteflpdhgojcmcaaGreatDoor
open Go.RowKit PSet PMat
set_option maxRecDepth 100000 in
set_option maxHeartbeats 1000000 in
theorem grRead (g : Nat) (L : List Value) (v : Value) (K : List Value) (lg : Value) (ct : Int) (z id c : Int) (x : Nat) (s : List VarM) (m : VarM) (w : World) (hE : EngAt w g L v K lg ct) (h0 : L[0]? = some (.int .i64 z)) (hz : 0 < z)
    (h65 : L[65]? = some (.int .u64 (1 : Nat))) (h66 : L[66]? = some (.int .u64 (0 : Nat))) (h67 : L[67]? = some (.int .i64 id)) (h99 : L[99]? = some (.int .i64 c)) (hi : 1 ≤ id) (hic : id ≤ c)
    (hK : K[0]? = some (.slice none 0 0)) (hs : StoreAt w v s) (hvg : v.ownBlock ≠ some g) (hx : s[x]? = some m) (hx64 : x < 64) (hn : s.length ≤ 100000) (hv : rightV m.k m.n = true) (hw : m.wr = -1) (hmm : m.marks < 2 ^ 64) (hT : Tab w) :
    Calls Tryz.prog 331 #[.pointer (some ⟨g, 0, none⟩), .int .i64 id, .int .i64 x] w fun e w' => e = .returned (.tuple #[.agg #[.int .i64 m.k, .int .i64 m.n], .int .i64 0]) ∧
      ∃ v' t', EngAt w' g L v' (K.set 0 t') lg ct ∧ w'.ownsRow w.heap.size 155 4 t' 1 (StepM.cells ⟨x, m.k, m.n, false⟩) ∧ w'.ownsRow w.heap.size 197 5 v' s.length (storeC (s.set x { m with marks := withN m.marks 0 })) ∧ Chg (fun b => b = g) w w' := by
  have lg0 : g < w.heap.size := hE.lt
  obtain ⟨W, hW⟩ : ∃ W, W = w.alloc (.cells #[.int .i64 0, .int .i64 0] 53) := ⟨_, rfl⟩
  have hbW : Below w.heap.size w W := by rw [hW]; exact (Below.refl _ _).alloc (Nat.le_refl _) _
  have hrW : W.heap[w.heap.size]? = some (.cells #[.int .i64 0, .int .i64 0] 53) := by rw [hW]; exact Go.heap_alloc_new _ _
  have hEW : EngAt W g L v K lg ct := hE.below hbW
  have C1 := Lib.hid (grWho g z id c W (hEW.pool h0) hz (hEW.pool h65) (hEW.pool h66) (hEW.pool h67) (hEW.pool h99) hi hic (hT.below hT.pos hbW))
  have C2 := Lib.hid (fun W (hs : StoreAt W v s) => get_yes v s x m W hs hx hn)
  have C3 := Lib.hid (look_nil (x : Int))
  have C4 := Lib.hid (fun W => txnRead_nil x m.k m.n W (by omega) (by omega) hv)
  have C5 := Lib.hid (fun W (hs : StoreAt W v s) => mark_yes v s x m 0 W hs hx hn hmm (by decide))
  have HS := Lib.hid hs
  have HV := Lib.hid hvg
  obtain ⟨_, va, vc, rfl, _⟩ := hs
  obtain ⟨mk, mn, mver, mwr, mmk⟩ := m
  simp only at hw
  subst hw
  have HEW := Lib.hid hEW
  have HBW := Lib.hid hbW
  have HRW := Lib.hid hrW
  have HK := Lib.hid hK
  clear hE h0 hz h65 h66 h67 h99 hi hic hT hv hEW hbW hrW hK hvg hx hmm
  go_enter Tryz.func331, Tryz.ntmps331
  go_wp2_with fail
  rw [← hW]
  refine (C1.out).mono ?_
  rintro e y ⟨rfl, hb⟩
  have hE1 := HEW.out.below hb
  have r1 := (hb.block _ (block_lt HRW.out)).trans HRW.out
  have hB1 := HBW.out.trans (hb.mono HBW.out.size)
  have s100 := hE1.store
  have HE1 := Lib.hid hE1
  have R1 := Lib.hid r1
  have HB1 := Lib.hid hB1
  clear hW hb hE1 r1 HEW HBW HRW C1 hB1
  go_wp2_with fail
  refine (C2.out _ (HS.out.below HB1.out)).mono ?_
  rintro e y2 ⟨rfl, hb⟩
  dsimp only [VarM.cells]
  have hE2 := HE1.out.below hb
  have r2 := (hb.block _ (block_lt R1.out)).trans R1.out
  have hws : w.heap.size < y2.heap.size := block_lt r2
  have hB2 := HB1.out.trans (hb.mono HB1.out.size)
  have k101 := hE2.work HK.out
  have hgy : g < y2.heap.size := hE2.lt
  have HE2 := Lib.hid hE2
  have R2 := Lib.hid r2
  have HB2 := Lib.hid hB2
  clear hb hE2 r2 hB2 HE1 R1 HB1 C2 s100
  go_wp2_with fail
  refine (C3.out _).mono ?_
  rintro e y4 ⟨rfl, hb⟩
  have hbA : Below y2.heap.size y2 y4 := ((Below.refl _ y2).alloc (Nat.le_refl _) _).trans (hb.mono (by simp))
  have rA : y4.heap[y2.heap.size]? = some (.cells #[.int .i64 mk, .int .i64 mn, .int .i64 mver, .int .i64 (-1), .int .u64 (mmk : Int)] 197) := (hb.block _ (by simp)).trans (Go.heap_alloc_new _ _)
  have hbB : Below y2.heap.size y2 (y4.alloc (.cells #[.int .i64 0, .int .i64 0] 53)) := hbA.alloc hbA.size _
  have rB : (y4.alloc (.cells #[.int .i64 0, .int .i64 0] 53)).heap[y2.heap.size]? = some (.cells #[.int .i64 mk, .int .i64 mn, .int .i64 mver, .int .i64 (-1), .int .u64 (mmk : Int)] 197) := (heap_alloc_old _ _ (block_lt rA)).trans rA
  have hE5 := HE2.out.below hbB
  have r5 := (hbB.block _ (block_lt R2.out)).trans R2.out
  have hB5 := HB2.out.trans (hbB.mono HB2.out.size)
  have j0 := cell_of_row _ _ 0 _ _ _ rB
  have j1 := cell_of_row _ _ 1 _ _ _ rB
  have j3 := cell_of_row _ _ 3 _ _ _ rB
  have j101 := hE5.work HK.out
  have HE5 := Lib.hid hE5
  have R5 := Lib.hid r5
  have HB5 := Lib.hid hB5
  have RB := Lib.hid rB
  have hyy := hbA.size
  clear hb hbA rA hbB rB hE5 r5 hB5 HE2 R2 HB2 C3 k101
  go_upto_region 11 with (fail)
  generalize y4.alloc (.cells #[.int .i64 0, .int .i64 0] 53) = W5 at *
  have hS0 : (fun w' : World => w'.cell? ⟨y2.heap.size, 0, none⟩ = some (.int .i64 mk) ∧ w'.cell? ⟨y2.heap.size, 1, none⟩ = some (.int .i64 mn) ∧ w'.cell? ⟨g, 101, none⟩ = some (.slice none 0 0)) W5.drew := ⟨j0, j1, j101⟩
  refine wp_region_held_drew (S := fun w' => w'.cell? ⟨y2.heap.size, 0, none⟩ = some (.int .i64 mk) ∧ w'.cell? ⟨y2.heap.size, 1, none⟩ = some (.int .i64 mn) ∧ w'.cell? ⟨g, 101, none⟩ = some (.slice none 0 0)) (by kernel_rfl) hS0 (fun hHeld => ?_)
  clear hS0
  refine hd 0 (v := ?_) ?_ ?_
  rotate_left
  · rintro w ⟨hS1, hS2, hS3⟩; go_simp; try with_reducible rfl
  simp only [Act.put, pt1, pt2, pt3]
  refine hd 1 (v := ?_) ?_ ?_
  rotate_left
  · rintro w ⟨hS1, hS2, hS3⟩; go_simp; try with_reducible rfl
  simp only [Act.put, pt1, pt2, pt3]
  refine hd 2 (v := ?_) ?_ ?_
  rotate_left
  · rintro w ⟨hS1, hS2, hS3⟩; go_simp; try with_reducible rfl
  simp only [Act.put, pt1, pt2, pt3]
  refine hd 3 (v := ?_) ?_ ?_
  rotate_left
  · rintro w ⟨hS1, hS2, hS3⟩; go_simp; try with_reducible rfl
  simp only [Act.put, pt1, pt2, pt3]
  refine hd 4 (v := ?_) ?_ ?_
  rotate_left
  · rintro w ⟨hS1, hS2, hS3⟩; go_simp; try with_reducible rfl
  simp only [Act.put, pt1, pt2, pt3]
  refine hd 5 (v := ?_) ?_ ?_
  rotate_left
  · rintro w ⟨hS1, hS2, hS3⟩; go_simp; try with_reducible rfl
  simp only [Act.put, pt1, pt2, pt3]
  refine hd 6 (v := .agg #[.int .i64 mk, .int .i64 mn]) ?_ ?_
  · rintro w ⟨hS1, hS2, hS3⟩; go_simp
  simp only [Act.put, pt1, pt2, pt3]
  refine hcl 7 (fun K' hK => ?_)
  go_simp
  go_at_call 197
  refine (C4.out _).mono ?_
  rintro e y6 ⟨t', rfl, hown, hb⟩
  have hE6 : EngAt y6 g L (.slice va s.length vc) K lg ct := (HE5.out.keep (w' := W5.drew) rfl).below hb
  have r6 := (hb.block _ (block_lt R5.out)).trans R5.out
  have rB6 := (hb.block _ (block_lt RB.out)).trans RB.out
  have hB6 := HB5.out.drew.trans (hb.mono HB5.out.drew.size)
  have hs6 : W5.heap.size ≤ y6.heap.size := hb.size
  have hl6 : y2.heap.size < W5.heap.size := block_lt RB.out
  have HE6 := Lib.hid hE6
  have R6 := Lib.hid r6
  have RB6 := Lib.hid rB6
  have HB6 := Lib.hid hB6
  have HO6 := Lib.hid hown
  obtain ⟨_, ta, tc, rfl, _⟩ := RowAt.of_owns hown
  clear hE6 r6 rB6 hB6 hown hb HE5 R5 RB HB5
  go_wp2_with fail
  refine hK.out _ _ ?_ (fun hHeld => ?_)
  · exact ⟨cell_of_row _ _ 0 _ _ _ RB6.out, cell_of_row _ _ 1 _ _ _ RB6.out, HE6.out.work HK.out⟩
  clear hK K'
  try simp only [Act.put, pt1, pt2, pt3]
  refine hd 8 (v := ?_) ?_ ?_
  rotate_left
  · rintro w ⟨hS1, hS2, hS3⟩; go_simp; try with_reducible rfl
  simp only [Act.put, pt1, pt2, pt3]
  refine hd 9 (v := ?_) ?_ ?_
  rotate_left
  · rintro w ⟨hS1, hS2, hS3⟩; go_simp; try with_reducible rfl
  simp only [Act.put, pt1, pt2, pt3]
  refine hd 10 (v := ?_) ?_ ?_
  rotate_left
  · rintro w ⟨hS1, hS2, hS3⟩; go_simp; try with_reducible rfl
  simp only [Act.put, pt1, pt2, pt3]
  refine hd 11 (v := ?_) ?_ ?_
  rotate_left
  · rintro w ⟨hS1, hS2, hS3⟩; go_simp; try with_reducible rfl
  simp only [Act.put, pt1, pt2, pt3]
  refine hd 12 (v := ?_) ?_ ?_
  rotate_left
  · rintro w ⟨hS1, hS2, hS3⟩; go_simp; try with_reducible rfl
  simp only [Act.put, pt1, pt2, pt3]
  refine held_done (by kernel_rfl) ?_
  clear hHeld j0 j1 j3 j101
  have i3 := cell_of_row _ _ 3 _ _ _ RB6.out
  have k6 := HE6.out.work HK.out
  have f6 := HE6.out.frozen 101
  go_upto_region 20 with (fail)
  refine name_w ?_
  intro W7 hW7
  have hE7 : EngAt W7 g L (.slice va s.length vc) (K.set 0 (.slice ta 1 tc)) lg ct := by rw [hW7]; exact HE6.out.setWork 0 (by decide) _
  have hc7 : Chg (fun b => b = g) w W7 := by rw [hW7]; exact Chg.setCell (F := fun b => b = g) (Chg.of_below HB6.out) (p := ⟨g, 101, none⟩) (.inl rfl) _
  have hlw : w.heap.size ≠ g := by omega
  have hly : y2.heap.size ≠ g := by omega
  have r7 : W7.heap[w.heap.size]? = some (.cells #[.int .i64 0, .int .i64 0] 53) := by rw [hW7]; exact (heap_setCell_other _ _ _ _ hlw).trans R6.out
  have rB7 : W7.heap[y2.heap.size]? = some (.cells #[.int .i64 mk, .int .i64 mn, .int .i64 mver, .int .i64 (-1), .int .u64 (mmk : Int)] 197) := by rw [hW7]; exact (heap_setCell_other _ _ _ _ hly).trans RB6.out
  have ho7 : W7.ownsRow y2.heap.size 155 4 (.slice ta 1 tc) 1 (StepM.cells ⟨x, mk, mn, false⟩) := by
    rw [hW7]
    exact owns_mono (owns_keep HO6.out fun k hk _ => heap_setCell_other _ _ _ _ (by simp at hk ⊢; omega)) (by simp; omega)
  have hs7 : StoreAt W7 (.slice va s.length vc) s := HS.out.chg hc7 (fun b hb e => HV.out (by rw [hb, e]))
  have HE7 := Lib.hid hE7
  have HC7 := Lib.hid hc7
  have R7 := Lib.hid r7
  have RB7 := Lib.hid rB7
  have HO7 := Lib.hid ho7
  have HS7 := Lib.hid hs7
  have s7 := hE7.store
  have g7 := hE7.frozen 100
  clear hW7 hE7 hc7 r7 rB7 ho7 hs7 HE6 R6 RB6 HB6 HO6 i3 k6 f6
  go_wp2_with fail
  refine (C5.out _ HS7.out).mono ?_
  rintro e y8 ⟨v', rfl, hown, hb⟩
  obtain ⟨_, sa, sc, rfl, _⟩ := RowAt.of_owns hown
  have hE8 := HE7.out.below hb
  have r8 := (hb.block _ (block_lt R7.out)).trans R7.out
  have rB8 := (hb.block _ (block_lt RB7.out)).trans RB7.out
  have ho8 := owns_keep HO7.out (fun k _ hl => hb.block k hl)
  have hc8 := HC7.out.below hb HC7.out.size
  have hl7 : w.heap.size ≤ W7.heap.size := HC7.out.size
  have s8 := hE8.store
  have g8 := hE8.frozen 100
  have b0 := cell_of_row _ _ 0 _ _ _ rB8
  have b1 := cell_of_row _ _ 1 _ _ _ rB8
  have c0 := cell_of_row _ _ 0 _ _ _ r8
  have c1 := cell_of_row _ _ 1 _ _ _ r8
  have f8 := fun j => frozen_of_row _ _ j _ _ r8
  have HE8 := Lib.hid hE8
  have R8 := Lib.hid r8
  have HO8 := Lib.hid ho8
  have HC8 := Lib.hid hc8
  have HN8 := Lib.hid hown
  have hgl : g < W7.heap.size := HE7.out.lt
  have hlr : w.heap.size < W7.heap.size := block_lt R7.out
  clear hE8 r8 rB8 ho8 hc8 hown hb HE7 R7 RB7 HO7 HC7 HS7 s7 g7 C5
  go_wp2_with fail
  refine bodyPost_ret (results_cell_tmp rfl _ _ w.heap.size 53 #[.int .i64 mk, .int .i64 mn] (0, 0) _ rfl ?_ Tryz.underlying53 rfl (by kernel_rfl)) rfl ⟨rfl, _, _, ((HE8.out.setStore _).keep ((heap_setCell_other _ _ _ _ (fun e => hlw e.symm)).trans (heap_setCell_other _ _ _ _ (fun e => hlw e.symm)))), ?_, ?_, ?_⟩
  · exact heap_setCell_same _ _ 1 _ _ _ (heap_setCell_same _ _ 0 _ _ _ ((heap_setCell_other _ _ _ _ hlw).trans R8.out))
  · refine owns_mono (owns_keep HO8.out fun k hk _ => ?_) (Nat.le_of_lt hws)
    exact (heap_setCell_other _ _ _ _ (by simp; omega)).trans ((heap_setCell_other _ _ _ _ (by simp; omega)).trans (heap_setCell_other _ _ _ _ (by simp; omega)))
  · refine owns_mono (owns_keep HN8.out fun k hk _ => ?_) hl7
    have : w.heap.size < W7.heap.size := hlr
    exact (heap_setCell_other _ _ _ _ (by simp; omega)).trans ((heap_setCell_other _ _ _ _ (by simp; omega)).trans (heap_setCell_other _ _ _ _ (by simp; omega)))
  · exact Chg.setCell (F := fun b => b = g) (Chg.setCell (F := fun b => b = g) (Chg.setCell (F := fun b => b = g) HC8.out (p := ⟨g, 100, none⟩) (.inl rfl) _) (p := ⟨w.heap.size, 0, none⟩) (.inr (Nat.le_refl _)) _) (p := ⟨w.heap.size, 1, none⟩) (.inr (Nat.le_refl _)) _
end Go.Proofs.YteflpdhgojcmcaaGreatDoor
namespace Go.Proofs.YteflpdhgojcmcaaGreatDoor
open Go.RowKit PSet PMat
theorem grValues (g : Nat) (L : List Value) (v : Value) (K : List Value) (lg : Value) (ct z : Int) (s : List VarM) (w : World) (hE : EngAt w g L v K lg ct) (h0 : L[0]? = some (.int .i64 z)) (hz : 0 < z) (hs : StoreAt w v s) (hn : s.length ≤ 1000) :
    Calls Tryz.prog 333 #[.pointer (some ⟨g, 0, none⟩)] w fun e w' => ∃ v', e = .returned v' ∧ w'.ownsRow w.heap.size 53 2 v' s.length (valsC s) ∧ Below w.heap.size w w' := by
  have C1 := Lib.hid (grGood g z w (hE.pool h0) hz)
  have C2 := Lib.hid (values_any v s w hs hn)
  have s100 := hE.store
  obtain ⟨_, va, vc, rfl, _⟩ := hs
  clear hE h0 hz hn
  go_enter Tryz.func333, Tryz.ntmps333
  go_wp2_with fail
  refine (C1.out).mono ?_
  rintro e y ⟨rfl, rfl⟩
  go_wp2_with fail
  refine (C2.out).mono ?_
  rintro e y ⟨v', rfl, hown, hb⟩
  have HF := Lib.hid (And.intro hown hb)
  clear hown hb
  go_wp2_with fail
  go_ret
  exact ⟨v', rfl, HF.out.1, HF.out.2⟩
def zeroWorks : List Value := (List.replicate 32 [Value.slice none 0 0, Value.bool false]).flatten
theorem zeroWorks_length : zeroWorks.length = 64 := by rfl
theorem build_eng (z : Int) (a : Option Addr) (n c : Nat) (w : World) : (Instr.build 151 #[(0, .agg (newP z).toArray), (1, .slice a n c)]).run Tryz.prog w = .ok (.agg (engC (newP z) (.slice a n c) zeroWorks (.slice none 0 0) 0).toArray) w := by kernel_rfl
set_option maxRecDepth 100000 in
theorem grNew (z n : Nat) (w : World) (hz : 1 ≤ z ∧ z ≤ 32) (hn : 1 ≤ n ∧ n ≤ 64) :
    Calls Tryz.prog 31 #[.int .i64 z, .int .i64 n] w fun e w' => ∃ g v, e = .returned (.pointer (some ⟨g, 0, none⟩)) ∧ w.heap.size ≤ g ∧ EngAt w' g (newP z) v zeroWorks (.slice none 0 0) 0 ∧ w'.ownsRow w.heap.size 197 5 v n (storeC (List.replicate n newVar)) ∧ v.ownBlock ≠ some g ∧ Below w.heap.size w w' := by
  have C1 := Lib.hid (poolNew z w hz)
  have C2 := Lib.hid (fun W => storeNew_any n W hn.1 hn.2)
  have hbd := build_eng z
  have hl := newP_length z
  have ho := newP_one z
  generalize hN : newP z = N at *
  have HL := Lib.hid hl
  have HO := Lib.hid ho
  have HBD := Lib.hid hbd
  clear hN hl ho hbd hz hn
  go_enter Tryz.func31, Tryz.ntmps31
  go_wp2_with fail
  refine (C1.out).mono ?_
  rintro e y ⟨rfl, hb⟩
  have hz1 := Go.heap_alloc_new y (.cells zeroPool 144)
  have HZ := Lib.hid hz1
  have HB1 := Lib.hid (hb.alloc hb.size (.cells zeroPool 144))
  have hsy := hb.size
  clear hz1 hb
  go_wp2_with (refine wpList_store_row rfl 144 _ _ rfl y.heap.size N.toArray rfl rfl 144 zeroPool HZ.out (info144a (by simpa using HL.out)) (by simp [HL.out, zeroPool_size]) HO.out ?_)
  refine (C2.out _).mono ?_
  rintro e y3 ⟨v, rfl, hown, hb⟩
  have r3 : y3.heap[y.heap.size]? = some (.cells N.toArray 144) := (hb.block _ (by simp [World.setRow])).trans (block_setRow_same HZ.out)
  have hB3 := (below_setRow' HB1.out hsy N.toArray).trans (hb.mono (B' := w.heap.size) (by simp [World.setRow]; omega))
  have hl3 := hb.size
  simp [World.setRow] at hl3
  obtain ⟨_, va, vc, rfl, _⟩ := RowAt.of_owns hown
  have R3 := Lib.hid r3
  have HB3 := Lib.hid hB3
  have HO3 := Lib.hid hown
  clear r3 hB3 hown hb HZ HB1 C1 C2
  go_wp2_with (first
    | (refine wpList_load_row rfl 144 _ rfl y.heap.size rfl 144 N.toArray (0, 0) _ R3.out Tryz.underlying144 rfl (info144a (by simpa using HL.out)) ?_)
    | (refine wpList_build rfl 151 _ rfl #[(0, .agg N.toArray), (1, .slice va n vc)] (by simp only [List.map_toArray, List.map_cons, List.map_nil]; rfl) (.agg (engC N (.slice va n vc) zeroWorks (.slice none 0 0) 0).toArray) (by exact HBD.out _ _ _ _) ?_))
  go_ret
  refine ⟨y3.heap.size, _, rfl, HB3.out.size, ⟨Go.heap_alloc_new _ _, HL.out, zeroWorks_length⟩, ?_, ?_, HB3.out.alloc HB3.out.size _⟩
  · exact owns_mono (owns_keep HO3.out fun k _ hk => heap_alloc_old _ _ hk) (by simp [World.setRow]; omega)
  · intro e
    have := (HO3.out.lt _ e).2
    omega
end Go.Proofs.YteflpdhgojcmcaaGreatDoor
namespace Go.Proofs.YteflpdhgojcmcaaGreatDoor
open Go.RowKit PSet PMat
theorem clValues (g : Nat) (v : Value) (z : Int) (s : List VarM) (w : World) (h0 : w.cell? ⟨g, 0, none⟩ = some (.int .i64 z)) (hz : 0 < z) (h1 : w.cell? ⟨g, 1, none⟩ = some v) (hs : StoreAt w v s) (hn : s.length ≤ 1000) :
    Calls Tryz.prog 315 #[.pointer (some ⟨g, 0, none⟩)] w fun e w' => ∃ v', e = .returned v' ∧ w'.ownsRow w.heap.size 53 2 v' s.length (valsC s) ∧ Below w.heap.size w w' := by
  have C1 := Lib.hid (clGood g z w h0 hz)
  have C2 := Lib.hid (values_any v s w hs hn)
  obtain ⟨_, va, vc, rfl, _⟩ := hs
  clear h0 hz hn
  go_enter Tryz.func315, Tryz.ntmps315
  go_wp2_with fail
  refine (C1.out).mono ?_
  rintro e y ⟨rfl, rfl⟩
  go_wp2_with fail
  refine (C2.out).mono ?_
  rintro e y ⟨v', rfl, hown, hb⟩
  have HF := Lib.hid (And.intro hown hb)
  clear hown hb
  go_wp2_with fail
  go_ret
  exact ⟨v', rfl, HF.out.1, HF.out.2⟩
theorem reGood (r t : Nat) (x : Value) (w : World) (h0 : w.cell? ⟨r, 0, none⟩ = some (.iface t x)) :
    Calls Tryz.prog 80 #[.pointer (some ⟨r, 0, none⟩)] w fun e w' => e = .returned (.bool true) ∧ w = w' := by
  have hq : ∀ w : World, (binOp .neq 91 (.iface t x) .nilIface).run Tryz.prog w = .ok (.bool true) w := fun w => by kernel_rfl
  go_enter Tryz.func80, Tryz.ntmps80
  go_wp2_with fail
  go_ret
  exact ⟨rfl, rfl⟩
end Go.Proofs.YteflpdhgojcmcaaGreatDoor
namespace Go.Proofs.YteflpdhgojcmcaaGreatDoor
open Go.RowKit PSet PMat
set_option maxRecDepth 100000 in
/-- The recorder's Values, whatever engine it holds: the engine's own Values. -/
theorem reValues (r t g f : Nat) (R : Value → World → Prop) (w : World) (h0 : w.cell? ⟨r, 0, none⟩ = some (.iface t (.pointer (some ⟨g, 0, none⟩)))) (hf : (t = 101 ∧ f = 333) ∨ (t = 98 ∧ f = 315))
    (hc : Calls Tryz.prog f #[.pointer (some ⟨g, 0, none⟩)] w fun e w' => ∃ v', e = .returned v' ∧ R v' w') :
    Calls Tryz.prog 41 #[.pointer (some ⟨r, 0, none⟩)] w fun e w' => ∃ v', e = .returned v' ∧ R v' w' := by
  have C1 := Lib.hid (reGood r t _ w h0)
  have C2 := Lib.hid hc
  clear hc
  rcases hf with ⟨rfl, rfl⟩ | ⟨rfl, rfl⟩
  all_goals
    go_enter Tryz.func41, Tryz.ntmps41
    go_wp2_with fail
    refine (C1.out).mono ?_
    rintro e y ⟨rfl, rfl⟩
    go_wp2_with fail
    refine (C2.out).mono ?_
    rintro e y ⟨v', rfl, hR⟩
    have HR := Lib.hid hR
    clear hR
    go_wp2_with fail
    go_ret
    exact ⟨v', rfl, HR.out⟩
theorem reRecord (t : Nat) (x : Value) (w : World) (_hx : x.oneCell' = true) :
    Calls Tryz.prog 29 #[.iface t x] w fun e w' => e = .returned (.pointer (some ⟨w.heap.size, 0, none⟩)) ∧ w' = w.alloc (.cells #[.iface t x, .slice none 0 0] 128) := by
  have hq : ∀ w : World, (binOp .eql 91 (.iface t x) .nilIface).run Tryz.prog w = .ok (.bool false) w := fun w => by kernel_rfl
  go_enter Tryz.func29, Tryz.ntmps29
  go_wp2_with fail
  go_ret
  exact ⟨rfl, rfl⟩
end Go.Proofs.YteflpdhgojcmcaaGreatDoor
namespace Go.Proofs.YteflpdhgojcmcaaGreatDoor
open Go.RowKit PSet PMat
theorem owns_type {w : World} {B e k n t r : Nat} {v : Value} {xs : List Value} {cs : Array Value} (h : w.ownsRow B e k v n xs) (hr : w.heap[r]? = some (.cells cs t (0, 0))) (hne : e ≠ t) : v.ownBlock ≠ some r := by
  obtain ⟨_, h⟩ := h
  rcases h with ⟨rfl, _⟩ | ⟨g, cap, cur, rfl, _, hg, _⟩
  · simp [Value.ownBlock]
  · intro e1
    simp only [Value.ownBlock, Option.some.injEq] at e1
    subst e1
    rw [hg] at hr
    simp only [Option.some.injEq, Obj.cells.injEq] at hr
    exact hne hr.2.1
theorem event_one (e0 e1 e2 e3 e4 : Int) : AllOne [.int .i64 e0, .int .i64 e1, .int .i64 e2, .int .i64 e3, .int .i64 e4] := by
  intro u hu
  simp at hu
  rcases hu with rfl | rfl | rfl | rfl | rfl <;> rfl
set_option maxRecDepth 100000 in
set_option maxHeartbeats 1000000 in
theorem reKeep (B r n : Nat) (hv : Value) (evs : List Value) (e0 e1 e2 e3 e4 : Int) (w : World) (x : Value) (hr : w.heap[r]? = some (.cells #[x, hv] 128)) (hown : w.ownsRow B 193 5 hv n evs) (hn : n ≤ 100000) (hB : B ≤ w.heap.size) :
    Calls Tryz.prog 307 #[.pointer (some ⟨r, 0, none⟩), .agg #[.int .i64 e0, .int .i64 e1, .int .i64 e2, .int .i64 e3, .int .i64 e4], .int .i64 0] w fun e w' => e = .returned (.tuple #[]) ∧
      ∃ hv', w'.heap[r]? = some (.cells #[x, hv'] 128) ∧ w'.ownsRow B 193 5 hv' (n + 1) (evs ++ [.int .i64 e0, .int .i64 e1, .int .i64 e2, .int .i64 e3, .int .i64 e4]) ∧ Chg (fun b => b = r ∨ hv.ownBlock = some b) w w' := by
  obtain ⟨i0, z, hi, hz0, hz1, hz2, hz3⟩ := info_193
  have lr : r < w.heap.size := block_lt hr
  have h1 := cell_of_row _ _ 1 _ _ _ hr
  have hf := frozen_of_row _ _ 1 _ _ hr
  have hne : hv.ownBlock ≠ some r := owns_type hown hr (by decide)
  have HR := Lib.hid hr
  have NR := Lib.hid hne
  have nb : hv.ownBlock ≠ some w.heap.size := fun e => absurd (hown.lt _ e).2 (Nat.lt_irrefl _)
  have NB := Lib.hid nb
  clear nb
  clear hne
  obtain ⟨_, ha, hc, rfl, _⟩ := RowAt.of_owns hown
  obtain ⟨W, hW⟩ : ∃ W, W = w.alloc (.cells #[.int .i64 e0, .int .i64 e1, .int .i64 e2, .int .i64 e3, .int .i64 e4] 193) := ⟨_, rfl⟩
  have hbW : Below w.heap.size w W := by rw [hW]; exact (Below.refl _ _).alloc (Nat.le_refl _) _
  have hrW : W.heap[w.heap.size]? = some (.cells #[.int .i64 e0, .int .i64 e1, .int .i64 e2, .int .i64 e3, .int .i64 e4] 193) := by rw [hW]; exact Go.heap_alloc_new _ _
  have k1 := (hbW.cell (p := ⟨r, 1, none⟩) lr).trans h1
  have OWN := Lib.hid (owns_keep (w' := (W.alloc (.cells #[.int .i64 e0, .int .i64 e1, .int .i64 e2, .int .i64 e3, .int .i64 e4] 193)).drew) hown (fun g _ hl => (heap_alloc_old _ _ (Nat.lt_of_lt_of_le hl hbW.size)).trans (hbW.block g hl)))
  have FR := Lib.hid ((hbW.frozen (p := ⟨r, 1, none⟩) lr).trans hf)
  have cells : ∀ j, W.cell? ⟨w.heap.size, j, none⟩ = (#[.int .i64 e0, .int .i64 e1, .int .i64 e2, .int .i64 e3, .int .i64 e4] : Array Value)[j]? := fun j => cell_of_row _ _ j _ _ _ hrW
  have c0 := cells 0
  have c1 := cells 1
  have c2 := cells 2
  have c3 := cells 3
  have c4 := cells 4
  have HRW := Lib.hid hrW
  have HBW := Lib.hid hbW
  have lW := block_lt hrW
  clear h1 hf hown hbW hrW cells
  go_enter Tryz.func307, Tryz.ntmps307
  go_wp2_with fail
  rw [← hW]
  clear hW
  have hS0 : (fun w' : World => w'.cell? ⟨w.heap.size, 0, none⟩ = some (.int .i64 e0) ∧ w'.cell? ⟨w.heap.size, 1, none⟩ = some (.int .i64 e1) ∧ w'.cell? ⟨w.heap.size, 2, none⟩ = some (.int .i64 e2) ∧ w'.cell? ⟨w.heap.size, 3, none⟩ = some (.int .i64 e3) ∧ w'.cell? ⟨w.heap.size, 4, none⟩ = some (.int .i64 e4)) W.drew := ⟨c0, c1, c2, c3, c4⟩
  refine wp_region_held_drew (S := fun w' => w'.cell? ⟨w.heap.size, 0, none⟩ = some (.int .i64 e0) ∧ w'.cell? ⟨w.heap.size, 1, none⟩ = some (.int .i64 e1) ∧ w'.cell? ⟨w.heap.size, 2, none⟩ = some (.int .i64 e2) ∧ w'.cell? ⟨w.heap.size, 3, none⟩ = some (.int .i64 e3) ∧ w'.cell? ⟨w.heap.size, 4, none⟩ = some (.int .i64 e4)) (by kernel_rfl) hS0 (fun hHeld => ?_)
  clear hS0
  refine hd 0 (v := ?_) ?_ ?_
  rotate_left
  · rintro w ⟨hS0, hS1, hS2, hS3, hS4⟩; go_simp; try with_reducible rfl
  simp only [Act.put, pt1, pt2, pt3]
  refine hd 1 (v := ?_) ?_ ?_
  rotate_left
  · rintro w ⟨hS0, hS1, hS2, hS3, hS4⟩; go_simp; try with_reducible rfl
  simp only [Act.put, pt1, pt2, pt3]
  refine hd 2 (v := ?_) ?_ ?_
  rotate_left
  · rintro w ⟨hS0, hS1, hS2, hS3, hS4⟩; go_simp; try with_reducible rfl
  simp only [Act.put, pt1, pt2, pt3]
  refine hd 3 (v := ?_) ?_ ?_
  rotate_left
  · rintro w ⟨hS0, hS1, hS2, hS3, hS4⟩; go_simp; try with_reducible rfl
  simp only [Act.put, pt1, pt2, pt3]
  refine hd 5 (v := .agg #[.int .i64 e0, .int .i64 e1, .int .i64 e2, .int .i64 e3, .int .i64 e4]) ?_ ?_
  · rintro w ⟨hS0, hS1, hS2, hS3, hS4⟩; go_simp
  simp only [Act.put, pt1, pt2, pt3]
  have lrW : r < W.heap.size := by omega
  have k1' : W.drew.cell? ⟨r, 1, none⟩ = some (.slice ha n hc) := k1
  have cells : ∀ o : Obj, (fun w' : World => w'.cell? ⟨w.heap.size, 0, none⟩ = some (.int .i64 e0) ∧ w'.cell? ⟨w.heap.size, 1, none⟩ = some (.int .i64 e1) ∧ w'.cell? ⟨w.heap.size, 2, none⟩ = some (.int .i64 e2) ∧ w'.cell? ⟨w.heap.size, 3, none⟩ = some (.int .i64 e3) ∧ w'.cell? ⟨w.heap.size, 4, none⟩ = some (.int .i64 e4)) (W.drew.alloc o) := fun o => ⟨(World.cell?_alloc_past _ _ _ lW).trans c0, (World.cell?_alloc_past _ _ _ lW).trans c1, (World.cell?_alloc_past _ _ _ lW).trans c2, (World.cell?_alloc_past _ _ _ lW).trans c3, (World.cell?_alloc_past _ _ _ lW).trans c4⟩
  have k2 : ∀ o : Obj, (W.drew.alloc o).cell? ⟨r, 1, none⟩ = some (.slice ha n hc) := fun o => (World.cell?_alloc_past _ _ _ (show r < W.heap.size by omega)).trans k1'
  have CELLS := Lib.hid cells
  clear cells
  refine wpAnyH_ready (rs := [4, 6]) (by kernel_rfl) (by simp) (.cons (nth_spec _ 4 _ rfl) (fun K' hK => ?_) (.cons (nth_spec _ 6 _ rfl) (fun K' hK => ?_) .nil))
  · go_simp
    refine hK.out _ _ ?_ (fun hHeld => ?_)
    · assumption
    clear hK K'
    try simp only [Act.put, pt1, pt2, pt3]
    refine hcl 6 (fun K' hK => ?_)
    go_simp
    refine hK.out _ _ ?_ (fun hHeld => ?_)
    · exact CELLS.out _
    clear hK K'
    try simp only [Act.put, pt1, pt2, pt3]
    refine hcl 7 (fun K' hK => ?_)
    rw [if_pos (by rfl)]
    refine wp_append_own _ _ _ 65 rfl B 193 i0 z 5 40 Tryz.underlying65 hi hz0 hz1 hz2 hz3 (by decide) (.slice ha n hc) n evs rfl OWN.out ⟨W.heap.size, 0, none⟩ 1 1 [.int .i64 e0, .int .i64 e1, .int .i64 e2, .int .i64 e3, .int .i64 e4] rfl rfl (by exact news_new W [.int .i64 e0, .int .i64 e1, .int .i64 e2, .int .i64 e3, .int .i64 e4] 193) (event_one _ _ _ _ _) (by unfold maxLen; omega) (by omega) (by have := HBW.out.size; simp; omega) ?_
    intro v' w2 hown hgrow _
    have wb := hgrow.block w.heap.size (by simp; omega) NB.out.symm
    have rb := hgrow.block r (by simp; omega) NR.out.symm
    have rb' : w2.heap[r]? = W.heap[r]? := rb.trans (heap_alloc_old _ _ lrW)
    have wb' : w2.heap[w.heap.size]? = some (.cells #[.int .i64 e0, .int .i64 e1, .int .i64 e2, .int .i64 e3, .int .i64 e4] 193) := (wb.trans (heap_alloc_old _ _ lW)).trans HRW.out
    have j1 : w2.cell? ⟨r, 1, none⟩ = some (.slice ha n hc) := (World.cell?_of_block (a := ⟨r, 1, none⟩) rb').trans k1
    have jf : w2.frozen? ⟨r, 1, none⟩ = false := (World.frozen?_of_block (a := ⟨r, 1, none⟩) rb').trans FR.out
    obtain ⟨_, va, vc, rfl, _⟩ := RowAt.of_owns hown
    have hch : Chg (fun b => b = r ∨ (Value.slice ha n hc).ownBlock = some b) w w2 := ((Chg.of_below HBW.out).alloc _).drew.grown hgrow (fun k e => .inl (.inr e))
    have ro : w2.heap[r]? = some (.cells #[x, .slice ha n hc] 128) := rb'.trans ((HBW.out.block _ lr).trans HR.out)
    have nv := owns_type hown ro (by decide)
    have RO := Lib.hid ro
    have NV := Lib.hid nv
    have HO := Lib.hid hown
    have HG := Lib.hid hch
    clear hown hgrow hch wb rb rb' ro nv
    refine hK.out _ _ ?_ (fun hHeld => ?_)
    · exact ⟨cell_of_row _ _ 0 _ _ _ wb', cell_of_row _ _ 1 _ _ _ wb', cell_of_row _ _ 2 _ _ _ wb', cell_of_row _ _ 3 _ _ _ wb', cell_of_row _ _ 4 _ _ _ wb'⟩
    clear hK K'
    try simp only [Act.put, pt1, pt2, pt3]
    refine hd 8 (v := ?_) ?_ ?_
    rotate_left
    · rintro w ⟨hS0, hS1, hS2, hS3, hS4⟩; go_simp; try with_reducible rfl
    simp only [Act.put, pt1, pt2, pt3]
    refine hd 9 (v := ?_) ?_ ?_
    rotate_left
    · rintro w ⟨hS0, hS1, hS2, hS3, hS4⟩; go_simp; try with_reducible rfl
    simp only [Act.put, pt1, pt2, pt3]
    refine hcl 10 (fun K' hK => ?_)
    go_simp
    have hE : (w2.setCell ⟨r, 1, none⟩ (.slice va (n + 1) vc)).heap[r]? = some (.cells #[x, .slice va (n + 1) vc] 128) := heap_setCell_same _ _ 1 _ _ _ RO.out
    have ho2 := ownsRow_setCell_other HO.out (a := ⟨r, 1, none⟩) NV.out (.slice va (n + 1) vc)
    have hc2 : Chg (fun b => b = r ∨ (Value.slice ha n hc).ownBlock = some b) w (w2.setCell ⟨r, 1, none⟩ (.slice va (n + 1) vc)) := HG.out.setCell (p := ⟨r, 1, none⟩) (.inl (.inl rfl)) _
    have HF := Lib.hid (And.intro hE (And.intro ho2 hc2))
    clear hE ho2 hc2
    refine hK.out _ _ ?_ (fun hHeld => ?_)
    · exact ⟨(World.cell?_setCell_far _ _ _ _ (by simp; omega)).trans hHeld.1, (World.cell?_setCell_far _ _ _ _ (by simp; omega)).trans hHeld.2.1, (World.cell?_setCell_far _ _ _ _ (by simp; omega)).trans hHeld.2.2.1, (World.cell?_setCell_far _ _ _ _ (by simp; omega)).trans hHeld.2.2.2.1, (World.cell?_setCell_far _ _ _ _ (by simp; omega)).trans hHeld.2.2.2.2⟩
    clear hK K'
    try simp only [Act.put]
    refine held_done (by kernel_rfl) ?_
    clear hHeld
    go_wp2_with fail
    refine bodyPost_end (results_none rfl _ _ _) rfl ⟨rfl, _, HF.out.1, HF.out.2.1, HF.out.2.2⟩
  · go_simp
    refine hK.out _ _ ?_ (fun hHeld => ?_)
    · exact CELLS.out _
    clear hK K'
    try simp only [Act.put, pt1, pt2, pt3]
    refine hcl 4 (fun K' hK => ?_)
    go_simp
    refine hK.out _ _ ?_ (fun hHeld => ?_)
    · exact CELLS.out _
    clear hK K'
    try simp only [Act.put, pt1, pt2, pt3]
    refine hcl 7 (fun K' hK => ?_)
    rw [if_pos (by rfl)]
    refine wp_append_own _ _ _ 65 rfl B 193 i0 z 5 40 Tryz.underlying65 hi hz0 hz1 hz2 hz3 (by decide) (.slice ha n hc) n evs rfl OWN.out ⟨W.heap.size, 0, none⟩ 1 1 [.int .i64 e0, .int .i64 e1, .int .i64 e2, .int .i64 e3, .int .i64 e4] rfl rfl (by exact news_new W [.int .i64 e0, .int .i64 e1, .int .i64 e2, .int .i64 e3, .int .i64 e4] 193) (event_one _ _ _ _ _) (by unfold maxLen; omega) (by omega) (by have := HBW.out.size; simp; omega) ?_
    intro v' w2 hown hgrow _
    have wb := hgrow.block w.heap.size (by simp; omega) NB.out.symm
    have rb := hgrow.block r (by simp; omega) NR.out.symm
    have rb' : w2.heap[r]? = W.heap[r]? := rb.trans (heap_alloc_old _ _ lrW)
    have wb' : w2.heap[w.heap.size]? = some (.cells #[.int .i64 e0, .int .i64 e1, .int .i64 e2, .int .i64 e3, .int .i64 e4] 193) := (wb.trans (heap_alloc_old _ _ lW)).trans HRW.out
    have j1 : w2.cell? ⟨r, 1, none⟩ = some (.slice ha n hc) := (World.cell?_of_block (a := ⟨r, 1, none⟩) rb').trans k1
    have jf : w2.frozen? ⟨r, 1, none⟩ = false := (World.frozen?_of_block (a := ⟨r, 1, none⟩) rb').trans FR.out
    obtain ⟨_, va, vc, rfl, _⟩ := RowAt.of_owns hown
    have hch : Chg (fun b => b = r ∨ (Value.slice ha n hc).ownBlock = some b) w w2 := ((Chg.of_below HBW.out).alloc _).drew.grown hgrow (fun k e => .inl (.inr e))
    have ro : w2.heap[r]? = some (.cells #[x, .slice ha n hc] 128) := rb'.trans ((HBW.out.block _ lr).trans HR.out)
    have nv := owns_type hown ro (by decide)
    have RO := Lib.hid ro
    have NV := Lib.hid nv
    have HO := Lib.hid hown
    have HG := Lib.hid hch
    clear hown hgrow hch wb rb rb' ro nv
    refine hK.out _ _ ?_ (fun hHeld => ?_)
    · exact ⟨cell_of_row _ _ 0 _ _ _ wb', cell_of_row _ _ 1 _ _ _ wb', cell_of_row _ _ 2 _ _ _ wb', cell_of_row _ _ 3 _ _ _ wb', cell_of_row _ _ 4 _ _ _ wb'⟩
    clear hK K'
    try simp only [Act.put, pt1, pt2, pt3]
    refine hd 8 (v := ?_) ?_ ?_
    rotate_left
    · rintro w ⟨hS0, hS1, hS2, hS3, hS4⟩; go_simp; try with_reducible rfl
    simp only [Act.put, pt1, pt2, pt3]
    refine hd 9 (v := ?_) ?_ ?_
    rotate_left
    · rintro w ⟨hS0, hS1, hS2, hS3, hS4⟩; go_simp; try with_reducible rfl
    simp only [Act.put, pt1, pt2, pt3]
    refine hcl 10 (fun K' hK => ?_)
    go_simp
    have hE : (w2.setCell ⟨r, 1, none⟩ (.slice va (n + 1) vc)).heap[r]? = some (.cells #[x, .slice va (n + 1) vc] 128) := heap_setCell_same _ _ 1 _ _ _ RO.out
    have ho2 := ownsRow_setCell_other HO.out (a := ⟨r, 1, none⟩) NV.out (.slice va (n + 1) vc)
    have hc2 : Chg (fun b => b = r ∨ (Value.slice ha n hc).ownBlock = some b) w (w2.setCell ⟨r, 1, none⟩ (.slice va (n + 1) vc)) := HG.out.setCell (p := ⟨r, 1, none⟩) (.inl (.inl rfl)) _
    have HF := Lib.hid (And.intro hE (And.intro ho2 hc2))
    clear hE ho2 hc2
    refine hK.out _ _ ?_ (fun hHeld => ?_)
    · exact ⟨(World.cell?_setCell_far _ _ _ _ (by simp; omega)).trans hHeld.1, (World.cell?_setCell_far _ _ _ _ (by simp; omega)).trans hHeld.2.1, (World.cell?_setCell_far _ _ _ _ (by simp; omega)).trans hHeld.2.2.1, (World.cell?_setCell_far _ _ _ _ (by simp; omega)).trans hHeld.2.2.2.1, (World.cell?_setCell_far _ _ _ _ (by simp; omega)).trans hHeld.2.2.2.2⟩
    clear hK K'
    try simp only [Act.put]
    refine held_done (by kernel_rfl) ?_
    clear hHeld
    go_wp2_with fail
    refine bodyPost_end (results_none rfl _ _ _) rfl ⟨rfl, _, HF.out.1, HF.out.2.1, HF.out.2.2⟩
end Go.Proofs.YteflpdhgojcmcaaGreatDoor
