/- slices.Backward over a transaction's steps: its iterator, for every loop body. The walks of slices.SortFunc and what it calls, at a row of one step of a transaction, or none. The walk of mat.Cut. Ways in a graph: what is reached from a first row of nodes, step by step; the set of it; and that looking at node after node finds just it. The walk of mat.spread: over whatever function value whose calls come to a number, it comes to the set of what is reached. The walks of mat.Free, and of the statements' Theirs and Ours (the same graph, in the other's type). No conditions but those that each theorem names. -/
import Derived.Test.YteflpdhgojcmcaaGreatDoorU01
import Derived.Test.YteflpdhgojcmcaaGreatDoorU06
import Derived.Test.YteflpdhgojcmcaaGreatDoorU03
namespace Go.Proofs.YteflpdhgojcmcaaGreatDoor
open Go.RowKit Go.Shelf
attribute [local go_sem] Oper.semAt_some
def stepsC (ts : List StepM) : List Value := ts.flatMap StepM.cells
def zeroStep : StepM := ⟨0, 0, 0, false⟩
theorem steps_at {w : World} {b off : Nat} {ts : List StepM} (h : w.rangeAt b off (stepsC ts)) {k : Nat} (hk : k < ts.length) : w.rangeAt b (off + k * 4) (ts.getD k zeroStep).cells := by
  have := chunk_range (f := StepM.cells) (k := 4) (fun _ => rfl) h (x := k) (a := ts.getD k zeroStep) (by simp [List.getD, hk])
  exact this
abbrev Idx (n : Nat) := { i : Nat // i < n }
/-- The first k places, from the last one on. -/
def downFrom (n : Nat) : (k : Nat) → k ≤ n → List (Idx n)
  | 0, _ => []
  | k + 1, h => ⟨k, h⟩ :: downFrom n k (Nat.le_of_succ_le h)
theorem downFrom_length (n : Nat) : ∀ (k : Nat) (h : k ≤ n), (downFrom n k h).length = k
  | 0, _ => rfl
  | k + 1, h => by simp [downFrom, downFrom_length n k]
/-- What a round keeps: the slice's box, and its row. -/
def KeepB (Bs b : Nat) (W W' : World) : Prop := W'.heap[Bs]? = W.heap[Bs]? ∧ W'.heap[b]? = W.heap[b]?
theorem KeepB.trans {Bs b : Nat} {A B C : World} (h : KeepB Bs b A B) (k : KeepB Bs b B C) : KeepB Bs b A C := ⟨k.1.trans h.1, k.2.trans h.2⟩
def backEnc (N : Nat) (ts : List StepM) (x : Idx N) : Array Value := #[.int .i64 (x.1 : Nat), .agg (ts.getD x.1 zeroStep).cells.toArray]
set_option maxRecDepth 100000 in
set_option maxHeartbeats 1000000 in
theorem back187_in (F : Fence) (n : Nat) (h187 : F.fn 187) (hro : F.round = none) (hn : 1 ≤ n) (l Bs b off c N : Nat) (ts : List StepM) (HN : Hid (ts.length = N)) (hts : N ≤ 100000) (J Jx : List (Idx N) → World → Prop)
    (hY : ∀ pre x W, J pre W → pre.length < N → YieldAt F (n - 1) Tryz.prog l (backEnc N ts x) W fun e W' =>
      (e = .returned (.bool true) ∧ J (pre ++ [x]) W' ∧ KeepB Bs b W W') ∨ (e = .returned (.bool false) ∧ Jx (pre ++ [x]) W'))
    (W : World) (hBs : W.cell? ⟨Bs, 0, none⟩ = some (.slice (some ⟨b, off, none⟩) N c)) (hrow : W.rangeAt b off (stepsC ts)) (h0 : J [] W) :
    CallsIn F n Tryz.prog 187 #[.func (.yield l) #[] #[], .pointer (some ⟨Bs, 0, none⟩)] W fun e W' => (∃ v, e = .returned v) ∧
      ((∃ xs, xs = downFrom N N (Nat.le_refl _) ∧ J xs W') ∨ (∃ pre, Jx pre W')) := by
  have HRW := Lib.hid hrow
  clear hrow
  refine callsIn_of_wp Tryz.func187 rfl h187 ?_ hro
  simp only [Tryz.ntmps187, List.size_toArray, List.length_cons, List.length_nil, Nat.reduceAdd, Nat.reduceSub, Array.replicate_succ, Array.replicate_zero, List.push_toArray, List.append_toArray, List.nil_append, List.cons_append]
  gi_wp2
  gi_loopw [3] (fun i wr => ∃ (k : Nat) (hk : k ≤ N) (pre : List (Idx N)), i = .int .i64 ((k : Int) - 1) ∧ Hid (pre ++ downFrom N k hk = downFrom N N (Nat.le_refl _) ∧ pre.length + k = N) ∧ Hid (wr.cell? ⟨Bs, 0, none⟩ = some (.slice (some ⟨b, off, none⟩) N c) ∧ wr.rangeAt b off (stepsC ts)) ∧ J pre wr)
    (fun i _ => (intOf i + 1).toNat)
  case atStart => exact ⟨N, Nat.le_refl _, [], rfl, Lib.hid ⟨rfl, by simp⟩, Lib.hid ⟨hBs, HRW.out⟩, h0⟩
  case round =>
    obtain ⟨k, hk, pre, rfl, hp, hm, hJs⟩ := hrel
    cases k with
    | zero =>
      gi_wp2
      go_end0
      have := hp.out.1
      simp only [downFrom, List.append_nil] at this
      exact ⟨⟨_, rfl⟩, .inl ⟨pre, this, hJs⟩⟩
    | succ m =>
      have e1 : ((m + 1 : Nat) : Int) - 1 = (m : Int) := by omega
      rw [e1]
      have hmN : m < N := hk
      have hcB := hm.out.1
      have hr := steps_at hm.out.2 (k := m) (by rw [HN.out]; exact hmN)
      have hlen : pre.length < N := by have := hp.out.2; omega
      have hY2 := hY pre ⟨m, hmN⟩ wr hJs hlen
      unfold backEnc at hY2
      have hstep : pre ++ [(⟨m, hmN⟩ : Idx N)] ++ downFrom N m (Nat.le_of_succ_le hk) = downFrom N N (Nat.le_refl _) := by
        have := hp.out.1
        simpa [downFrom] using this
      have HST := Lib.hid hstep
      have HP2 := Lib.hid (show (pre ++ [(⟨m, hmN⟩ : Idx N)]).length + m = N by have := hp.out.2; simp; omega)
      have HM := Lib.hid hm.out
      clear hstep hp hm hJs
      generalize ts.getD m zeroStep = s at *
      obtain ⟨sx, sk, sn, sw⟩ := s
      have c0 : wr.cell? ⟨b, off + m * 4, none⟩ = some (.int .i64 sx) := hr 0 _ rfl
      have c1 : wr.cell? ⟨b, off + m * 4 + 1, none⟩ = some (.int .i64 sk) := hr 1 _ rfl
      have c2 : wr.cell? ⟨b, off + m * 4 + 2, none⟩ = some (.int .i64 sn) := hr 2 _ rfl
      have c3 : wr.cell? ⟨b, off + m * 4 + 3, none⟩ = some (.bool sw) := hr 3 _ rfl
      simp only [StepM.cells] at hY2
      obtain ⟨fn, tmps, assign, body, hy, hR⟩ := hY2
      have hm0 : (0 : Int) ≤ (m : Int) := by omega
      have hmN' : (m : Int) < (N : Int) := by omega
      clear hr
      gi_wp2
      refine hR.mono ?_
      rintro e3 W3 (⟨rfl, hJ4, hk3⟩ | ⟨rfl, hJx3⟩)
      · have hB3 := (World.cell?_of_block (a := ⟨Bs, 0, none⟩) hk3.1).trans HM.out.1
        have hr3 : W3.rangeAt b off (stepsC ts) := range_keep HM.out.2 hk3.2
        have HM3 := Lib.hid (And.intro hB3 hr3)
        clear hB3 hr3
        gi_wp2
        go_roundw
        case rel => exact ⟨m, Nat.le_of_succ_le hk, pre ++ [⟨m, hmN⟩], by go_num, Lib.hid ⟨HST.out, HP2.out⟩, HM3, hJ4⟩
        case measure => simp [intOf]
      · gi_wp2
        refine bodyPost_ret (results_none rfl _ _ _) rfl ?_
        exact ⟨⟨_, rfl⟩, .inr ⟨_, hJx3⟩⟩
theorem back187_stops (F : Fence) (n : Nat) (h187 : F.fn 187) (hro : F.round = none) (hn : 1 ≤ n) (Bs b off c : Nat) (ts : List StepM) (hts : ts.length ≤ 100000) (w : World) (hBs : w.cell? ⟨Bs, 0, none⟩ = some (.slice (some ⟨b, off, none⟩) ts.length c)) (hBn : Bs < w.heap.size) (hbn : b < w.heap.size) (hrow : w.rangeAt b off (stepsC ts)) :
    SeqStopsK F n Tryz.prog 187 #[.pointer (some ⟨Bs, 0, none⟩)] (backEnc ts.length ts) (KeepB Bs b) (fun xs => xs = downFrom ts.length ts.length (Nat.le_refl _)) (fun _ => True) ts.length w := by
  intro l J Jx W hW _ _ hY h0
  refine (back187_in F n h187 hro hn l Bs b off c ts.length ts (Lib.hid rfl) hts J Jx hY W ((hW.cell (p := ⟨Bs, 0, none⟩) hBn).trans hBs) (range_keep hrow (hW.block b hbn)) h0).mono fun e W' h => ⟨h.1, ?_⟩
  rcases h.2 with h | ⟨pre, h⟩
  · exact .inl h
  · exact .inr ⟨pre, trivial, h⟩
end Go.Proofs.YteflpdhgojcmcaaGreatDoor
namespace Go.Proofs.YteflpdhgojcmcaaGreatDoor
open Go.RowKit
set_option maxRecDepth 100000 in
theorem len64_few (x : Int) (w : World) (hx : x = 0 ∨ x = 1) : Calls Tryz.prog 218 #[.int .u64 x] w fun e w' => (∃ i, e = .returned (.int .i64 i)) ∧ w = w' := by
  rcases hx with rfl | rfl
  all_goals
    go_enter Tryz.func218, Tryz.ntmps218
    go_wp2_with fail
    go_ret
    exact ⟨⟨_, rfl⟩, rfl⟩
theorem len_few (x : Int) (w : World) (hx : x = 0 ∨ x = 1) : Calls Tryz.prog 180 #[.int .u64 x] w fun e w' => (∃ i, e = .returned (.int .i64 i)) ∧ w = w' := by
  have C := Lib.hid (len64_few x w hx)
  clear hx
  go_enter Tryz.func180, Tryz.ntmps180
  go_wp2_with fail
  refine (C.out).mono ?_
  rintro e w1 ⟨⟨i, rfl⟩, rfl⟩
  go_wp2_with fail
  go_ret
  exact ⟨⟨_, rfl⟩, rfl⟩
theorem insertion_few (v f : Value) (n : Nat) (w : World) (hn : n ≤ 1) :
    Calls Tryz.prog 249 #[v, .int .i64 0, .int .i64 n, f] w fun e w' => e = .returned (.tuple #[]) ∧ w = w' := by
  have g : (n : Int) ≤ 1 := by omega
  go_enter Tryz.func249, Tryz.ntmps249
  go_wp2_with fail
  refine wp_loop_rounds 1 ?_
  rw [rounds_succ]
  go_wp2_with fail
  refine bodyPost_end (results_none rfl _ _ _) rfl ⟨rfl, rfl⟩
theorem pdq_few (v f : Value) (n : Nat) (i : Value) (w : World) (hn : n ≤ 1) :
    Calls Tryz.prog 234 #[v, .int .i64 0, .int .i64 n, i, f] w fun e w' => e = .returned (.tuple #[]) ∧ w = w' := by
  have C := Lib.hid (insertion_few v f n w hn)
  have g : (n : Int) ≤ 12 := by omega
  clear hn
  go_enter Tryz.func234, Tryz.ntmps234
  go_wp2_with fail
  refine wp_loop_rounds 1 ?_
  rw [rounds_succ]
  go_wp2_with fail
  refine (C.out).mono ?_
  rintro e w1 ⟨rfl, rfl⟩
  go_wp2_with fail
  refine bodyPost_ret (results_none rfl _ _ _) rfl ⟨rfl, rfl⟩
theorem sort_few (a : Option Addr) (c : Nat) (f : Value) (n : Nat) (w : World) (hn : n ≤ 1) :
    Calls Tryz.prog 204 #[.slice a n c, f] w fun e w' => e = .returned (.tuple #[]) ∧ w = w' := by
  have C := Lib.hid (fun i => pdq_few (.slice a n c) f n i w hn)
  have hw : IntKind.u64.wrap (n : Int) = 0 ∨ IntKind.u64.wrap (n : Int) = 1 := by
    have h : n = 0 ∨ n = 1 := by omega
    rcases h with rfl | rfl
    · exact Or.inl (by kernel_rfl)
    · exact Or.inr (by kernel_rfl)
  have C2 := Lib.hid (len_few (IntKind.u64.wrap (n : Int)) w hw)
  clear hn hw
  go_enter Tryz.func204, Tryz.ntmps204
  go_wp2_with fail
  refine (C2.out).mono ?_
  rintro e w1 ⟨⟨i, rfl⟩, rfl⟩
  go_wp2_with fail
  refine (C.out _).mono ?_
  rintro e w1 ⟨rfl, rfl⟩
  go_wp2_with fail
  refine bodyPost_end (results_none rfl _ _ _) rfl ⟨rfl, rfl⟩
end Go.Proofs.YteflpdhgojcmcaaGreatDoor
namespace Go.Proofs.YteflpdhgojcmcaaGreatDoor
open Go.RowKit
open PSet PMat
theorem high32 (s : Nat) (hs : s < 2 ^ 64) : bits .andNot .u64 (s : Int) 4294967295 = ((s &&& 18446744069414584320 : Nat) : Int) :=
  u64_andNot_nat s 4294967295 (by omega) (by decide)
theorem cutTo_Mat {m : List Nat} (hm : Mat m) (a : Int) (k : Nat) : Mat (cutTo m a k) := by
  refine ⟨by rw [cutTo_length]; exact hm.1, fun j => ?_⟩
  by_cases hj : j < m.length
  · rw [cutTo_get m a k j hj]
    split
    · exact lessN_lt (hm.2 j) a
    · exact hm.2 j
  · have : (cutTo m a k)[j]? = none := by simp [cutTo_length]; omega
    simp [List.getD, this]
set_option maxRecDepth 100000 in
theorem cut_no (m : List Nat) (a : Int) (w : World) (hm : m.length = 32) (hn : nodeB a = false) :
    Calls Tryz.prog 354 #[matV m, .int .i64 a] w fun e w' => e = .returned (matV m) ∧ Below w.heap.size w w' := by
  unfold matV
  have HM := Lib.hid hm
  clear hm
  have H0 : Nums ((w.alloc (.cells (numsV m) 140)).alloc (.cells (numsV zeros) 140)) (w.heap.size + 1) 140 zeros := heap_alloc2_new _ _ _
  have H1 : Nums ((w.alloc (.cells (numsV m) 140)).alloc (.cells (numsV zeros) 140)) w.heap.size 140 m := nums_new2 m _ w
  have HB : Below w.heap.size w ((w.alloc (.cells (numsV m) 140)).alloc (.cells (numsV zeros) 140)) := ((Below.refl _ _).alloc (Nat.le_refl _) _).alloc (by simp) _
  have c1 := Lib.hid (node_any a)
  rw [hn] at c1
  clear hn
  generalize hW : ((w.alloc (.cells (numsV m) 140)).alloc (.cells (numsV zeros) 140)) = W at *
  have HW := Lib.hid hW
  have G0 := Lib.hid H0
  have G1 := Lib.hid H1
  have GB := Lib.hid HB
  clear hW H0 H1 HB
  go_enter Tryz.func354, Tryz.ntmps354
  go_wp2_with fail
  change Calls Tryz.prog 140 _ ((w.alloc (.cells (numsV m) 140)).alloc (.cells (numsV zeros) 140)) _
  rw [HW.out]
  refine (c1.out _).mono ?_
  rintro e w1 ⟨rfl, rfl⟩
  go_wp2_with (first | (refine wpList_load_row rfl 140 _ rfl w.heap.size rfl 140 _ (0, 0) _ G1.out Tryz.underlying140 rfl (size_mat HM.out) ?_) | (refine wpList_store_row rfl 140 _ _ rfl (w.heap.size + 1) _ rfl rfl 140 _ G0.out (size_mat HM.out) (by rw [size_numsV, size_numsV, HM.out]; rfl) (one_numsV _) ?_))
  refine bodyPost_ret (results_cell_row rfl _ _ (w.heap.size + 1) 140 _ (0, 0) _ rfl (block_setRow_same G0.out) Tryz.underlying140 rfl (size_mat HM.out)) rfl ⟨rfl, ?_⟩
  exact below_setRow' GB.out (by omega) _
set_option maxRecDepth 100000 in
theorem cut_yes (m : List Nat) (a : Nat) (w : World) (hm : Mat m) (ha : a < 32) :
    Calls Tryz.prog 354 #[matV m, .int .i64 a] w fun e w' => e = .returned (matV ((cutTo m a 32).set a ((cutTo m a 32).getD a 0 &&& 18446744069414584320))) ∧ Below w.heap.size w w' := by
  obtain ⟨F, hF⟩ : ∃ F, F = (cutTo m a 32).set a ((cutTo m a 32).getD a 0 &&& 18446744069414584320) := ⟨_, rfl⟩
  rw [← hF]
  have HF := Lib.hid hF
  clear hF
  unfold matV
  have HM := Lib.hid hm
  clear hm
  have H0 : Nums ((w.alloc (.cells (numsV m) 140)).alloc (.cells (numsV zeros) 140)) (w.heap.size + 1) 140 zeros := heap_alloc2_new _ _ _
  have H1 : Nums ((w.alloc (.cells (numsV m) 140)).alloc (.cells (numsV zeros) 140)) w.heap.size 140 m := nums_new2 m _ w
  have HB : Below w.heap.size w ((w.alloc (.cells (numsV m) 140)).alloc (.cells (numsV zeros) 140)) := ((Below.refl _ _).alloc (Nat.le_refl _) _).alloc (by simp) _
  have hn : nodeB (a : Int) = true := by unfold nodeB; simp; omega
  have c1 := Lib.hid (node_any (a : Int))
  rw [hn] at c1
  clear hn
  generalize hW : ((w.alloc (.cells (numsV m) 140)).alloc (.cells (numsV zeros) 140)) = W at *
  have HW := Lib.hid hW
  have G0 := Lib.hid H0
  have G1 := Lib.hid H1
  have GB := Lib.hid HB
  clear hW H0 H1 HB
  go_enter Tryz.func354, Tryz.ntmps354
  go_wp2_with fail
  change Calls Tryz.prog 140 _ ((w.alloc (.cells (numsV m) 140)).alloc (.cells (numsV zeros) 140)) _
  rw [HW.out]
  refine (c1.out _).mono ?_
  rintro e w1 ⟨rfl, rfl⟩
  go_wp2_with fail
  go_loopw [10, 5] (fun i _ wr => ∃ k : Nat, k ≤ 32 ∧ i = .int .i64 k ∧ Nums wr w.heap.size 140 (cutTo m a k) ∧ Nums wr (w.heap.size + 1) 140 zeros ∧ Below w.heap.size w wr) (fun i _ _ => 32 - (intOf i).toNat)
  case atStart => exact ⟨0, Nat.zero_le _, rfl, by rw [cutTo_zero]; exact G1.out, G0.out, GB.out⟩
  case round =>
    obtain ⟨k, hk, rfl, hg, hz, hB⟩ := hrel
    have hlenk : (cutTo m a k).length = 32 := by rw [cutTo_length]; exact HM.out.1
    by_cases hlt : k < 32
    · have hc := hg.cell (k := k) (by rw [hlenk]; exact hlt)
      have hf := hg.free k
      have hx := (cutTo_Mat HM.out a k).2 k
      have hset := hg.set k (lessN ((cutTo m a k).getD k 0) a)
      rw [cutTo_succ] at hset
      have hzz : Nums (wr.setCell ⟨w.heap.size, k, none⟩ (.int .u64 ((lessN ((cutTo m a k).getD k 0) (a : Int) : Nat) : Int))) (w.heap.size + 1) 140 zeros := hz.of_block (heap_setCell_other _ _ _ _ (by simp))
      have hBB := hB.setCell (p := ⟨w.heap.size, k, none⟩) (Nat.le_refl _) (.int .u64 ((lessN ((cutTo m a k).getD k 0) (a : Int) : Nat) : Int))
      have c2 := less_any ((cutTo m a k).getD k 0) (a : Int) wr hx
      generalize lessN ((cutTo m a k).getD k 0) (a : Int) = y at *
      generalize (cutTo m a k).getD k 0 = x at *
      have C2 := Lib.hid c2
      have K1 := Lib.hid hset
      have K2 := Lib.hid hzz
      have K3 := Lib.hid hBB
      clear c2 hset hzz hBB hx hlenk hg hz hB
      go_wp2_with fail
      refine (C2.out).mono ?_
      rintro e w2 ⟨rfl, rfl⟩
      go_wp2_with fail
      refine ⟨⟨k + 1, by omega, by go_num, K1.out, K2.out, K3.out⟩, by simp [intOf]; omega⟩
    · have e : k = 32 := by omega
      subst e
      have hc := hg.cell (k := a) (by rw [hlenk]; exact ha)
      have hf := hg.free a
      have hx := (cutTo_Mat HM.out a 32).2 a
      have hh := high32 _ hx
      have hset := hg.set a ((cutTo m a 32).getD a 0 &&& 18446744069414584320)
      have hzz : Nums (wr.setCell ⟨w.heap.size, a, none⟩ (.int .u64 (((cutTo m a 32).getD a 0 &&& 18446744069414584320 : Nat) : Int))) (w.heap.size + 1) 140 zeros := hz.of_block (heap_setCell_other _ _ _ _ (by simp))
      have hBB := hB.setCell (p := ⟨w.heap.size, a, none⟩) (Nat.le_refl _) (.int .u64 (((cutTo m a 32).getD a 0 &&& 18446744069414584320 : Nat) : Int))
      have hlen : ((cutTo m a 32).set a ((cutTo m a 32).getD a 0 &&& 18446744069414584320)).length = 32 := by rw [List.length_set]; exact hlenk
      rw [← HF.out] at hset hlen
      generalize (cutTo m a 32).getD a 0 &&& 18446744069414584320 = y at *
      generalize (cutTo m a 32).getD a 0 = x at *
      have K1 := Lib.hid hset
      have K2 := Lib.hid hzz
      have K3 := Lib.hid hBB
      have HL := Lib.hid hlen
      have HH := Lib.hid hh
      clear hset hzz hBB hx hlenk hg hz hB hlen hh
      go_wp2_with (first | (refine wpList_load_row rfl 140 _ rfl w.heap.size rfl 140 _ (0, 0) _ K1.out Tryz.underlying140 rfl (size_mat HL.out) ?_) | (refine wpList_store_row rfl 140 _ _ rfl (w.heap.size + 1) _ rfl rfl 140 _ K2.out (size_mat HL.out) (by rw [size_numsV, size_numsV, HL.out]; rfl) (one_numsV _) ?_) | (rw [HH.out]))
      refine bodyPost_ret (results_cell_row rfl _ _ (w.heap.size + 1) 140 _ (0, 0) _ rfl (block_setRow_same K2.out) Tryz.underlying140 rfl (size_mat HL.out)) rfl ⟨rfl, ?_⟩
      exact below_setRow' K3.out (by omega) _
/-- mat.Cut. -/
theorem cut_any (m : List Nat) (a : Int) (w : World) (hm : Mat m) :
    Calls Tryz.prog 354 #[matV m, .int .i64 a] w fun e w' => e = .returned (matV (cutN m a)) ∧ Below w.heap.size w w' := by
  cases hn : nodeB a
  · have e : cutN m a = m := by unfold cutN; rw [hn]; rfl
    rw [e]
    exact cut_no m a w hm.1 hn
  · have hr : 0 ≤ a ∧ a < 32 := by unfold nodeB at hn; simpa using hn
    obtain ⟨x, rfl⟩ := Int.eq_ofNat_of_zero_le hr.1
    have e : cutN m (x : Int) = (cutTo m x 32).set x ((cutTo m x 32).getD x 0 &&& 18446744069414584320) := by unfold cutN; rw [hn]; rfl
    rw [e]
    exact cut_yes m x w hm (by omega)
end Go.Proofs.YteflpdhgojcmcaaGreatDoor
namespace Go.Proofs.YteflpdhgojcmcaaGreatDoor.PWay
open PSet PMat
/-- What is reached: what stands in the first row, and what comes of what is reached. -/
inductive Path (s0 : Nat) (nx : Nat → Nat) : Nat → Prop where
  | one {j : Nat} (h : s0.testBit j = true) : Path s0 nx j
  | step {i j : Nat} (p : Path s0 nx i) (h : (nx i).testBit j = true) : Path s0 nx j
open Classical in
/-- The set of the numbers below 64 with a property. -/
noncomputable def setOf (p : Nat → Prop) : Nat := ((List.range 64).filter fun j => decide (p j)).foldl (fun s (i : Nat) => withN s (i : Int)) 0
theorem foldl_lt : ∀ (l : List Nat) (s : Nat), s < 2 ^ 64 → l.foldl (fun s (i : Nat) => withN s (i : Int)) s < 2 ^ 64 := by
  intro l
  induction l with
  | nil => intro s h; exact h
  | cons x l ih => intro s h; exact ih _ (withN_lt h _)
theorem foldl_bit (j : Nat) (hj : j < 64) : ∀ (l : List Nat) (s : Nat), (l.foldl (fun s (i : Nat) => withN s (i : Int)) s).testBit j = true ↔ (s.testBit j = true ∨ j ∈ l) := by
  intro l
  induction l with
  | nil => intro s; simp
  | cons x l ih =>
    intro s
    rw [List.foldl_cons, ih, testBit_withN, List.mem_cons]
    simp only [Bool.or_eq_true, decide_eq_true_eq]
    constructor
    · rintro ((h | h) | h)
      · exact .inl h
      · exact .inr (.inl (by omega))
      · exact .inr (.inr h)
    · rintro (h | h | h)
      · exact .inl (.inl h)
      · exact .inl (.inr ⟨by omega, hj⟩)
      · exact .inr h
theorem setOf_lt (p : Nat → Prop) : setOf p < 2 ^ 64 := foldl_lt _ 0 (by decide)
theorem testBit_setOf (p : Nat → Prop) (j : Nat) (hj : j < 64) : (setOf p).testBit j = true ↔ p j := by
  unfold setOf
  rw [foldl_bit j hj]
  simp [hj]
/-- A set that has just the numbers with a property. -/
theorem eq_setOf {p : Nat → Prop} {s : Nat} (hs : s < 2 ^ 64) (h : ∀ j, j < 64 → (s.testBit j = true ↔ p j)) : s = setOf p := by
  apply eq_of_low hs (setOf_lt p)
  intro j hj
  rw [Bool.eq_iff_iff, h j hj, testBit_setOf p j hj]
noncomputable def pathN (s0 : Nat) (nx : Nat → Nat) : Nat := setOf (Path s0 nx)
/-- What holds while nodes are looked at, one behind the other. -/
structure Look (s0 : Nat) (nx : Nat → Nat) (had now : Nat) : Prop where
  hl : had < 2 ^ 64
  ol : now < 2 ^ 64
  apart : ∀ j, now.testBit j = true → had.testBit j = false
  way : ∀ j, had.testBit j = true ∨ now.testBit j = true → Path s0 nx j
  first : ∀ j, s0.testBit j = true → had.testBit j = true ∨ now.testBit j = true
  next : ∀ i j, had.testBit i = true → (nx i).testBit j = true → had.testBit j = true ∨ now.testBit j = true
theorem Look.start {s0 : Nat} {nx : Nat → Nat} (h : s0 < 2 ^ 64) : Look s0 nx 0 s0 :=
  ⟨by decide, h, fun j _ => Nat.zero_testBit j, fun j hj => by
    rcases hj with hj | hj
    · rw [Nat.zero_testBit] at hj; cases hj
    · exact .one hj, fun j hj => .inr hj, fun i j hi _ => by rw [Nat.zero_testBit] at hi; cases hi⟩
theorem testBit_andNot (a b j : Nat) (hb : b < 2 ^ 64) : (a &&& (18446744073709551615 - b)).testBit j = (a.testBit j && (decide (j < 64) && !b.testBit j)) := by
  have h := Nat.testBit_two_pow_sub_succ hb j
  have e : 2 ^ 64 - (b + 1) = 18446744073709551615 - b := by omega
  rw [e] at h
  rw [Nat.testBit_and, h]
theorem Look.step {s0 : Nat} {nx : Nat → Nat} {had now k : Nat} (h : Look s0 nx had now) (hk : now.testBit k = true) (hn : nx k < 2 ^ 64) :
    Look s0 nx (withN had (k : Int)) ((now ||| nx k) &&& (18446744073709551615 - withN had (k : Int))) := by
  have hk64 := lt_of_testBit h.ol hk
  have hb : ∀ j, (withN had (k : Int)).testBit j = true ↔ (had.testBit j = true ∨ j = k) := by
    intro j
    rw [testBit_withN]
    simp only [Bool.or_eq_true, decide_eq_true_eq]
    constructor
    · rintro (h | h)
      · exact .inl h
      · exact .inr (by omega)
    · rintro (h | h)
      · exact .inl h
      · exact .inr ⟨by omega, by omega⟩
  have hw := withN_lt h.hl (k : Int)
  have ho : ∀ j, ((now ||| nx k) &&& (18446744073709551615 - withN had (k : Int))).testBit j = true ↔ ((now.testBit j = true ∨ (nx k).testBit j = true) ∧ ¬ (had.testBit j = true ∨ j = k)) := by
    intro j
    rw [testBit_andNot _ _ _ hw, Nat.testBit_or]
    simp only [Bool.and_eq_true, Bool.or_eq_true, decide_eq_true_eq, Bool.not_eq_true']
    rw [← hb j]
    constructor
    · rintro ⟨h1, _, h2⟩; exact ⟨h1, by rw [h2]; decide⟩
    · rintro ⟨h1, h2⟩
      refine ⟨h1, ?_, by simpa using h2⟩
      rcases h1 with h1 | h1
      · exact lt_of_testBit h.ol h1
      · exact lt_of_testBit hn h1
  have hpk : Path s0 nx k := h.way k (.inr hk)
  refine ⟨hw, Nat.lt_of_le_of_lt Nat.and_le_left (Nat.or_lt_two_pow h.ol hn), ?_, ?_, ?_, ?_⟩
  · intro j hj
    have := ((ho j).1 hj).2
    rw [← hb j] at this
    simpa using this
  · rintro j (hj | hj)
    · rcases (hb j).1 hj with hj | rfl
      · exact h.way j (.inl hj)
      · exact hpk
    · rcases ((ho j).1 hj).1 with hj | hj
      · exact h.way j (.inr hj)
      · exact .step hpk hj
  · intro j hj
    by_cases hc : had.testBit j = true ∨ j = k
    · exact .inl ((hb j).2 hc)
    · rcases h.first j hj with h1 | h1
      · exact absurd (.inl h1) hc
      · exact .inr ((ho j).2 ⟨.inl h1, hc⟩)
  · intro i j hi hj
    by_cases hc : had.testBit j = true ∨ j = k
    · exact .inl ((hb j).2 hc)
    · rcases (hb i).1 hi with hi | rfl
      · rcases h.next i j hi hj with h1 | h1
        · exact absurd (.inl h1) hc
        · exact .inr ((ho j).2 ⟨.inl h1, hc⟩)
      · exact .inr ((ho j).2 ⟨.inr hj, hc⟩)
theorem withN_grows {had k : Nat} (h : had.testBit k = false) (hk : k < 64) : had < withN had (k : Int) := by
  have hne : had ≠ withN had (k : Int) := by
    intro e
    have := congrArg (fun s => s.testBit k) e
    simp only [testBit_withN] at this
    simp [h, hk] at this
  have hle : had ≤ withN had (k : Int) := Nat.left_le_or
  omega
theorem Look.done {s0 : Nat} {nx : Nat → Nat} {had : Nat} (h : Look s0 nx had 0) : had = pathN s0 nx := by
  have none : ∀ j, ¬ ((0 : Nat).testBit j = true) := fun j hj => by rw [Nat.zero_testBit] at hj; cases hj
  have key : ∀ j, Path s0 nx j → had.testBit j = true := by
    intro j hp
    induction hp with
    | one hj =>
      rcases h.first _ hj with h1 | h1
      · exact h1
      · exact absurd h1 (none _)
    | step _ hj ih =>
      rcases h.next _ _ ih hj with h1 | h1
      · exact h1
      · exact absurd h1 (none _)
  exact eq_setOf h.hl fun j _ => ⟨fun hj => h.way j (.inl hj), key j⟩
end Go.Proofs.YteflpdhgojcmcaaGreatDoor.PWay
namespace Go.Proofs.YteflpdhgojcmcaaGreatDoor
open Go.RowKit
open PSet PMat PWay
/-- What holds at the label of mat.spread. -/
def SpreadJ (s0 : Nat) (nx : Nat → Nat) (a fv : Value) (g : Nat) (m : List Nat) (w : World) (a' : Act) (w' : World) : Prop :=
  ∃ (had now : Nat) (u2 u3 u6 u7 u8 u9 u10 u11 u12 u13 u14 u15 u16 u17 u18 u19 u20 u21 u22 u23 u24 : Value),
    a' = { tmps := #[a, fv, u2, u3, .int .u64 had, .int .u64 now, u6, u7, u8, u9, u10, u11, u12, u13, u14, u15, u16, u17, u18, u19, u20, u21, u22, u23, u24], defers := [] } ∧
    Look s0 nx had now ∧ Nums w' g 140 m ∧ Below w.heap.size w w'
set_option maxRecDepth 100000 in
theorem spread_any (K : Nat) (g : Nat) (m : List Nat) (a : Int) (s0 : Nat) (nx : Nat → Nat) (w : World) (hT : Tab w) (hg : Nums w g 140 m)
    (h0 : s0 < 2 ^ 64) (hnx : ∀ i, nx i < 2 ^ 64) (hcall : ∀ (args : Array Value) (W : World), (callFunc K args).run Tryz.prog W = .ok (.enter K args) W)
    (c0 : ∀ W, Nums W g 140 m → Calls Tryz.prog K #[.int .i64 a, .pointer (some ⟨g, 0, none⟩)] W fun e w' => e = .returned (.int .u64 s0) ∧ Below W.heap.size W w')
    (c1 : ∀ (i : Nat) W, i < 64 → Nums W g 140 m → Calls Tryz.prog K #[.int .i64 i, .pointer (some ⟨g, 0, none⟩)] W fun e w' => e = .returned (.int .u64 (nx i)) ∧ Below W.heap.size W w') :
    Calls Tryz.prog 175 #[.int .i64 a, .func (.func K) #[] #[.pointer (some ⟨g, 0, none⟩)]] w fun e w' => e = .returned (.int .u64 (pathN s0 nx : Nat)) ∧ Below w.heap.size w w' := by
  have C0 := Lib.hid c0
  have C1 := Lib.hid c1
  have HT := Lib.hid hT
  have HG := Lib.hid hg
  have H0 := Lib.hid h0
  have HX := Lib.hid hnx
  clear c0 c1 hT hg h0 hnx
  go_enter Tryz.func175, Tryz.ntmps175
  go_wp2_with fail
  refine wp_scope_pass 0 (SpreadJ s0 nx (.int .i64 a) (.func (.func K) #[] #[.pointer (some ⟨g, 0, none⟩)]) g m w) (fun a' _ => 2 ^ 64 - (intOf (a'.tmps.getD 4 undef)).toNat) rfl ?_ ?_
  · rintro a' wr ⟨had, now, u2, u3, u6, u7, u8, u9, u10, u11, u12, u13, u14, u15, u16, u17, u18, u19, u20, u21, u22, u23, u24, rfl, hl, hn, hb⟩
    by_cases hz : now = 0
    · subst hz
      have hd := hl.done
      have HD := Lib.hid hd
      clear hl hn hd
      go_wp2_with fail
      simp only [Exit.jump]
      go_ret
      exact ⟨by rw [← HD.out]; rfl, hb⟩
    · obtain ⟨k, hk, hk64, hbit, _⟩ := first_spec hz hl.ol
      have hT' := Tab.below HT.out HT.out.pos hb
      have c1 := first_any now wr hl.ol hT'
      rw [hk] at c1
      have hstep := hl.step hbit (HX.out k)
      have hgrow := withN_grows (hl.apart k hbit) hk64
      have hwl := withN_lt hl.hl (k : Int)
      have F1 := Lib.hid c1
      have F2 := Lib.hid (with_any had (k : Int) wr hl.hl)
      have F3 := Lib.hid (C1.out k wr hk64 hn)
      have hor : bits .or .u64 (now : Int) ((nx k : Nat) : Int) = ((now ||| nx k : Nat) : Int) := u64_or_nat _ _ hl.ol (HX.out k)
      have han : bits .andNot .u64 ((now ||| nx k : Nat) : Int) ((withN had (k : Int) : Nat) : Int) = (((now ||| nx k) &&& (18446744073709551615 - withN had (k : Int)) : Nat) : Int) := u64_andNot_nat _ _ (Nat.or_lt_two_pow hl.ol (HX.out k)) (withN_lt hl.hl _)
      have ht0 : ((now : Int) == 0) = false := by simp; omega
      have HZ := Lib.hid hz
      have S1 := Lib.hid hstep
      have S2 := Lib.hid hgrow
      have S3 := Lib.hid hwl
      have S4 := Lib.hid hor
      have S5 := Lib.hid han
      have S6 := Lib.hid hn
      have S7 := Lib.hid hb
      clear hz hl hn hb hT' c1 hstep hgrow hwl hor han hk hk64 hbit
      go_wp2_with fail
      refine (F1.out).mono ?_
      rintro e w1 ⟨rfl, rfl⟩
      go_wp2_with fail
      refine (F2.out).mono ?_
      rintro e w1 ⟨rfl, rfl⟩
      go_wp2_with fail
      refine (F3.out).mono ?_
      rintro e w1 ⟨rfl, hB1⟩
      have T1 := Lib.hid hB1
      clear hB1
      go_wp2_with fail
      go_step3
      rw [S4.out, S5.out]
      refine ⟨rfl, ⟨_, _, _, _, _, _, _, _, _, _, _, _, _, _, _, _, _, _, _, _, _, _, _, rfl, S1.out, S6.out.below T1.out S6.out.lt, S7.out.trans (T1.out.mono S7.out.size)⟩, ?_⟩
      have h1 := S2.out
      have h2 := S3.out
      simp [intOf]
      omega
  · intro pass
    have F1 := Lib.hid (C0.out w HG.out)
    go_wp2_with fail
    refine (F1.out).mono ?_
    rintro e w1 ⟨rfl, hB1⟩
    have T1 := Lib.hid hB1
    clear hB1
    go_wp2_with fail
    go_step3
    rename_i hK
    exact hK _ _ (pass _ _ ⟨0, s0, _, _, _, _, _, _, _, _, _, _, _, _, _, _, _, _, _, _, _, _, _, rfl, Look.start H0.out, HG.out.below T1.out HG.out.lt, T1.out⟩)
theorem call176 (args : Array Value) (W : World) : (callFunc 176 args).run Tryz.prog W = .ok (.enter 176 args) W := by kernel_rfl
/-- The closure of mat.Reach. -/
theorem reach1_any (g : Nat) (m : List Nat) (hm : Mat m) (i : Int) (W : World) (hg : Nums W g 140 m) :
    Calls Tryz.prog 176 #[.int .i64 i, .pointer (some ⟨g, 0, none⟩)] W fun e w' => e = .returned (.int .u64 (outsN m i : Nat)) ∧ Below W.heap.size W w' := by
  have C := Lib.hid (outs_any m i W hm)
  have HG := Lib.hid hg
  have HL := Lib.hid hm.1
  clear hg hm
  go_enter Tryz.func176, Tryz.ntmps176
  go_wp2_with (refine wpList_load_row rfl 140 _ rfl g rfl 140 _ (0, 0) _ HG.out Tryz.underlying140 rfl (size_mat HL.out) ?_)
  refine (C.out).mono ?_
  rintro e w1 ⟨rfl, hB⟩
  have HB := Lib.hid hB
  clear hB
  go_wp2_with fail
  go_ret
  exact ⟨rfl, HB.out⟩
/-- What is reached from a node; from what it is reached. -/
noncomputable def reachN (m : List Nat) (a : Int) : Nat := pathN (outsN m a) fun i => outsN m (i : Int)
theorem reachN_lt (m : List Nat) (a : Int) : reachN m a < 2 ^ 64 := setOf_lt _
/-- mat.Reach. -/
theorem reach_any (m : List Nat) (a : Int) (w : World) (hm : Mat m) (hT : Tab w) :
    Calls Tryz.prog 139 #[matV m, .int .i64 a] w fun e w' => e = .returned (.int .u64 (reachN m a : Nat)) ∧ Below w.heap.size w w' := by
  unfold matV
  have hT1 : Tab (w.alloc (.cells (numsV m) 140)) := Tab.below hT hT.pos ((Below.refl _ _).alloc (Nat.le_refl _) _)
  have c := spread_any 176 w.heap.size m a (outsN m a) (fun i => outsN m (i : Int)) _ hT1 (nums_new m w) (outsN_lt m a) (fun i => outsN_lt m _) call176
    (fun W hg => reach1_any w.heap.size m hm a W hg) (fun i W _ hg => reach1_any w.heap.size m hm (i : Int) W hg)
  have e : pathN (outsN m a) (fun i => outsN m (i : Int)) = reachN m a := rfl
  rw [e] at c
  have hmf : ∀ (fn : Fn) (first cap : Array Value) (w : World), (Instr.makeFunc fn first cap).run Tryz.prog w = .ok (.func fn first cap) w := fun _ _ _ _ => rfl
  have C := Lib.hid c
  clear c e hT hT1 hm
  go_enter Tryz.func139, Tryz.ntmps139
  go_wp2_with fail
  refine (C.out).mono ?_
  rintro e w1 ⟨rfl, hB⟩
  have HB := Lib.hid (((Below.refl w.heap.size w).alloc (Nat.le_refl _) (.cells (numsV m) 140)).trans (hB.mono (by simp)))
  clear hB
  go_wp2_with fail
  go_ret
  exact ⟨rfl, HB.out⟩
end Go.Proofs.YteflpdhgojcmcaaGreatDoor
namespace Go.Proofs.YteflpdhgojcmcaaGreatDoor
open Go.RowKit
open PSet PMat PWay
/-- Whether there is no way round. -/
noncomputable def freeB (m : List Nat) : Bool := (List.range 32).all fun i => !hasB (reachN m (i : Int)) (i : Int)
theorem freeB_true {m : List Nat} : freeB m = true ↔ ∀ i : Nat, i < 32 → hasB (reachN m (i : Int)) (i : Int) = false := by
  unfold freeB
  rw [List.all_eq_true]
  simp
theorem freeB_not {m : List Nat} {i : Nat} (hi : i < 32) (h : hasB (reachN m (i : Int)) (i : Int) = true) : freeB m = false := by
  cases hf : freeB m
  · rfl
  · have := freeB_true.1 hf i hi
    rw [this] at h; cases h
set_option maxRecDepth 100000 in
/-- mat.Free. -/
theorem free_any (m : List Nat) (w : World) (hm : Mat m) (hT : Tab w) :
    Calls Tryz.prog 87 #[matV m] w fun e w' => e = .returned (.bool (freeB m)) ∧ Below w.heap.size w w' := by
  unfold matV
  have HM := Lib.hid hm
  have HT := Lib.hid hT
  clear hm hT
  go_enter Tryz.func87, Tryz.ntmps87
  go_wp2_with fail
  go_loopw [4, 3] (fun i _ wr => ∃ k : Nat, k ≤ 32 ∧ i = .int .i64 k ∧ (∀ j : Nat, j < k → hasB (reachN m (j : Int)) (j : Int) = false) ∧ Nums wr w.heap.size 140 m ∧ Below w.heap.size w wr) (fun i _ _ => 32 - (intOf i).toNat)
  case atStart => exact ⟨0, Nat.zero_le _, rfl, fun j hj => absurd hj (Nat.not_lt_zero _), nums_new m w, (Below.refl _ _).alloc (Nat.le_refl _) _⟩
  case round =>
    obtain ⟨k, hk, rfl, hall, hg, hB⟩ := hrel
    have HA := Lib.hid hall
    have HG := Lib.hid hg
    have HB := Lib.hid hB
    clear hall hg hB
    by_cases hlt : k < 32
    · have c1 := reach_any m (k : Int) wr HM.out (Tab.below HT.out HT.out.pos HB.out)
      unfold matV at c1
      have C1 := Lib.hid c1
      have hr := reachN_lt m (k : Int)
      have HR := Lib.hid hr
      clear c1 hr
      cases hb : hasB (reachN m (k : Int)) (k : Int)
      · have hfree := Lib.hid hb
        clear hb
        go_wp2_with (refine wpList_load_row rfl 140 _ rfl w.heap.size rfl 140 _ (0, 0) _ HG.out Tryz.underlying140 rfl (size_mat HM.out.1) ?_)
        refine (C1.out).mono ?_
        rintro e w1 ⟨rfl, hB1⟩
        have G1 := Lib.hid (HG.out.below hB1 HG.out.lt)
        have B1 := Lib.hid (HB.out.trans (hB1.mono HB.out.size))
        clear hB1
        go_wp2_with fail
        refine (has_any _ _ _ HR.out).mono ?_
        rintro e w2 ⟨rfl, rfl⟩
        rw [hfree.out]
        go_wp2_with fail
        refine ⟨⟨k + 1, by omega, by go_num, ?_, G1.out, B1.out⟩, by simp [intOf]; omega⟩
        intro j hj
        by_cases e : j = k
        · rw [e]; exact hfree.out
        · exact HA.out j (by omega)
      · have hf := Lib.hid (freeB_not hlt hb)
        have HH := Lib.hid hb
        clear hb
        go_wp2_with (refine wpList_load_row rfl 140 _ rfl w.heap.size rfl 140 _ (0, 0) _ HG.out Tryz.underlying140 rfl (size_mat HM.out.1) ?_)
        refine (C1.out).mono ?_
        rintro e w1 ⟨rfl, hB1⟩
        have B1 := Lib.hid (HB.out.trans (hB1.mono HB.out.size))
        clear hB1
        go_wp2_with fail
        refine (has_any _ _ _ HR.out).mono ?_
        rintro e w2 ⟨rfl, rfl⟩
        rw [HH.out]
        go_wp2_with fail
        go_ret
        exact ⟨by rw [hf.out]; rfl, B1.out⟩
    · have e : k = 32 := by omega
      subst e
      have hf := Lib.hid (freeB_true.2 HA.out)
      go_wp2_with fail
      go_ret
      exact ⟨by rw [hf.out]; rfl, HB.out⟩
end Go.Proofs.YteflpdhgojcmcaaGreatDoor
