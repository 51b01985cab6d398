/- The walk of the document's Turn (package ref03): all edges the other way. -/
import Derived.Test.YtkgfepnkikcpiaaDoorN1
import Derived.Test.YtkgfepnkikcpiaaDoorR2
namespace Go.Proofs.YtkgfepnkikcpiaaDoor
open Go.RowKit
open PSet PMat PWay

/-- Turned by the first k rows, and by row k's first c numbers. -/
def midTo (m : List Nat) (k c : Nat) : List Nat := (List.range 32).map fun (b : Nat) => if b < c then insTo m (b : Int) (k + 1) else insTo m (b : Int) k
theorem midTo_length (m : List Nat) (k c : Nat) : (midTo m k c).length = 32 := by simp [midTo]
theorem midTo_get (m : List Nat) (k c b : Nat) (hb : b < 32) : (midTo m k c).getD b 0 = if b < c then insTo m (b : Int) (k + 1) else insTo m (b : Int) k := by
  simp [midTo, List.getD, hb]
theorem midTo_start (m : List Nat) : midTo m 0 0 = zeros := by
  unfold midTo zeros
  rw [List.eq_replicate_iff]
  simp [insTo]
theorem midTo_over (m : List Nat) (k : Nat) : midTo m k 32 = midTo m (k + 1) 0 := by
  unfold midTo
  apply List.map_congr_left
  intro b hb
  have : b < 32 := by simpa using hb
  rw [if_pos this, if_neg (Nat.not_lt_zero _)]
theorem midTo_succ (m : List Nat) (k c : Nat) : (midTo m k c).set c (insTo m (c : Int) (k + 1)) = midTo m k (c + 1) := by
  apply List.ext_getElem
  · simp [midTo]
  · intro j h1 h2
    rw [List.getElem_set]
    by_cases e : c = j
    · subst e
      simp [midTo]
    · rw [if_neg e]
      simp only [midTo, List.getElem_map, List.getElem_range]
      have : (j < c) ↔ (j < c + 1) := by omega
      simp only [this]
theorem midTo_stay (m : List Nat) (k c : Nat) (h : hasB (m.getD k 0) (c : Int) = false) : midTo m k c = midTo m k (c + 1) := by
  rw [← midTo_succ m k c, insTo_succ, h, if_neg (by simp)]
  apply List.ext_getElem
  · simp
  · intro j h1 h2
    rw [List.getElem_set]
    split
    · rename_i e
      subst e
      simp [midTo]
    · rfl
/-- The turned graph. -/
def turnN (m : List Nat) : List Nat := midTo m 32 0
theorem turnN_get (m : List Nat) (b : Nat) (hb : b < 32) : (turnN m).getD b 0 = insTo m (b : Int) 32 := by
  unfold turnN
  rw [midTo_get m 32 0 b hb, if_neg (Nat.not_lt_zero _)]
theorem turnN_Mat (m : List Nat) : Mat (turnN m) := by
  refine ⟨midTo_length _ _ _, fun k => ?_⟩
  by_cases hk : k < 32
  · rw [turnN_get m k hk]; exact insTo_lt _ _ _
  · have : (turnN m)[k]? = none := by unfold turnN; simp [midTo_length]; omega
    simp [List.getD, this]
theorem insTo_low (m : List Nat) (a : Int) : insTo m a 32 % 4294967296 = insTo m a 32 := by
  apply Nat.mod_eq_of_lt
  refine Nat.lt_of_not_le fun h => ?_
  obtain ⟨j, hj, hb⟩ := Nat.exists_ge_and_testBit_of_ge_two_pow (n := 32) (x := insTo m a 32) h
  rw [testBit_insTo m a j 32 (by decide)] at hb
  simp at hb
  omega
theorem outs_turn (m : List Nat) (a : Int) : outsN (turnN m) a = insN m a := by
  unfold outsN insN
  split
  · rename_i hn
    unfold nodeB at hn
    have hr : 0 ≤ a ∧ a < 32 := by simpa using hn
    obtain ⟨k, rfl⟩ := Int.eq_ofNat_of_zero_le hr.1
    unfold at_
    rw [Int.toNat_natCast, turnN_get m k (by omega), insTo_low]
  · rfl
theorem reach_turn (m : List Nat) (a : Int) : reachN (turnN m) a = backN m a := by
  unfold reachN backN
  rw [outs_turn]
  congr 1
  funext i
  exact outs_turn m _

/-- Where Turn stands. -/
structure TurnAt (w X : World) (m t : List Nat) : Prop where
  m : Nums X w.heap.size 41 m
  z : Nums X (w.heap.size + 1) 41 zeros
  t : Nums X (w.heap.size + 1 + 1) 41 t
  b : Below w.heap.size w X
theorem TurnAt.to {w X Y : World} {m t : List Nat} (h : TurnAt w X m t) (hb : Below X.heap.size X Y) : TurnAt w Y m t :=
  ⟨h.m.below hb h.m.lt, h.z.below hb h.z.lt, h.t.below hb h.t.lt, h.b.trans (hb.mono h.b.size)⟩
theorem TurnAt.set {w X : World} {m t : List Nat} (h : TurnAt w X m t) (k n : Nat) : TurnAt w (X.setCell ⟨w.heap.size + 1 + 1, k, none⟩ (.int .u64 (n : Int))) m (t.set k n) :=
  ⟨h.m.of_block (heap_setCell_other _ _ _ _ (by simp; omega)), h.z.of_block (heap_setCell_other _ _ _ _ (by simp)), h.t.set k n, h.b.setCell (p := ⟨w.heap.size + 1 + 1, k, none⟩) (by simp; omega) _⟩
theorem below_bools (W : World) (n z : Array Value) : Below W.heap.size W ((W.alloc (.cells z 65)).setRow W.heap.size n) := below_setRow' ((Below.refl _ _).alloc (Nat.le_refl _) _) (Nat.le_refl _) _
theorem bools_stored (l : List Bool) (z : Array Value) (W : World) : Bools ((W.alloc (.cells z 65)).setRow W.heap.size (boolsV l)) W.heap.size 65 l := block_setRow_same (heap_alloc_new _ _)
theorem code_inN {c : Code} {Q : Exit → Act → World → Prop} {a : Act} {W : World} (φ : World → Prop) (hφ : φ W) (h : ∀ X, φ X → c.wp Tryd.prog Q a X) : c.wp Tryd.prog Q a W := h W hφ

set_option maxHeartbeats 1000000 in
set_option maxRecDepth 100000 in
/-- ref03.Turn. -/
theorem turn_any (m : List Nat) (w : World) (hm : Mat m) :
    Calls Tryd.prog 42 #[matV m] w fun e w' => e = .returned (matV (turnN m)) ∧ Below w.heap.size w w' := by
  unfold matV
  have HM := Lib.hid hm
  clear hm
  have H0 : TurnAt w (((w.alloc (.cells (numsV m) 41)).alloc (.cells (numsV zeros) 41)).alloc (.cells (numsV zeros) 41)) m (midTo m 0 0) :=
    ⟨heap_three _ _ _ _, heap_three'' _ _ _ _, by rw [midTo_start]; exact heap_three' _ _ _ _, (((Below.refl _ _).alloc (Nat.le_refl _) _).alloc (by simp) _).alloc (by simp; omega) _⟩
  have HT := Lib.hid H0
  clear H0
  go_enter Tryd.func42, Tryd.ntmps42
  go_wp2_with fail
  go_loopw [4, 5] (fun p i wr => ∃ k : Nat, k ≤ 32 ∧ i = .int .i64 k ∧ p = .int .u64 ((2 ^ k : Nat) : Int) ∧ TurnAt w wr m (midTo m k 0)) (fun _ i _ => 32 - (intOf i).toNat)
  case atStart => exact ⟨0, Nat.zero_le _, rfl, rfl, HT.out⟩
  case round =>
    obtain ⟨k, hk, rfl, rfl, hT⟩ := hrel
    have K := Lib.hid hT
    clear hT HT
    by_cases hlt : k < 32
    · have hc := K.out.m.cell (k := k) (by rw [HM.out.1]; exact hlt)
      obtain ⟨x, hx⟩ : ∃ x, x = m.getD k 0 := ⟨_, rfl⟩
      rw [← hx] at hc
      have C1 := Lib.hid (fun W => rbits_any x W (by rw [hx]; exact HM.out.2 k))
      have HX := Lib.hid hx
      clear hx
      have hpp : (2 : Nat) ^ k ≤ 2147483648 := by
        have := Nat.pow_le_pow_right (n := 2) (by decide) (show k ≤ 31 by omega)
        simpa using this
      have hp2 : IntKind.u64.wrap (((2 ^ k : Nat) : Int) * 2) = ((2 ^ (k + 1) : Nat) : Int) := by
        rw [IntKind.wrap_u64, Nat.pow_succ]
        omega
      have HP := Lib.hid hpp
      obtain ⟨q, hq⟩ : ∃ q, q = 2 ^ k := ⟨_, rfl⟩
      have HQ := Lib.hid hq
      clear hpp
      rw [← hq] at hp2 ⊢
      clear hq
      go_wp2_with fail
      refine (C1.out _).mono ?_
      rintro e w1 ⟨rfl, hB⟩
      have K1 := Lib.hid (K.out.to hB)
      clear hB hc K
      go_wp2_with (refine wpList_store_row rfl 65 _ _ rfl w1.heap.size _ rfl rfl 65 _ (heap_alloc_new _ _) (by rw [size_boolsV, bitsL_length]; exact size65) (by rw [size_boolsV, bitsL_length]; rfl) (one_boolsV _) ?_)
      refine code_inN (fun X => TurnAt w X m (midTo m k 0) ∧ Bools X w1.heap.size 65 (bitsL x) ∧ w.heap.size + 1 + 1 < w1.heap.size) ⟨K1.out.to (below_bools _ _ _), bools_stored _ _ _, K1.out.t.lt⟩ ?_
      generalize w1.heap.size = g at *
      rintro X ⟨hK, hb, hgt⟩
      have K2 := Lib.hid hK
      have B2 := Lib.hid hb
      clear hK hb K1
      go_loopw [7] (fun i wr => ∃ c : Nat, c ≤ 32 ∧ i = .int .i64 c ∧ TurnAt w wr m (midTo m k c) ∧ Bools wr g 65 (bitsL x)) (fun i _ => 32 - (intOf i).toNat)
      case atStart => exact ⟨0, Nat.zero_le _, rfl, K2.out, B2.out⟩
      case round =>
        obtain ⟨c, hc, rfl, hK, hb⟩ := hrel
        by_cases hclt : c < 32
        · have hcell := hb.cell (k := c) (by rw [bitsL_length]; omega)
          rw [bitsL_get x c (by omega)] at hcell
          have hcell2 := hK.t.cell (k := c) (by rw [midTo_length]; exact hclt)
          rw [midTo_get m k c c hclt, if_neg (Nat.lt_irrefl _)] at hcell2
          have hfr := hK.t.free c
          have hbit : hasB (m.getD k 0) (c : Int) = x.testBit c := by rw [hasB_nat _ _ (by omega), HX.out]
          have K3 := Lib.hid hK
          have B3 := Lib.hid hb
          clear hK hb K2 B2
          cases hxb : x.testBit c
          · rw [hxb] at hcell hbit
            have hst := Lib.hid (midTo_stay m k c hbit)
            clear hxb hbit
            go_wp2_with fail
            refine ⟨⟨c + 1, by omega, by go_num, by rw [← hst.out]; exact K3.out, B3.out⟩, by simp [intOf]; omega⟩
          · rw [hxb] at hcell hbit
            have hno : (insTo m (c : Int) k).testBit k = false := by rw [testBit_insTo _ _ _ k (by omega)]; simp
            have hv : insTo m (c : Int) (k + 1) = (insTo m (c : Int) k + q) % 18446744073709551616 := by
              rw [insTo_succ, hbit, if_pos rfl, HQ.out, add_bit _ k (insTo_lt _ _ _) (by omega) hno, withN_near _ k (by omega)]
            have hadd : IntKind.u64.wrap (((insTo m (c : Int) k : Nat) : Int) + (q : Int)) = ((insTo m (c : Int) (k + 1) : Nat) : Int) := by
              rw [hv, IntKind.wrap_u64]
              omega
            have hs := K3.out.set c (insTo m (c : Int) (k + 1))
            rw [midTo_succ] at hs
            have hb2 : Bools (wr.setCell ⟨w.heap.size + 1 + 1, c, none⟩ (.int .u64 ((insTo m (c : Int) (k + 1) : Nat) : Int))) g 65 (bitsL x) := B3.out.of_block (heap_setCell_other _ _ _ _ (by simp; omega))
            generalize insTo m (c : Int) (k + 1) = v2 at *
            generalize insTo m (c : Int) k = v1 at *
            have K4 := Lib.hid hs
            have B4 := Lib.hid hb2
            clear hs hb2 hno hv hxb hbit
            go_wp2_with fail
            refine ⟨⟨c + 1, by omega, by go_num, K4.out, B4.out⟩, by simp [intOf]; omega⟩
        · have e : c = 32 := by omega
          subst e
          rw [midTo_over] at hK
          have K3 := Lib.hid hK
          clear hK hb K2 B2
          go_wp2_with fail
          refine ⟨⟨k + 1, by omega, by go_num, rfl, K3.out⟩, by simp [intOf]; omega⟩
    · have e : k = 32 := by omega
      subst e
      have L1 := Lib.hid K.out.t
      have L2 := Lib.hid K.out.z
      have L3 := Lib.hid K.out.b
      have hl : (midTo m 32 0).length = 32 := midTo_length _ _ _
      have HL := Lib.hid hl
      clear K hl
      go_wp2_with (first | (refine wpList_load_row rfl 41 _ rfl (w.heap.size + 1 + 1) rfl 41 _ (0, 0) _ L1.out Tryd.underlying41 rfl (size_rmat HL.out) ?_) | (refine wpList_store_row rfl 41 _ _ rfl (w.heap.size + 1) _ rfl rfl 41 _ L2.out (size_rmat HL.out) (by rw [size_numsV, size_numsV, HL.out]; rfl) (one_numsV _) ?_))
      refine bodyPost_ret (results_cell_row rfl _ _ (w.heap.size + 1) 41 _ (0, 0) _ rfl (block_setRow_same L2.out) Tryd.underlying41 rfl (size_rmat HL.out)) rfl ⟨rfl, ?_⟩
      exact below_setRow' L3.out (by omega) _
end Go.Proofs.YtkgfepnkikcpiaaDoor
