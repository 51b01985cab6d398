/- The walks of slices.IndexFunc and slices.ContainsFunc (functions 152, 110). The walks of choice's waits, with one thread that waits, or none. The walks of choice's May, Holder, Pass, with an empty queue; of Clip and Park. The walk of choice's Pass, with an empty queue. The walks of pool's slots and taken: a pool is a hundred cells. The walk of pool.Begin, of a pool without slots taken. The walk of pool.End, of a pool with the first slot taken alone. No conditions but those that each theorem names. -/
import Derived.Test.YteflpdhgojcmcaaGreatDoorU01
import Derived.Test.YteflpdhgojcmcaaGreatDoorU06
import Derived.BigQuiet
import Derived.Test.YteflpdhgojcmcaaGreatDoorU07
import Derived.Deep.Cut
import Derived.StillTailTactics
namespace Go.Proofs.YteflpdhgojcmcaaGreatDoor
open Go.RowKit
theorem size213f152 : (Tryz.prog.info? 213).map (·.size) = some 2 := by kernel_rfl
set_option maxRecDepth 100000 in
theorem idx152 (K : Nat) (cv : Value) (b off n c : Nat) (X : Nat → List Value) (p : Nat → Bool) (w : World) (hn : n ≤ 9223372036854775807)
    (hlen : ∀ i, (X i).length = 2) (hX : ∀ i, i < n → w.rangeAt b (off + i * 2) (X i)) (hbw : 0 < n → b < w.heap.size)
    (hcall : ∀ (args : Array Value) (W : World), (callFunc K args).run Tryz.prog W = .ok (.enter K args) W)
    (hf : ∀ i, i < n → ∀ W, Below w.heap.size w W → Calls Tryz.prog K #[.agg (X i).toArray, cv] W fun e w' => e = .returned (.bool (p i)) ∧ Below W.heap.size W w') :
    Calls Tryz.prog 152 #[.slice (some ⟨b, off, none⟩) n c, .func (.func K) #[] #[cv]] w fun e w' => (∃ r : Int, e = .returned (.int .i64 r) ∧ IdxOf p n r) ∧ Below w.heap.size w w' := by
  have HL := Lib.hid hlen
  have HX := Lib.hid hX
  have HF := Lib.hid hf
  have HB := Lib.hid hbw
  clear hlen hX hf hbw
  go_enter Tryz.func152, Tryz.ntmps152
  go_wp2_with fail
  go_loopw [8, 5] (fun i _ wr => ∃ k : Nat, k ≤ n ∧ i = .int .i64 k ∧ Hid (∀ j, j < k → p j = false) ∧ Below w.heap.size w wr) (fun i _ _ => n - (intOf i).toNat)
  case atStart => exact ⟨0, Nat.zero_le _, rfl, Lib.hid (by omega), Below.refl _ _⟩
  case round =>
    obtain ⟨k, hk, rfl, hno, hb⟩ := hrel
    by_cases hlt : k < n
    · have h0 : (0 : Int) ≤ (k : Int) := by omega
      have hr : wr.rangeAt b (off + k * 2) (X k) := fun j v hj => (hb.cell (p := ⟨b, off + k * 2 + j, none⟩) (HB.out (by omega))).trans (HX.out k hlt j v hj)
      have hsz : (Tryz.prog.info? 213).map (·.size) = some (X k).length := by rw [HL.out]; exact size213f152
      have cf := HF.out k hlt wr hb
      generalize X k = cs at *
      cases hp : p k
      · rw [hp] at cf
        have CF := Lib.hid cf
        have HR := Lib.hid hr
        have HS := Lib.hid hsz
        have HB1 := Lib.hid hb
        have HP := Lib.hid hp
        clear cf hr hsz hb hp
        go_wp2_with (refine wpList_load_mid rfl 213 _ rfl b (off + k * 2) rfl cs _ HR.out Tryz.underlying213 rfl HS.out ?_)
        refine (CF.out).mono ?_
        rintro e w1 ⟨rfl, hb1⟩
        have HB2 := Lib.hid (HB1.out.trans (hb1.mono HB1.out.size))
        clear hb1
        go_wp2_with fail
        go_roundw
        case rel => exact ⟨k + 1, by omega, by go_num, Lib.hid (fun j hj => if e : j < k then hno.out j e else by rw [show j = k from by omega]; exact HP.out), HB2.out⟩
        case measure => simp [intOf]; omega
      · rw [hp] at cf
        have CF := Lib.hid cf
        have HR := Lib.hid hr
        have HS := Lib.hid hsz
        have HB1 := Lib.hid hb
        have HP := Lib.hid hp
        clear cf hr hsz hb hp
        go_wp2_with (refine wpList_load_mid rfl 213 _ rfl b (off + k * 2) rfl cs _ HR.out Tryz.underlying213 rfl HS.out ?_)
        refine (CF.out).mono ?_
        rintro e w1 ⟨rfl, hb1⟩
        have HB2 := Lib.hid (HB1.out.trans (hb1.mono HB1.out.size))
        clear hb1
        go_wp2_with fail
        go_ret
        exact ⟨⟨k, rfl, .inr ⟨k, hlt, rfl, HP.out, hno.out⟩⟩, HB2.out⟩
    · have e : k = n := by omega
      subst e
      have HB1 := Lib.hid hb
      clear hb
      go_wp2_with fail
      go_ret
      exact ⟨⟨-1, rfl, .inl ⟨rfl, hno.out⟩⟩, HB1.out⟩
theorem idx152_empty (f : Value) (a : Option Addr) (c : Nat) (p : Nat → Bool) (w : World) :
    Calls Tryz.prog 152 #[.slice a 0 c, f] w fun e w' => (∃ r : Int, e = .returned (.int .i64 r) ∧ IdxOf p 0 r) ∧ Below w.heap.size w w' := by
  go_enter Tryz.func152, Tryz.ntmps152
  go_wp2_with fail
  refine wp_loop_rounds 1 ?_
  rw [rounds_succ]
  go_wp2_with fail
  go_ret
  exact ⟨⟨-1, rfl, .inl ⟨rfl, by omega⟩⟩, Below.refl _ _⟩
theorem contains110 (s f : Value) (p : Nat → Bool) (n : Nat) (w : World)
    (h : Calls Tryz.prog 152 #[s, f] w fun e w' => (∃ r : Int, e = .returned (.int .i64 r) ∧ IdxOf p n r) ∧ Below w.heap.size w w') :
    Calls Tryz.prog 110 #[s, f] w fun e w' => e = .returned (.bool (anyB p n)) ∧ Below w.heap.size w w' := by
  have H := Lib.hid h
  clear h
  go_enter Tryz.func110, Tryz.ntmps110
  go_wp2_with fail
  refine (H.out).mono ?_
  rintro e w1 ⟨⟨r, rfl, hr⟩, hb⟩
  have HB := Lib.hid hb
  have HR := Lib.hid hr
  clear hb hr
  go_wp2_with fail
  go_ret
  exact ⟨by rw [← HR.out.any]; rfl, HB.out⟩
end Go.Proofs.YteflpdhgojcmcaaGreatDoor
namespace Go.Proofs.YteflpdhgojcmcaaGreatDoor
open Go.RowKit
/-- Who waits, and for what: one thread at most. -/
def ParkedAt (w : World) (v : Value) : Option (Int × Int) → Prop
  | none => ∃ a c, v = .slice a 0 c
  | some (i, r) => ∃ b off c, v = .slice (some ⟨b, off, none⟩) 1 c ∧ b < w.heap.size ∧ w.rangeAt b off [.int .i64 i, .int .u64 r]
theorem ParkedAt.below {w w' : World} {v : Value} {o : Option (Int × Int)} (h : ParkedAt w v o) (hb : Below w.heap.size w w') : ParkedAt w' v o := by
  cases o with
  | none => exact h
  | some x =>
    obtain ⟨i, r⟩ := x
    obtain ⟨b, off, c, hv, hlt, hr⟩ := h
    exact ⟨b, off, c, hv, Nat.lt_of_lt_of_le hlt hb.size, fun j v hj => (hb.cell (p := ⟨b, off + j, none⟩) hlt).trans (hr j v hj)⟩
def waitsB (o : Option (Int × Int)) (x : Int) : Bool := match o with | none => false | some (i, _) => decide (i = x)
theorem is_any (i r x : Int) (w : World) : Calls Tryz.prog 112 #[.agg #[.int .i64 i, .int .u64 r], .int .i64 x] w fun e w' => e = .returned (.bool (decide (i = x))) ∧ Below w.heap.size w w' := by
  go_enter Tryz.func112, Tryz.ntmps112
  go_wp2_with fail
  go_ret
  exact ⟨rfl, (Below.refl _ _).alloc (Nat.le_refl _) _⟩
theorem waits1_any (i r x : Int) (g : Nat) (w : World) (hg : w.cell? ⟨g, 0, none⟩ = some (.int .i64 x)) :
    Calls Tryz.prog 111 #[.agg #[.int .i64 i, .int .u64 r], .pointer (some ⟨g, 0, none⟩)] w fun e w' => e = .returned (.bool (decide (i = x))) ∧ Below w.heap.size w w' := by
  have hlt : g < w.heap.size := block_lt_of_cell hg
  have C := Lib.hid (is_any i r x)
  go_enter Tryz.func111, Tryz.ntmps111
  go_wp2_with fail
  refine (C.out _).mono ?_
  rintro e w1 ⟨rfl, hb⟩
  have HB := Lib.hid (((Below.refl _ _).alloc (Nat.le_refl _) (.cells #[.int .i64 i, .int .u64 r] 213)).trans (hb.mono (B' := w.heap.size) (by simp)))
  clear hb
  go_wp2_with fail
  go_ret
  exact ⟨rfl, HB.out⟩
theorem call111 (args : Array Value) (W : World) : (callFunc 111 args).run Tryz.prog W = .ok (.enter 111 args) W := by kernel_rfl
theorem contains_parked (v : Value) (o : Option (Int × Int)) (x : Int) (g : Nat) (w : World) (hv : ParkedAt w v o) (hg : w.cell? ⟨g, 0, none⟩ = some (.int .i64 x)) :
    Calls Tryz.prog 110 #[v, .func (.func 111) #[] #[.pointer (some ⟨g, 0, none⟩)]] w fun e w' => e = .returned (.bool (waitsB o x)) ∧ Below w.heap.size w w' := by
  have hlt : g < w.heap.size := block_lt_of_cell hg
  cases o with
  | none =>
    obtain ⟨a, c, rfl⟩ := hv
    have := contains110 (.slice a 0 c) _ (fun _ => false) 0 w (idx152_empty (.func (.func 111) #[] #[.pointer (some ⟨g, 0, none⟩)]) a c _ w)
    exact this
  | some y =>
    obtain ⟨i, r⟩ := y
    obtain ⟨b, off, c, rfl, hb, hr⟩ := hv
    have := contains110 (.slice (some ⟨b, off, none⟩) 1 c) _ (fun _ => decide (i = x)) 1 w (idx152 111 (.pointer (some ⟨g, 0, none⟩)) b off 1 c (fun _ => [.int .i64 i, .int .u64 r]) _ w (by decide) (fun _ => rfl)
      (fun k hk => by rw [show k = 0 from by omega]; simpa using hr) (fun _ => hb) call111 (fun k hk W hB => waits1_any i r x g W ((hB.cell (p := ⟨g, 0, none⟩) hlt).trans hg)))
    refine this.mono ?_
    rintro e w' ⟨rfl, hb⟩
    refine ⟨?_, hb⟩
    cases h : decide (i = x) <;> simp [anyB, waitsB, h]
theorem waits_any (v q : Value) (o : Option (Int × Int)) (x : Int) (w : World) (hv : ParkedAt w v o) (_hv1 : v.oneCell' = true) (_hq1 : q.oneCell' = true) :
    Calls Tryz.prog 70 #[.agg #[v, q], .int .i64 x] w fun e w' => e = .returned (.bool (waitsB o x)) ∧ Below w.heap.size w w' := by
  have hmf : ∀ (fn : Fn) (first cap : Array Value) (w : World), (Instr.makeFunc fn first cap).run Tryz.prog w = .ok (.func fn first cap) w := fun _ _ _ _ => rfl
  have hb0 : Below w.heap.size w ((w.alloc (.cells #[v, q] 79)).alloc (.cells #[.int .i64 x] 3)) := ((Below.refl _ _).alloc (Nat.le_refl _) _).alloc (by simp) _
  have hc := contains_parked v o x (w.heap.size + 1) _ (hv.below hb0) (by simp)
  generalize waitsB o x = r at *
  have C := Lib.hid hc
  have HB0 := Lib.hid hb0
  clear hv hc hb0
  go_enter Tryz.func70, Tryz.ntmps70
  go_wp2_with fail
  refine (C.out).mono ?_
  rintro e w1 ⟨rfl, hb⟩
  have HB := Lib.hid (HB0.out.trans (hb.mono HB0.out.size))
  clear hb
  go_wp2_with fail
  go_ret
  exact ⟨rfl, HB.out⟩
end Go.Proofs.YteflpdhgojcmcaaGreatDoor
namespace Go.Proofs.YteflpdhgojcmcaaGreatDoor
open Go.RowKit
theorem holder_none (v : Value) (a : Option Addr) (c : Nat) (w : World) (_hv1 : v.oneCell' = true) :
    Calls Tryz.prog 71 #[.agg #[v, .slice a 0 c]] w fun e w' => e = .returned (.int .i64 0) ∧ Below w.heap.size w w' := by
  go_enter Tryz.func71, Tryz.ntmps71
  go_wp2_with fail
  refine wp_loop_rounds 1 ?_
  rw [rounds_succ]
  go_wp2_with fail
  go_ret
  exact ⟨rfl, (Below.refl _ _).alloc (Nat.le_refl _) _⟩
theorem may_any (v : Value) (a : Option Addr) (c : Nat) (o : Option (Int × Int)) (x : Int) (w : World) (hv : ParkedAt w v o) (hv1 : v.oneCell' = true) (hx : 1 ≤ x) :
    Calls Tryz.prog 37 #[.agg #[v, .slice a 0 c], .int .i64 x] w fun e w' => e = .returned (.bool (!waitsB o x)) ∧ Below w.heap.size w w' := by
  have hb0 : Below w.heap.size w (w.alloc (.cells #[v, .slice a 0 c] 79)) := (Below.refl _ _).alloc (Nat.le_refl _) _
  have hc := fun W (hb : Below w.heap.size w W) => waits_any v (.slice a 0 c) o x W (hv.below hb) hv1 rfl
  generalize waitsB o x = r at *
  have C := Lib.hid hc
  have HB0 := Lib.hid hb0
  clear hv hc hb0
  cases r
  all_goals
    go_enter Tryz.func37, Tryz.ntmps37
    go_wp2_with fail
    refine (C.out _ HB0.out).mono ?_
    rintro e w1 ⟨rfl, hb⟩
    have HB := Lib.hid (HB0.out.trans (hb.mono HB0.out.size))
    have k0 := (hb.cell (p := ⟨w.heap.size, 0, none⟩) (by simp)).trans (new_cell w #[v, .slice a 0 c] 79 0)
    have k1 := (hb.cell (p := ⟨w.heap.size, 1, none⟩) (by simp)).trans (new_cell w #[v, .slice a 0 c] 79 1)
    clear hb
    go_wp2_with fail
    go_ret
    exact ⟨rfl, HB.out⟩
theorem clip161_nil (w : World) : Calls Tryz.prog 161 #[.slice none 0 0] w fun e w' => e = .returned (.slice none 0 0) ∧ w = w' := by
  go_enter Tryz.func161, Tryz.ntmps161
  go_wp2_with fail
  go_ret
  exact ⟨rfl, rfl⟩
theorem ParkedAt.of_owns {w : World} {B : Nat} {v : Value} {i r : Int} (h : w.ownsRow B 213 2 v 1 [.int .i64 i, .int .u64 r]) : ParkedAt w v (some (i, r)) := by
  obtain ⟨_, a, cap, rfl, hx⟩ := RowAt.of_owns h
  obtain ⟨b, off, rfl, hb, hr⟩ := hx (by omega)
  exact ⟨b, off, cap, rfl, hb, hr⟩
theorem spot_one (x r : Int) : AllOne [.int .i64 x, .int .u64 r] := by
  intro u hu
  simp at hu
  rcases hu with rfl | rfl <;> rfl
theorem owns_keep {w w' : World} {B : Nat} {e : TypeId} {k : Nat} {v : Value} {n : Nat} {xs : List Value} (h : w.ownsRow B e k v n xs) (hk : ∀ g, B ≤ g → g < w.heap.size → w'.heap[g]? = w.heap[g]?) : w'.ownsRow B e k v n xs := by
  obtain ⟨hl, h⟩ := h
  refine ⟨hl, ?_⟩
  rcases h with h | ⟨g, cap, cur, hv, hg, hr, rest⟩
  · exact .inl h
  · exact .inr ⟨g, cap, cur, hv, hg, (hk g hg (block_lt hr)).trans hr, rest⟩
set_option maxRecDepth 100000 in
theorem park_nil (x r : Int) (w : World) (hx : 1 ≤ x) (hr : r ≠ 0) :
    Calls Tryz.prog 128 #[.agg #[.slice none 0 0, .slice none 0 0], .int .i64 x, .int .u64 r] w fun e w' => ∃ v', e = .returned (.tuple #[.agg #[v', .slice none 0 0], .int .i64 0]) ∧ w'.ownsRow w.heap.size 213 2 v' 1 [.int .i64 x, .int .u64 r] ∧ Below w.heap.size w w' := by
  obtain ⟨i0, z, hi, hz0, hz1, hz2, hz3⟩ := info_213
  have hb0 : Below w.heap.size w ((w.alloc (.cells #[.slice none 0 0, .slice none 0 0] 79)).alloc (.cells #[.slice none 0 0, .slice none 0 0] 79)) := ((Below.refl _ _).alloc (Nat.le_refl _) _).alloc (by simp) _
  have C := Lib.hid (waits_any (.slice none 0 0) (.slice none 0 0) none x ((w.alloc (.cells #[.slice none 0 0, .slice none 0 0] 79)).alloc (.cells #[.slice none 0 0, .slice none 0 0] 79)) ⟨none, 0, rfl⟩ rfl rfl)
  have HB0 := Lib.hid hb0
  have hr0 : (r == 0) = false := by simpa using hr
  have C2 := Lib.hid clip161_nil
  clear hb0
  go_enter Tryz.func128, Tryz.ntmps128
  go_wp2_with fail
  refine (C.out).mono ?_
  rintro e w1 ⟨rfl, hb⟩
  have HB := Lib.hid (HB0.out.trans (hb.mono HB0.out.size))
  have e0 : w1.heap[w.heap.size]? = some (.cells #[.slice none 0 0, .slice none 0 0] 79) := (hb.block _ (by simp; omega)).trans ((heap_alloc_old _ _ (by simp)).trans (Go.heap_alloc_new _ _))
  have e1 : w1.heap[w.heap.size + 1]? = some (.cells #[.slice none 0 0, .slice none 0 0] 79) := (hb.block _ (by simp)).trans (by have := Go.heap_alloc_new (w.alloc (.cells #[.slice none 0 0, .slice none 0 0] 79)) (.cells #[.slice none 0 0, .slice none 0 0] 79); simpa only [World.size_alloc] using this)
  have k0 := cell_of_row _ _ 0 _ _ _ e0
  have k1 := cell_of_row _ _ 1 _ _ _ e0
  have lt1 : w.heap.size + 1 < w1.heap.size := block_lt e1
  have E0 := Lib.hid e0
  have E1 := Lib.hid e1
  clear hb e0 e1
  go_wp2_with fail
  refine (C2.out _).mono ?_
  rintro e y ⟨rfl, rfl⟩
  go_wp2_with (at_builtin; refine wpList_append_own _ rfl _ _ 76 rfl w1.heap.size 213 i0 z 2 16 Tryz.underlying76 hi hz0 hz1 hz2 hz3 (by decide) (.slice none 0 0) 0 [] rfl (World.ownsRow_nil _ _ _ _) ⟨w1.heap.size, 0, none⟩ 1 1 [.int .i64 x, .int .u64 r] rfl rfl (by exact news_new w1 [.int .i64 x, .int .u64 r] 213) (spot_one x r) (by unfold maxLen; omega) (by omega) (by simp) ?_)
  intro v' w2 hown hgrow _
  obtain ⟨_, av, cv, rfl, _⟩ := RowAt.of_owns hown
  have g0 : w2.heap[w.heap.size]? = some (.cells #[.slice none 0 0, .slice none 0 0] 79) := (hgrow.block _ (by simp; omega) (by simp [Value.ownBlock])).trans ((heap_alloc_old _ _ (by omega)).trans E0.out)
  have g1 : w2.heap[w.heap.size + 1]? = some (.cells #[.slice none 0 0, .slice none 0 0] 79) := (hgrow.block _ (by simp; omega) (by simp [Value.ownBlock])).trans ((heap_alloc_old _ _ (by omega)).trans E1.out)
  have c0 := cell_of_row _ _ 0 _ _ _ g0
  have c1 := cell_of_row _ _ 1 _ _ _ g0
  have f0 := fun j => frozen_of_row _ _ j _ _ g0
  have d0 := cell_of_row _ _ 0 _ _ _ g1
  have d1 := cell_of_row _ _ 1 _ _ _ g1
  have f1 := fun j => frozen_of_row _ _ j _ _ g1
  have hb2 : Below w.heap.size w w2 := (HB.out.alloc HB.out.size (.cells #[.int .i64 x, .int .u64 r] 213)).grown hgrow (by have := HB.out.size; simp; omega) (fun j hj => by cases hj)
  have HB2 := Lib.hid hb2
  have HO := Lib.hid hown
  have G0 := Lib.hid g0
  have G1 := Lib.hid g1
  clear hb2 hown hgrow g0 g1
  go_wp2_with fail
  have hF : Below w.heap.size w (((w2.setCell ⟨w.heap.size, 0, none⟩ (.slice av 1 cv)).setCell ⟨w.heap.size + 1, 0, none⟩ (.slice av 1 cv)).setCell ⟨w.heap.size + 1, 1, none⟩ (.slice none 0 0)) := ((HB2.out.setCell (p := ⟨w.heap.size, 0, none⟩) (by simp) _).setCell (p := ⟨w.heap.size + 1, 0, none⟩) (by simp) _).setCell (p := ⟨w.heap.size + 1, 1, none⟩) (by simp) _
  refine bodyPost_ret (results_cell_tmp rfl _ _ (w.heap.size + 1) 79 #[.slice av 1 cv, .slice none 0 0] (0, 0) _ rfl ?_ Tryz.underlying79 rfl (by kernel_rfl)) rfl ⟨_, rfl, ?_, hF⟩
  · exact heap_setCell_same _ _ 1 _ _ _ (heap_setCell_same _ _ 0 _ _ _ ((heap_setCell_other _ _ _ _ (by simp)).trans G1.out))
  · refine owns_mono (owns_keep HO.out fun g hg _ => ?_) (Nat.le_of_lt (Nat.lt_of_succ_lt lt1))
    exact (heap_setCell_other _ _ _ _ (by simp; omega)).trans ((heap_setCell_other _ _ _ _ (by simp; omega)).trans (heap_setCell_other _ _ _ _ (by simp; omega)))
end Go.Proofs.YteflpdhgojcmcaaGreatDoor
namespace Go.Proofs.YteflpdhgojcmcaaGreatDoor
open Go.RowKit
theorem index85_empty (x : Value) (a : Option Addr) (c : Nat) (w : World) :
    Calls Tryz.prog 85 #[.slice a 0 c, x] w fun e w' => e = .returned (.int .i64 (-1)) ∧ w = w' := by
  go_enter Tryz.func85, Tryz.ntmps85
  go_wp2_with fail
  refine wp_loop_rounds 1 ?_
  rw [rounds_succ]
  go_wp2_with fail
  go_ret
  exact ⟨rfl, rfl⟩
theorem contains46_empty (x : Value) (a : Option Addr) (c : Nat) (w : World) :
    Calls Tryz.prog 46 #[.slice a 0 c, x] w fun e w' => e = .returned (.bool false) ∧ w = w' := by
  have C := Lib.hid (index85_empty x a c w)
  go_enter Tryz.func46, Tryz.ntmps46
  go_wp2_with fail
  refine (C.out).mono ?_
  rintro e w1 ⟨rfl, rfl⟩
  go_wp2_with fail
  go_ret
  exact ⟨rfl, rfl⟩
theorem pass_none (va : Option Addr) (vn vc : Nat) (a : Option Addr) (c : Nat) (x : Int) (w : World) :
    Calls Tryz.prog 76 #[.agg #[.slice va vn vc, .slice a 0 c], .int .i64 x] w fun e w' => e = .returned (.tuple #[.agg #[.slice va vn vc, .slice a 0 c], .int .i64 3]) ∧ Below w.heap.size w w' := by
  have C := Lib.hid (contains46_empty (.int .i64 x) a c)
  go_enter Tryz.func76, Tryz.ntmps76
  go_wp2_with fail
  refine (C.out _).mono ?_
  rintro e w1 ⟨rfl, rfl⟩
  go_wp2_with fail
  refine bodyPost_ret (results_cell_tmp rfl _ _ (w.heap.size + 1 + 1) 79 #[.slice va vn vc, .slice a 0 c] (0, 0) _ rfl ?_ Tryz.underlying79 rfl (by kernel_rfl)) rfl ⟨rfl, ?_⟩
  · have := Go.heap_alloc_new ((w.alloc (.cells #[.slice va vn vc, .slice a 0 c] 79)).alloc (.cells #[.int .i64 x] 3)) (.cells #[.slice va vn vc, .slice a 0 c] 79)
    simpa only [World.size_alloc] using this
  · exact (((Below.refl _ _).alloc (Nat.le_refl _) _).alloc (by simp) _).alloc (by simp; omega) _
end Go.Proofs.YteflpdhgojcmcaaGreatDoor
namespace Go.Proofs.YteflpdhgojcmcaaGreatDoor
open Go.RowKit
theorem size144 : (Tryz.prog.info? 144).map (·.size) = some 100 := by kernel_rfl
theorem info144 {L : List Value} (h : L.length = 100) : (Tryz.prog.info? 144).map (·.size) = some L.length := by rw [h]; exact size144
theorem info144a {L : Array Value} (h : L.size = 100) : (Tryz.prog.info? 144).map (·.size) = some L.size := by rw [h]; exact size144
def slotsN (z : Nat) : Nat := 2 ^ z - 1
set_option maxRecDepth 100000 in
theorem slots_any (L : List Value) (z : Nat) (w : World) (_hL : L.length = 100) (h0 : L[0]? = some (.int .i64 z)) (hz : z = 3 ∨ z = 4) :
    Calls Tryz.prog 346 #[.agg L.toArray] w fun e w' => e = .returned (.int .u64 (slotsN z : Nat)) ∧ Below w.heap.size w w' := by
  have e0 : (w.alloc (.cells L.toArray 144)).heap[w.heap.size]? = some (.cells L.toArray 144) := Go.heap_alloc_new _ _
  have k0 : (w.alloc (.cells L.toArray 144)).cell? ⟨w.heap.size, 0, none⟩ = some (.int .i64 z) := (cell_of_row _ _ 0 _ _ _ e0).trans (by simpa using h0)
  rcases hz with rfl | rfl
  all_goals
    go_enter Tryz.func346, Tryz.ntmps346
    go_wp2_with fail
    go_ret
    exact ⟨rfl, (Below.refl _ _).alloc (Nat.le_refl _) _⟩
set_option maxRecDepth 100000 in
theorem taken_any (L : List Value) (a b : Nat) (w : World) (_hL : L.length = 100) (h0 : L[65]? = some (.int .u64 a)) (h1 : L[66]? = some (.int .u64 b)) (ha : a < 2 ^ 64) (hb : b < 2 ^ 64) :
    Calls Tryz.prog 347 #[.agg L.toArray] w fun e w' => e = .returned (.int .u64 ((a ||| b : Nat))) ∧ Below w.heap.size w w' := by
  have e0 : (w.alloc (.cells L.toArray 144)).heap[w.heap.size]? = some (.cells L.toArray 144) := Go.heap_alloc_new _ _
  have k0 : (w.alloc (.cells L.toArray 144)).cell? ⟨w.heap.size, 65, none⟩ = some (.int .u64 a) := (cell_of_row _ _ 65 _ _ _ e0).trans (by simpa using h0)
  have k1 : (w.alloc (.cells L.toArray 144)).cell? ⟨w.heap.size, 66, none⟩ = some (.int .u64 b) := (cell_of_row _ _ 66 _ _ _ e0).trans (by simpa using h1)
  go_enter Tryz.func347, Tryz.ntmps347
  go_wp2_with fail
  go_ret
  exact ⟨by rw [← u64_or_nat a b ha hb]; rfl, (Below.refl _ _).alloc (Nat.le_refl _) _⟩
end Go.Proofs.YteflpdhgojcmcaaGreatDoor
namespace Go.Proofs.YteflpdhgojcmcaaGreatDoor
open Go.RowKit PSet PMat
def zeroPool : Array Value := #[Value.int .i64 0, Value.int .u64 0, Value.int .u64 0, Value.int .u64 0, Value.int .u64 0, Value.int .u64 0, Value.int .u64 0, Value.int .u64 0, Value.int .u64 0, Value.int .u64 0, Value.int .u64 0, Value.int .u64 0, Value.int .u64 0, Value.int .u64 0, Value.int .u64 0, Value.int .u64 0, Value.int .u64 0, Value.int .u64 0, Value.int .u64 0, Value.int .u64 0, Value.int .u64 0, Value.int .u64 0, Value.int .u64 0, Value.int .u64 0, Value.int .u64 0, Value.int .u64 0, Value.int .u64 0, Value.int .u64 0, Value.int .u64 0, Value.int .u64 0, Value.int .u64 0, Value.int .u64 0, Value.int .u64 0, Value.int .i64 0, Value.int .i64 0, Value.int .i64 0, Value.int .i64 0, Value.int .i64 0, Value.int .i64 0, Value.int .i64 0, Value.int .i64 0, Value.int .i64 0, Value.int .i64 0, Value.int .i64 0, Value.int .i64 0, Value.int .i64 0, Value.int .i64 0, Value.int .i64 0, Value.int .i64 0, Value.int .i64 0, Value.int .i64 0, Value.int .i64 0, Value.int .i64 0, Value.int .i64 0, Value.int .i64 0, Value.int .i64 0, Value.int .i64 0, Value.int .i64 0, Value.int .i64 0, Value.int .i64 0, Value.int .i64 0, Value.int .i64 0, Value.int .i64 0, Value.int .i64 0, Value.int .i64 0, Value.int .u64 0, Value.int .u64 0, Value.int .i64 0, Value.int .i64 0, Value.int .i64 0, Value.int .i64 0, Value.int .i64 0, Value.int .i64 0, Value.int .i64 0, Value.int .i64 0, Value.int .i64 0, Value.int .i64 0, Value.int .i64 0, Value.int .i64 0, Value.int .i64 0, Value.int .i64 0, Value.int .i64 0, Value.int .i64 0, Value.int .i64 0, Value.int .i64 0, Value.int .i64 0, Value.int .i64 0, Value.int .i64 0, Value.int .i64 0, Value.int .i64 0, Value.int .i64 0, Value.int .i64 0, Value.int .i64 0, Value.int .i64 0, Value.int .i64 0, Value.int .i64 0, Value.int .i64 0, Value.int .i64 0, Value.int .i64 0, Value.int .i64 0]
theorem zeroPool_size : zeroPool.size = 100 := by rfl
/-- The world behind the first steps: the pool in a variable, the result in another. -/
def pooled (w : World) (L : List Value) : World := (w.alloc (.cells L.toArray 144)).alloc (.cells zeroPool 144)
structure Pooled (w W : World) (L : List Value) (Z : Array Value) : Prop where
  at0 : W.heap[w.heap.size]? = some (.cells L.toArray 144 (0, 0))
  at1 : W.heap[w.heap.size + 1]? = some (.cells Z 144 (0, 0))
  below : Below w.heap.size w W
theorem pooled_is (w : World) (L : List Value) : Pooled w (pooled w L) L zeroPool :=
  ⟨(heap_alloc_old _ _ (by simp)).trans (Go.heap_alloc_new _ _), heap_alloc2_new _ _ _, ((Below.refl _ _).alloc (Nat.le_refl _) _).alloc (by simp) _⟩
theorem Pooled.to {w W W' : World} {L : List Value} {Z : Array Value} (h : Pooled w W L Z) (hb : Below W.heap.size W W') : Pooled w W' L Z :=
  ⟨(hb.block _ (block_lt h.at0)).trans h.at0, (hb.block _ (block_lt h.at1)).trans h.at1, h.below.trans (hb.mono h.below.size)⟩
theorem Pooled.drew {w W : World} {L : List Value} {Z : Array Value} (h : Pooled w W L Z) : Pooled w W.drew L Z := ⟨h.at0, h.at1, h.below.drew⟩
theorem Pooled.set {w W : World} {L : List Value} {Z : Array Value} (h : Pooled w W L Z) (j : Nat) (v : Value) : Pooled w (W.setCell ⟨w.heap.size, j, none⟩ v) (L.set j v) Z := by
  refine ⟨?_, (heap_setCell_other _ _ _ _ (by simp)).trans h.at1, h.below.setCell (p := ⟨w.heap.size, j, none⟩) (Nat.le_refl _) _⟩
  have := heap_setCell_same W w.heap.size j _ _ v h.at0
  rw [List.setIfInBounds_toArray] at this
  exact this
theorem Pooled.cell {w W : World} {L : List Value} {Z : Array Value} (h : Pooled w W L Z) {j : Nat} {v : Value} (hj : L[j]? = some v) : W.cell? ⟨w.heap.size, j, none⟩ = some v := (cell_of_row _ _ _ _ _ _ h.at0).trans (by simpa using hj)
theorem Pooled.frozen {w W : World} {L : List Value} {Z : Array Value} (h : Pooled w W L Z) (j : Nat) : W.frozen? ⟨w.heap.size, j, none⟩ = false := frozen_of_row _ _ j _ _ h.at0
theorem one_set {L : List Value} (h : L.toArray.all (·.oneCell') = true) (j : Nat) (v : Value) (hv : v.oneCell' = true) : (L.set j v).toArray.all (·.oneCell') = true := by
  simp only [List.all_toArray, List.all_eq_true] at h ⊢
  intro x hx
  rcases List.mem_or_eq_of_mem_set hx with h' | rfl
  · exact h x h'
  · exact hv
/-- Three results: one that lies in memory, and two that don't. -/
theorem results_cell_tmp2 {P : Program} {fn : Func} {p t u : Tmp} {ty : TypeId} (h : fn.results = #[.cell p ty, .tmp t, .tmp u]) (tmps : Array Value) (w : World) (g : Nat) (tt : TypeId) (cs : Array Value) (fr : Nat × Nat) (d : TypeDesc)
    (hp : tmps.getD p undef = .pointer (some ⟨g, 0, none⟩)) (hg : w.heap[g]? = some (.cells cs tt fr))
    (hu : P.underlying ty = some d) (hd : (match d with | .struct _ | .array _ _ => true | _ => false) = true) (hi : (P.info? ty).map (·.size) = some cs.size) :
    (results fn tmps).run P w = .ok (.tuple #[.agg cs, tmps.getD t undef, tmps.getD u undef]) w := by
  have hp' : tmps[p]?.getD undef = .pointer (some ⟨g, 0, none⟩) := by simpa using hp
  simp [results, h, hp', asAddr, run_loadVar_row w g tt ty cs fr d hg hu hd hi]
def beganP (L : List Value) (c : Int) : List Value := ((L.set 65 (.int .u64 1)).set 99 (.int .i64 (c + 1))).set 67 (.int .i64 (c + 1))
set_option maxRecDepth 100000 in
set_option maxHeartbeats 1000000 in
theorem poolBegin (L : List Value) (z : Nat) (c : Int) (w : World) (hL : L.length = 100) (h1 : L.toArray.all (·.oneCell') = true) (h0 : L[0]? = some (.int .i64 z)) (hz : z = 3 ∨ z = 4)
    (h65 : L[65]? = some (.int .u64 0)) (h66 : L[66]? = some (.int .u64 0)) (h99 : L[99]? = some (.int .i64 c)) (hc : 0 ≤ c) (hc2 : c < 4611686018427387904) (hT : Tab w) :
    Calls Tryz.prog 338 #[.agg L.toArray] w fun e w' => e = .returned (.tuple #[.agg (beganP L c).toArray, .int .i64 0, .int .i64 0]) ∧ Below w.heap.size w w' := by
  have C1 := Lib.hid (fun W => slots_any L z W hL h0 hz)
  have C2 := Lib.hid (fun W => taken_any L 0 0 W hL h65 h66 (by decide) (by decide))
  have ba : bits .andNot .u64 ((slotsN z : Nat) : Int) 0 = ((slotsN z : Nat) : Int) := by rcases hz with rfl | rfl <;> rfl
  have hlt : slotsN z < 2 ^ 64 := by rcases hz with rfl | rfl <;> decide
  have hf : firstN (slotsN z) = 0 := by rcases hz with rfl | rfl <;> decide
  have HT := Lib.hid hT
  have C3 := Lib.hid (fun W hT => first_any (slotsN z) W hlt hT)
  rw [hf] at C3
  have C4 := Lib.hid (fun W hT => items_int 0 W (by decide) hT)
  have HL := Lib.hid hL
  have H1 := Lib.hid h1
  have i0 : (itemsI 0).length = 0 := by decide
  clear hT h0 hz hlt hf
  go_enter Tryz.func338, Tryz.ntmps338
  go_upto_region 1 with (fail)
  change Code.wp _ _ _ _ (pooled w L)
  have hp := pooled_is w L
  generalize pooled w L = W at *
  have HP := Lib.hid hp
  clear hp
  have hS0 : (fun w' : World => w'.rangeAt w.heap.size 0 L) W.drew := range_of_block HP.out.at0
  refine wp_region_held_drew (S := fun w' => w'.rangeAt w.heap.size 0 L) (by kernel_rfl) hS0 (fun hHeld => ?_)
  clear hS0
  refine held_long 0 144 _ w.heap.size 0 L _ rfl rfl (by kernel_rfl) (by kernel_rfl) (by kernel_rfl) (fun _ _ _ h => h) (by rfl) rfl Tryz.underlying144 rfl (info144 hL) (fun _ h => h) (by assumption) ?_
  simp only [Act.put, pt1, pt2, pt3]
  refine held_long 2 144 _ w.heap.size 0 L _ rfl rfl (by kernel_rfl) (by kernel_rfl) (by kernel_rfl) (fun _ _ _ h => h) (by rfl) rfl Tryz.underlying144 rfl (info144 hL) (fun _ h => h) (by assumption) ?_
  simp only [Act.put, pt1, pt2, pt3]
  refine hcl 1 (fun K hK => ?_)
  go_simp
  go_at_call 346
  refine (C1.out _).mono ?_
  rintro e y ⟨rfl, hb⟩
  have hp1 := (HP.out.drew).to hb
  have HP1 := Lib.hid hp1
  clear hb hp1
  go_wp2_with fail
  refine hK.out _ _ ?_ (fun hHeld => ?_)
  · exact range_of_block HP1.out.at0
  clear hK K
  try simp only [Act.put, pt1, pt2, pt3]
  refine hcl 3 (fun K hK => ?_)
  go_simp
  go_at_call 347
  refine (C2.out _).mono ?_
  rintro e y2 ⟨rfl, hb⟩
  have hp2 := HP1.out.to hb
  have HP2 := Lib.hid hp2
  clear hb hp2
  go_wp2_with fail
  refine hK.out _ _ ?_ (fun hHeld => ?_)
  · exact range_of_block HP2.out.at0
  clear hK K
  try simp only [Act.put, pt1, pt2, pt3]
  refine hd 4 (v := .int .u64 (slotsN z : Nat)) ?_ ?_
  · intro w _; go_simp
  simp only [Act.put, pt1, pt2, pt3]
  refine hcl 5 (fun K hK => ?_)
  go_simp
  go_at_call 207
  refine (C3.out _ (HT.out.below HT.out.pos HP2.out.below)).mono ?_
  rintro e y3 ⟨rfl, rfl⟩
  go_wp2_with fail
  refine hK.out _ _ ?_ (fun hHeld => ?_)
  · exact range_of_block HP2.out.at0
  clear hK K
  try simp only [Act.put, pt1, pt2, pt3]
  refine hd 6 (v := ?_) ?_ ?_
  rotate_left
  · intro w _; go_simp; try with_reducible rfl
  simp only [Act.put, pt1, pt2, pt3]
  refine held_done (by kernel_rfl) ?_
  clear hHeld HP HP1 C1 C2 C3 ba
  have k66 := HP2.out.cell h66
  go_wp2_with fail
  refine (C4.out _ (HT.out.below HT.out.pos HP2.out.below)).mono ?_
  rintro e y4 ⟨a4, c4, rfl, _, hb4⟩
  rw [i0]
  have hp4 := HP2.out.to hb4
  have j65 := hp4.cell h65
  have j99 := hp4.cell h99
  have f65 := hp4.frozen 65
  have f99 := hp4.frozen 99
  have f67 := hp4.frozen 67
  obtain ⟨v67, h67⟩ : ∃ v, L[67]? = some v := ⟨_, List.getElem?_eq_getElem (by omega)⟩
  have j67 := hp4.cell h67
  have HP4 := Lib.hid hp4
  clear hb4 k66 hp4 HP2 C4
  have C5 := Lib.hid (fun W => with_any 0 0 W (by decide))
  go_wp2_with fail
  refine wp_loop_rounds 1 ?_
  rw [rounds_succ]
  go_wp2_with fail
  refine (C5.out _).mono ?_
  rintro e y5 ⟨rfl, rfl⟩
  rw [show withN 0 0 = 1 from rfl]
  go_upto_region 12 with (fail)
  refine name_w ?_
  intro W5 hW5
  have hp5 : Pooled w W5 (beganP L c) zeroPool := by rw [hW5]; exact ((HP4.out.set 65 _).set 99 _).set 67 _
  have hl5 : (beganP L c).length = 100 := by simp [beganP, HL.out]
  have ho5 : (beganP L c).toArray.all (·.oneCell') = true := one_set (one_set (one_set H1.out _ _ rfl) _ _ rfl) _ _ rfl
  generalize hM : beganP L c = M at *
  have HM := Lib.hid hM
  have HP5 := Lib.hid hp5
  have HL5 := Lib.hid hl5
  have HO5 := Lib.hid ho5
  clear hM hW5 hp5 hl5 ho5 HP4 HL H1 h1 hL h65 h66 h99 h67 j65 j99 j67 f65 f99 f67
  go_wp2_with (first
    | (refine wpList_load_row rfl 144 _ rfl w.heap.size rfl 144 M.toArray (0, 0) _ HP5.out.at0 Tryz.underlying144 rfl (info144a (by simpa using HL5.out)) ?_)
    | (refine wpList_store_row rfl 144 _ _ rfl (w.heap.size + 1) M.toArray rfl rfl 144 zeroPool HP5.out.at1 (info144a (by simpa using HL5.out)) (by simp [HL5.out, zeroPool_size]) HO5.out ?_))
  refine bodyPost_ret (results_cell_tmp2 rfl _ _ (w.heap.size + 1) 144 M.toArray (0, 0) _ rfl (block_setRow_same HP5.out.at1) Tryz.underlying144 rfl (info144a (by simpa using HL5.out))) rfl ⟨by rw [HM.out]; rfl, ?_⟩
  exact below_setRow' HP5.out.below (by omega) _
end Go.Proofs.YteflpdhgojcmcaaGreatDoor
namespace Go.Proofs.YteflpdhgojcmcaaGreatDoor
open Go.RowKit PSet PMat
def endedP (L : List Value) : List Value := (L.set 65 (.int .u64 0)).set 66 (.int .u64 1)
set_option maxRecDepth 100000 in
theorem poolEnd (L : List Value) (w : World) (hL : L.length = 100) (h1 : L.toArray.all (·.oneCell') = true)
    (h65 : L[65]? = some (.int .u64 1)) (h66 : L[66]? = some (.int .u64 0)) :
    Calls Tryz.prog 343 #[.agg L.toArray, .int .i64 0] w fun e w' => e = .returned (.tuple #[.agg (endedP L).toArray, .int .i64 0]) ∧ Below w.heap.size w w' := by
  have C1 := Lib.hid (fun W => has_any 1 0 W (by decide))
  rw [show hasB 1 0 = true from by decide] at C1
  have C2 := Lib.hid (fun W => less_any 1 0 W (by decide))
  rw [show lessN 1 0 = 0 from by decide] at C2
  have C3 := Lib.hid (fun W => with_any 0 0 W (by decide))
  rw [show withN 0 0 = 1 from rfl] at C3
  have HL := Lib.hid hL
  have H1 := Lib.hid h1
  go_enter Tryz.func343, Tryz.ntmps343
  go_upto_region 1 with (fail)
  change Code.wp _ _ _ _ (pooled w L)
  have hp := pooled_is w L
  generalize pooled w L = W at *
  have HP := Lib.hid hp
  have k65 := hp.cell h65
  have k66 := hp.cell h66
  have f65 := hp.frozen 65
  have f66 := hp.frozen 66
  clear hp
  go_wp2_with fail
  refine (C1.out _).mono ?_
  rintro e y ⟨rfl, rfl⟩
  go_wp2_with fail
  refine wp_region_still_tail 9 (by kernel_rfl) (by kernel_rfl) ?_
  simp only [List.take_succ_cons, List.take_zero, List.drop_succ_cons, List.drop_zero]
  iterate 3 still_step
  still_call ((C2.out _).mono fun e w' h => ⟨h.1, h.2.symm⟩)
  iterate 3 still_step
  still_call ((C3.out _).mono fun e w' h => ⟨h.1, h.2.symm⟩)
  repeat still_step
  refine wpStill_nil ?_
  change wpList _ _ _ _ _ W.drew
  go_upto_region 4 with (fail)
  refine name_w ?_
  intro W5 hW5
  have hp5 : Pooled w W5 (endedP L) zeroPool := by rw [hW5]; exact (HP.out.drew.set 65 _).set 66 _
  have hl5 : (endedP L).length = 100 := by simp [endedP, HL.out]
  have ho5 : (endedP L).toArray.all (·.oneCell') = true := one_set (one_set H1.out _ _ rfl) _ _ rfl
  generalize hM : endedP L = M at *
  have HM := Lib.hid hM
  have HP5 := Lib.hid hp5
  have HL5 := Lib.hid hl5
  have HO5 := Lib.hid ho5
  clear hM hW5 hp5 hl5 ho5 HP HL H1 h1 hL h65 h66 k65 k66 f65 f66
  go_wp2_with (first
    | (refine wpList_load_row rfl 144 _ rfl w.heap.size rfl 144 M.toArray (0, 0) _ HP5.out.at0 Tryz.underlying144 rfl (info144a (by simpa using HL5.out)) ?_)
    | (refine wpList_store_row rfl 144 _ _ rfl (w.heap.size + 1) M.toArray rfl rfl 144 zeroPool HP5.out.at1 (info144a (by simpa using HL5.out)) (by simp [HL5.out, zeroPool_size]) HO5.out ?_))
  refine bodyPost_ret (results_cell_tmp rfl _ _ (w.heap.size + 1) 144 M.toArray (0, 0) _ rfl (block_setRow_same HP5.out.at1) Tryz.underlying144 rfl (info144a (by simpa using HL5.out))) rfl ⟨by rw [HM.out]; rfl, ?_⟩
  exact below_setRow' HP5.out.below (by omega) _
end Go.Proofs.YteflpdhgojcmcaaGreatDoor
