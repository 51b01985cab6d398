/- The walk of pool.source: no slot is done, or the first alone, of a pool without edges. The walk of pool.Collect, of a pool whose first slot alone is done, without edges. The walks of topo.New and pool.New. The walk of pool.New. A map of one number: the store and the look-up. No conditions but those that each theorem names. -/
import Derived.Test.YteflpdhgojcmcaaGreatDoorU01
import Derived.Test.YteflpdhgojcmcaaGreatDoorU08
namespace Go.Proofs.YteflpdhgojcmcaaGreatDoor
open Go.RowKit PSet PMat
section
variable {l : List Oper} {Q : Exit → Act → World → Prop} {md : Region.Mode} {S : World → Prop}
end
theorem source_none (L : List Value) (w : World) (h66 : L[66]? = some (.int .u64 0)) (hT : Tab w) :
    Calls Tryz.prog 353 #[.agg L.toArray] w fun e w' => e = .returned (.tuple #[.int .i64 0, .bool false]) ∧ Below w.heap.size w w' := by
  have hb0 : Below w.heap.size w (w.alloc (.cells L.toArray 144)) := (Below.refl _ _).alloc (Nat.le_refl _) _
  have C4 := Lib.hid (items_int 0 (w.alloc (.cells L.toArray 144)) (by decide) (hT.below hT.pos hb0))
  have i0 : (itemsI 0).length = 0 := by decide
  have k66 : (w.alloc (.cells L.toArray 144)).cell? ⟨w.heap.size, 66, none⟩ = some (.int .u64 0) := (cell_of_row _ _ 66 _ _ _ (Go.heap_alloc_new _ _)).trans (by simpa using h66)
  have HB0 := Lib.hid hb0
  clear hT h66 hb0
  go_enter Tryz.func353, Tryz.ntmps353
  go_wp2_with fail
  refine (C4.out).mono ?_
  rintro e y4 ⟨a4, c4, rfl, _, hb4⟩
  rw [i0]
  have HB := Lib.hid (HB0.out.trans (hb4.mono HB0.out.size))
  clear hb4 k66
  go_wp2_with fail
  refine wp_loop_rounds 1 ?_
  rw [rounds_succ]
  go_wp2_with fail
  go_ret2
  exact ⟨rfl, HB.out⟩
set_option maxRecDepth 100000 in
theorem source_one (L : List Value) (w : World) (h66 : L[66]? = some (.int .u64 1)) (hM : (L.drop 1).take 32 = (numsV zeros).toList) (hT : Tab w) :
    Calls Tryz.prog 353 #[.agg L.toArray] w fun e w' => e = .returned (.tuple #[.int .i64 0, .bool true]) ∧ Below w.heap.size w w' := by
  have hb0 : Below w.heap.size w (w.alloc (.cells L.toArray 144)) := (Below.refl _ _).alloc (Nat.le_refl _) _
  have C4 := Lib.hid (items_int 1 (w.alloc (.cells L.toArray 144)) (by decide) (hT.below hT.pos hb0))
  have i0 : itemsI 1 = [0] := by decide
  have e0 : (w.alloc (.cells L.toArray 144)).heap[w.heap.size]? = some (.cells L.toArray 144) := Go.heap_alloc_new _ _
  have k66 : (w.alloc (.cells L.toArray 144)).cell? ⟨w.heap.size, 66, none⟩ = some (.int .u64 1) := (cell_of_row _ _ 66 _ _ _ e0).trans (by simpa using h66)
  have HB0 := Lib.hid hb0
  have E0 := Lib.hid e0
  have hmz : Mat zeros := ⟨rfl, fun k => by unfold zeros; rw [List.getD_eq_getElem?_getD, List.getElem?_replicate]; split <;> decide⟩
  have C5 := Lib.hid (fun W => ins_any zeros 0 W hmz)
  rw [show insN zeros 0 = 0 from by decide] at C5
  have hrm : ∀ W : World, W.heap[w.heap.size]? = some (.cells L.toArray 144) → W.rangeAt w.heap.size 1 (numsV zeros).toList := by
    intro W hW j v hj
    rw [cell_of_row _ _ _ _ _ _ hW]
    rw [← hM] at hj
    rw [List.getElem?_take] at hj
    split at hj
    · rw [List.getElem?_drop] at hj
      simpa using hj
    · cases hj
  have HR := Lib.hid hrm
  clear hT h66 hb0 hM hmz hrm e0
  go_enter Tryz.func353, Tryz.ntmps353
  go_wp2_with fail
  refine (C4.out).mono ?_
  rintro e y4 ⟨a4, c4, rfl, hI, hb4⟩
  rw [i0] at hI ⊢
  obtain ⟨b4, off4, ha, hi4⟩ := hI 0 (by decide)
  subst ha
  have q4 : y4.cell? ⟨b4, off4, none⟩ = some (.int .i64 0) := hi4
  have e4 := (hb4.block _ (block_lt E0.out)).trans E0.out
  have E4 := Lib.hid e4
  have HB := Lib.hid (HB0.out.trans (hb4.mono HB0.out.size))
  clear hb4 k66 hI hi4 i0 e4
  go_wp2_with fail
  refine wp_loop_rounds 2 ?_
  rw [rounds_succ]
  go_wp2_with fail
  have hS0 : (fun w' : World => w'.rangeAt w.heap.size 1 (numsV zeros).toList) y4.drew := HR.out _ E4.out
  refine wp_region_held_drew (S := fun w' => w'.rangeAt w.heap.size 1 (numsV zeros).toList) (by kernel_rfl) hS0 (fun hHeld => ?_)
  clear hS0
  refine hd 0 (v := ?_) ?_ ?_
  rotate_left
  · intro w hS; go_simp; try with_reducible rfl
  simp only [Act.put, pt1, pt2, pt3]
  refine held_long 1 140 _ w.heap.size 1 (numsV zeros).toList _ rfl rfl (by kernel_rfl) (by kernel_rfl) (by kernel_rfl) (fun _ _ _ h => h) (by rfl) rfl Tryz.underlying140 rfl (by kernel_rfl) (fun _ h => h) (by assumption) ?_
  simp only [Act.put, pt1, pt2, pt3]
  refine hd 2 (v := ?_) ?_ ?_
  rotate_left
  · intro w hS; go_simp; try with_reducible rfl
  simp only [Act.put, pt1, pt2, pt3]
  refine hcl 3 (fun K hK => ?_)
  go_simp
  go_at_call 89
  refine (C5.out _).mono ?_
  rintro e y5 ⟨rfl, hb5⟩
  have hb6 : Below w.heap.size w y5 := HB.out.drew.trans (hb5.mono HB.out.drew.size)
  have e5 := (hb5.block _ (block_lt E4.out)).trans E4.out
  have HB5 := Lib.hid hb6
  go_wp2_with fail
  refine hK.out _ _ ?_ (fun hHeld => ?_)
  · exact HR.out _ e5
  clear hK K hb5 hb6 e5
  try simp only [Act.put, pt1, pt2, pt3]
  refine hd 4 (v := ?_) ?_ ?_
  rotate_left
  · intro w hS; go_simp; try with_reducible rfl
  simp only [Act.put, pt1, pt2, pt3]
  refine hd 5 (v := ?_) ?_ ?_
  rotate_left
  · intro w hS; go_simp; try with_reducible rfl
  simp only [Act.put, pt1, pt2, pt3]
  refine hd 6 (v := ?_) ?_ ?_
  rotate_left
  · intro w hS; go_simp; try with_reducible rfl
  simp only [Act.put, pt1, pt2, pt3]
  refine hd 7 (v := ?_) ?_ ?_
  rotate_left
  · intro w hS; go_simp; try with_reducible rfl
  simp only [Act.put, pt1, pt2, pt3]
  refine hd 8 (v := ?_) ?_ ?_
  rotate_left
  · intro w hS; go_simp; try with_reducible rfl
  simp only [Act.put, pt1, pt2, pt3]
  refine hd 9 (v := ?_) ?_ ?_
  rotate_left
  · intro w hS; go_simp; try with_reducible rfl
  simp only [Act.put, pt1, pt2, pt3]
  refine hd 10 (v := ?_) ?_ ?_
  rotate_left
  · intro w hS; go_simp; try with_reducible rfl
  simp only [Act.put, pt1, pt2, pt3]
  refine hd 11 (v := ?_) ?_ ?_
  rotate_left
  · intro w hS; go_simp; try with_reducible rfl
  simp only [Act.put, pt1, pt2, pt3]
  refine hd 12 (v := ?_) ?_ ?_
  rotate_left
  · intro w hS; go_simp; try with_reducible rfl
  simp only [Act.put, pt1, pt2, pt3]
  refine hk 13 ?_
  simp only [Act.put, pt1, pt2, pt3]
  refine hk 14 ?_
  simp only [Act.put, pt1, pt2, pt3]
  refine hk 15 ?_
  simp only [Act.put, pt1, pt2, pt3]
  refine hk 16 ?_
  simp only [Act.put, pt1, pt2, pt3]
  refine hk 17 ?_
  simp only [Act.put, pt1, pt2, pt3]
  refine hk 18 ?_
  simp only [Act.put, pt1, pt2, pt3]
  refine hk 19 ?_
  simp only [Act.put, pt1, pt2, pt3]
  refine hk 20 ?_
  simp only [Act.put, pt1, pt2, pt3]
  refine hk 21 ?_
  simp only [Act.put, pt1, pt2, pt3]
  refine hd 22 (v := ?_) ?_ ?_
  rotate_left
  · intro w hS; go_simp; try with_reducible rfl
  simp only [Act.put, pt1, pt2, pt3]
  refine hd 23 (v := ?_) ?_ ?_
  rotate_left
  · intro w hS; go_simp; try with_reducible rfl
  simp only [Act.put, pt1, pt2, pt3]
  refine held_done (by kernel_rfl) ?_
  clear hHeld
  go_wp2_with fail
  rw [rounds_succ]
  go_wp2_with fail
  go_ret2
  exact ⟨rfl, HB5.out⟩
end Go.Proofs.YteflpdhgojcmcaaGreatDoor
namespace Go.Proofs.YteflpdhgojcmcaaGreatDoor
open Go.RowKit PSet PMat
theorem lset_same (L : List Value) (j : Nat) (v : Value) (h : L[j]? = some v) : L.toArray.setIfInBounds j v = L.toArray := by
  obtain ⟨hj, he⟩ := List.getElem?_eq_some_iff.1 h
  simp only [List.setIfInBounds_toArray]
  rw [← he, List.set_getElem_self]
theorem setCells_same (b t : Nat) (L : List Value) : ∀ (vs : List Value) (o : Nat) (w : World), w.heap[b]? = some (.cells L.toArray t (0, 0)) → (∀ j v, vs[j]? = some v → L[o + j]? = some v) →
    (w.setCells b o vs).heap[b]? = some (.cells L.toArray t (0, 0)) ∧ (∀ g, g ≠ b → (w.setCells b o vs).heap[g]? = w.heap[g]?) ∧ ∀ B w0, Below B w0 w → B ≤ b → Below B w0 (w.setCells b o vs)
  | [], _, _, h, _ => ⟨h, fun _ _ => rfl, fun _ _ k _ => k⟩
  | v :: vs, o, w, h, hv => by
    have h1 : (w.setCell ⟨b, o, none⟩ v).heap[b]? = some (.cells L.toArray t (0, 0)) := by
      have := heap_setCell_same w b o _ _ v h
      rw [lset_same L o v (hv 0 v rfl)] at this
      exact this
    obtain ⟨k1, k2, k3⟩ := setCells_same b t L vs (o + 1) (w.setCell ⟨b, o, none⟩ v) h1 (fun j u hj => by have := hv (j + 1) u (by simpa using hj); rw [Nat.add_assoc, Nat.add_comm 1 j]; exact this)
    refine ⟨k1, fun g hg => (k2 g hg).trans (heap_setCell_other _ _ _ _ hg), fun B w0 hB hb => k3 B w0 (hB.setCell (p := ⟨b, o, none⟩) hb _) hb⟩
theorem Pooled.setCells {w W : World} {L : List Value} {Z : Array Value} (h : Pooled w W L Z) (o : Nat) (vs : List Value) (hv : ∀ j v, vs[j]? = some v → L[o + j]? = some v) : Pooled w (W.setCells w.heap.size o vs) L Z := by
  obtain ⟨k1, k2, k3⟩ := setCells_same w.heap.size 144 L vs o W h.at0 hv
  exact ⟨k1, (k2 _ (by omega)).trans h.at1, k3 _ _ h.below (Nat.le_refl _)⟩
theorem Pooled.mat {w W : World} {L : List Value} {Z : Array Value} (h : Pooled w W L Z) (hM : ∀ j v, (numsV zeros).toList[j]? = some v → L[1 + j]? = some v) : W.rangeAt w.heap.size 1 (numsV zeros).toList := fun j v hj => by
  rw [cell_of_row _ _ _ _ _ _ h.at0]
  simpa using hM j v hj
def sweptP (L : List Value) : List Value := (L.set 66 (.int .u64 0)).set 67 (.int .i64 0)
def CollectA (L : List Value) (w : World) (a' : Act) (w' : World) : Prop :=
  a' = { tmps := #[.agg L.toArray, .pointer (some ⟨w.heap.size, 0, none⟩), .pointer (some ⟨w.heap.size + 1, 0, none⟩), .slice none 0 0, .slice none 0 0, undef, undef, undef, undef, undef, undef, undef, undef, undef, undef, undef, undef, undef, undef, undef, undef, undef, undef, undef, undef, undef, undef, undef, undef, undef, undef, undef, undef, undef, undef], defers := [] } ∧ Pooled w w' L zeroPool
def CollectB (L : List Value) (id : Int) (w : World) (a' : Act) (w' : World) : Prop :=
  ∃ (g c : Nat) (u5 u6 u7 u8 u9 u10 u11 u12 u13 u14 u15 u16 u17 u18 u19 u20 u21 u22 u23 u24 u25 u26 u27 u28 u29 u30 u31 u32 u33 u34 : Value), a' = { tmps := #[.agg L.toArray, .pointer (some ⟨w.heap.size, 0, none⟩), .pointer (some ⟨w.heap.size + 1, 0, none⟩), .slice none 0 0, .slice (some ⟨g, 0, none⟩) 1 c, u5, u6, u7, u8, u9, u10, u11, u12, u13, u14, u15, u16, u17, u18, u19, u20, u21, u22, u23, u24, u25, u26, u27, u28, u29, u30, u31, u32, u33, u34], defers := [] } ∧
    Pooled w w' (sweptP L) zeroPool ∧ w'.ownsRow (w.heap.size + 2) 3 1 (.slice (some ⟨g, 0, none⟩) 1 c) 1 [.int .i64 id]
set_option maxRecDepth 100000 in
set_option maxHeartbeats 1000000 in
theorem poolCollect (L : List Value) (id : Int) (w : World) (hL : L.length = 100) (h1 : L.toArray.all (·.oneCell') = true) (h66 : L[66]? = some (.int .u64 1)) (h67 : L[67]? = some (.int .i64 id))
    (hM : (L.drop 1).take 32 = (numsV zeros).toList) (hT : Tab w) :
    Calls Tryz.prog 344 #[.agg L.toArray] w fun e w' => ∃ v, e = .returned (.tuple #[.agg (sweptP L).toArray, v]) ∧ w'.ownsRow w.heap.size 3 1 v 1 [.int .i64 id] ∧ Below w.heap.size w w' := by
  obtain ⟨i0, hi, hz0, hz1, hz2⟩ := info_parts info3
  have C1 := Lib.hid (fun W hT => source_one L W h66 hM hT)
  have hl2 : (sweptP L).length = 100 := by simp [sweptP, hL]
  have ho2 : (sweptP L).toArray.all (·.oneCell') = true := one_set (one_set h1 _ _ rfl) _ _ rfl
  have h66' : (sweptP L)[66]? = some (.int .u64 0) := by
    unfold sweptP
    rw [List.getElem?_set_ne (by decide), List.getElem?_set_self (by omega)]
  have C2 := Lib.hid (fun W hT => source_none (sweptP L) W h66' hT)
  have C3 := Lib.hid (fun W => cut_any zeros 0 W ⟨rfl, fun k => by unfold zeros; rw [List.getD_eq_getElem?_getD, List.getElem?_replicate]; split <;> decide⟩)
  rw [show cutN zeros 0 = zeros from by decide] at C3
  have C4 := Lib.hid (fun W => less_any 1 0 W (by decide))
  rw [show lessN 1 0 = 0 from by decide] at C4
  have hm : ∀ j v, (numsV zeros).toList[j]? = some v → L[1 + j]? = some v := by
    intro j v hj
    rw [← hM, List.getElem?_take] at hj
    split at hj
    · rwa [List.getElem?_drop] at hj
    · cases hj
  have HM := Lib.hid hm
  have HT := Lib.hid hT
  have HL := Lib.hid hL
  have HL2 := Lib.hid hl2
  have HO2 := Lib.hid ho2
  have H66 := Lib.hid h66
  have H67 := Lib.hid h67
  clear hT h66 h67 hM hm hl2 ho2 h66' h1 hL
  go_enter Tryz.func344, Tryz.ntmps344
  go_wp2_with fail
  refine wp_scope_pass 0 (fun a' w' => CollectA L w a' w' ∨ CollectB L id w a' w') (fun a' _ => match a'.tmps.getD 4 undef with | .slice none _ _ => 1 | _ => 0) rfl ?_ ?_
  · rintro a' wr (⟨rfl, hp⟩ | ⟨g, c, u5, u6, u7, u8, u9, u10, u11, u12, u13, u14, u15, u16, u17, u18, u19, u20, u21, u22, u23, u24, u25, u26, u27, u28, u29, u30, u31, u32, u33, u34, rfl, hp, hown⟩)
    · have HP := Lib.hid hp
      clear hp
      go_wp2_with (refine wpList_load_row rfl 144 _ rfl w.heap.size rfl 144 L.toArray (0, 0) _ HP.out.at0 Tryz.underlying144 rfl (info144a (by simpa using HL.out)) ?_)
      refine (C1.out _ (HT.out.below HT.out.pos HP.out.below)).mono ?_
      rintro e w1 ⟨rfl, hb1⟩
      have hp1 := HP.out.to hb1
      have k67 := hp1.cell H67.out
      have HP1 := Lib.hid hp1
      clear hb1 hp1
      have hlw : w.heap.size + 1 < w1.heap.size := block_lt HP1.out.at1
      go_wp2_with (at_builtin; refine wpList_append_own _ rfl _ _ 77 rfl (w.heap.size + 2) 3 i0 (.int .i64 0) 1 8 Tryz.underlying77 hi hz0 hz1 hz2 rfl (by decide) _ _ _ rfl (World.ownsRow_nil _ _ _ _) ⟨w1.heap.size, 0, none⟩ 1 1 [.int .i64 id] rfl rfl ?c1 ?c2 ?c3 ?c4 ?c5 ?_)
      case c1 => exact cell_one_new _ _ _
      case c2 => simp [Value.oneCell']
      case c3 => unfold maxLen; simp
      case c4 => simp
      case c5 => simp; omega
      intro v' w2 hown hgrow _
      have hl0 : w.heap.size < w1.heap.size := by omega
      have hp2 : Pooled w w2 L zeroPool := ⟨(hgrow.block _ (by simp; omega) (by simp [Value.ownBlock])).trans ((heap_alloc_old _ _ hl0).trans HP1.out.at0), (hgrow.block _ (by simp; omega) (by simp [Value.ownBlock])).trans ((heap_alloc_old _ _ hlw).trans HP1.out.at1), (HP1.out.below.alloc HP1.out.below.size _).grown hgrow (by have := HP1.out.below.size; simp; omega) (fun j hj => by cases hj)⟩
      obtain ⟨g, cv, rfl⟩ : ∃ g cv, v' = .slice (some ⟨g, 0, none⟩) 1 cv := by
        obtain ⟨_, h⟩ := hown
        rcases h with ⟨_, h0⟩ | ⟨g, cap, cur, rfl, _⟩
        · cases h0
        · exact ⟨g, cap, rfl⟩
      have HP2 := Lib.hid hp2
      have HO := Lib.hid hown
      clear hp2 hown hgrow k67
      go_upto_region 5 with (fail)
      have hS0 : (fun w' : World => w'.rangeAt w.heap.size 1 (numsV zeros).toList) w2.drew := HP2.out.drew.mat HM.out
      refine wp_region_held_drew (S := fun w' => w'.rangeAt w.heap.size 1 (numsV zeros).toList) (by kernel_rfl) hS0 (fun hHeld => ?_)
      clear hS0
      refine hd 0 (v := ?_) ?_ ?_
      rotate_left
      · intro w hS; go_simp; try with_reducible rfl
      simp only [Act.put, pt1, pt2, pt3]
      refine held_long 1 140 _ w.heap.size 1 (numsV zeros).toList _ rfl rfl (by kernel_rfl) (by kernel_rfl) (by kernel_rfl) (fun _ _ _ h => h) (by rfl) rfl Tryz.underlying140 rfl (by kernel_rfl) (fun _ h => h) (by assumption) ?_
      simp only [Act.put, pt1, pt2, pt3]
      refine hd 2 (v := ?_) ?_ ?_
      rotate_left
      · intro w hS; go_simp; try with_reducible rfl
      simp only [Act.put, pt1, pt2, pt3]
      refine hd 4 (v := ?_) ?_ ?_
      rotate_left
      · intro w hS; go_simp; try with_reducible rfl
      simp only [Act.put, pt1, pt2, pt3]
      refine hd 6 (v := ?_) ?_ ?_
      rotate_left
      · intro w hS; go_simp; try with_reducible rfl
      simp only [Act.put, pt1, pt2, pt3]
      have hX : ∀ (y : World), Pooled w y L zeroPool → y.ownsRow (w.heap.size + 2) 3 1 (.slice (some ⟨g, 0, none⟩) 1 cv) 1 [.int .i64 id] → True := fun _ _ _ => trivial
      clear hX
      refine wpAnyH_ready (rs := [3, 5]) (by kernel_rfl) (by simp) (.cons (nth_spec _ 3 _ rfl) (fun K hK => ?_) (.cons (nth_spec _ 5 _ rfl) (fun K hK => ?_) .nil))
      · go_simp
        go_at_call 354
        refine (C3.out _).mono ?_
        rintro e y ⟨rfl, hb⟩
        have hp3 := HP2.out.drew.to hb
        have ho3 : y.ownsRow (w.heap.size + 2) 3 1 (.slice (some ⟨g, 0, none⟩) 1 cv) 1 [.int .i64 id] := owns_keep HO.out (fun g _ hl => hb.block g hl)
        have HP3 := Lib.hid hp3
        have HO3 := Lib.hid ho3
        have k66 := hp3.cell H66.out
        go_wp2_with fail
        refine hK.out _ _ ?_ (fun hHeld => ?_)
        · exact HP3.out.mat HM.out
        clear hK K hb hp3 ho3
        try simp only [Act.put, pt1, pt2, pt3]
        refine hcl 5 (fun K hK => ?_)
        go_simp
        refine hK.out _ _ ?_ (fun hHeld => ?_)
        · exact HP3.out.mat HM.out
        clear hK K
        try simp only [Act.put, pt1, pt2, pt3]
        refine hd 8 (v := ?_) ?_ ?_
        rotate_left
        · intro w hS; go_simp; try with_reducible rfl
        simp only [Act.put, pt1, pt2, pt3]
        refine hcl 7 (fun K hK => ?_)
        go_simp
        go_at_call 350
        refine (C4.out _).mono ?_
        rintro e y7 ⟨rfl, rfl⟩
        go_wp2_with fail
        refine hK.out _ _ ?_ (fun hHeld => ?_)
        · exact HP3.out.mat HM.out
        clear hK K
        try simp only [Act.put, pt1, pt2, pt3]
        refine hcl 9 (fun K hK => ?_)
        rw [if_pos (by rfl)]
        refine wp_store_mid 140 _ _ rfl w.heap.size 1 (numsV zeros) rfl rfl (fun j hj => ⟨?t1, ?t2⟩) (by kernel_rfl) (one_numsV zeros) ?_
        case t1 => exact (HP3.out.mat HM.out).isSome j (by simpa using hj)
        case t2 => exact HP3.out.frozen _
        refine hK.out _ _ ?_ (fun hHeld => ?_)
        · exact (HP3.out.setCells 1 _ HM.out).mat HM.out
        clear hK K
        have hp4 := HP3.out.setCells 1 (numsV zeros).toList HM.out
        have ho4 : (y.setCells w.heap.size 1 (numsV zeros).toList).ownsRow (w.heap.size + 2) 3 1 (.slice (some ⟨g, 0, none⟩) 1 cv) 1 [.int .i64 id] := owns_keep HO3.out (fun g hg hl => (setCells_same w.heap.size 144 L (numsV zeros).toList 1 y HP3.out.at0 HM.out).2.1 g (by omega))
        generalize y.setCells w.heap.size 1 (numsV zeros).toList = y4 at *
        have HP4 := Lib.hid hp4
        have HO4 := Lib.hid ho4
        have j66 := hp4.cell H66.out
        have f66 := hp4.frozen 66
        clear hp4 ho4
        try simp only [Act.put]
        refine hd 10 (v := ?_) ?_ ?_
        rotate_left
        · intro w hS; go_simp; try with_reducible rfl
        simp only [Act.put, pt1, pt2, pt3]
        refine hcl 11 (fun K hK => ?_)
        go_simp
        refine hK.out _ _ ?_ (fun hHeld => ?_)
        · exact (HP4.out.set 66 (.int .u64 0)).mat (fun j v hj => by rw [List.getElem?_set_ne (by have := (List.getElem?_eq_some_iff.1 hj).1; simp [size_numsV, zeros] at this; omega)]; exact HM.out j v hj)
        clear hK K
        have hp5 := HP4.out.set 66 (.int .u64 0)
        have ho5 := owns_keep (w' := y4.setCell ⟨w.heap.size, 66, none⟩ (.int .u64 0)) HO4.out (fun g hg _ => heap_setCell_other _ _ _ _ (by simp; omega))
        have j67 : (y4.setCell ⟨w.heap.size, 66, none⟩ (.int .u64 0)).cell? ⟨w.heap.size, 67, none⟩ = some (.int .i64 id) := hp5.cell ((List.getElem?_set_ne (by decide)).trans H67.out)
        have f67 := hp5.frozen 67
        generalize y4.setCell ⟨w.heap.size, 66, none⟩ (.int .u64 0) = y5 at *
        have HP5 := Lib.hid hp5
        have HO5 := Lib.hid ho5
        clear hp5 ho5
        refine held_done (by kernel_rfl) ?_
        clear hHeld
        go_wp2_with fail
        go_step3
        refine ⟨rfl, .inr ⟨g, cv, _, _, _, _, _, _, _, _, _, _, _, _, _, _, _, _, _, _, _, _, _, _, _, _, _, _, _, _, _, _, rfl, HP5.out.set 67 _, owns_keep HO5.out (fun g hg _ => heap_setCell_other _ _ _ _ (by simp; omega))⟩, by simp⟩
      · have k66 := HP2.out.cell H66.out
        go_simp
        refine hK.out _ _ ?_ (fun hHeld => ?_)
        · assumption
        clear hK K
        try simp only [Act.put, pt1, pt2, pt3]
        refine hcl 3 (fun K hK => ?_)
        go_simp
        go_at_call 354
        refine (C3.out _).mono ?_
        rintro e y ⟨rfl, hb⟩
        have hp3 := HP2.out.drew.to hb
        have ho3 : y.ownsRow (w.heap.size + 2) 3 1 (.slice (some ⟨g, 0, none⟩) 1 cv) 1 [.int .i64 id] := owns_keep HO.out (fun g _ hl => hb.block g hl)
        have HP3 := Lib.hid hp3
        have HO3 := Lib.hid ho3
        go_wp2_with fail
        refine hK.out _ _ ?_ (fun hHeld => ?_)
        · exact HP3.out.mat HM.out
        clear hK K hb hp3 ho3
        try simp only [Act.put, pt1, pt2, pt3]
        refine hd 8 (v := ?_) ?_ ?_
        rotate_left
        · intro w hS; go_simp; try with_reducible rfl
        simp only [Act.put, pt1, pt2, pt3]
        refine hcl 7 (fun K hK => ?_)
        go_simp
        go_at_call 350
        refine (C4.out _).mono ?_
        rintro e y7 ⟨rfl, rfl⟩
        go_wp2_with fail
        refine hK.out _ _ ?_ (fun hHeld => ?_)
        · exact HP3.out.mat HM.out
        clear hK K
        try simp only [Act.put, pt1, pt2, pt3]
        refine hcl 9 (fun K hK => ?_)
        rw [if_pos (by rfl)]
        refine wp_store_mid 140 _ _ rfl w.heap.size 1 (numsV zeros) rfl rfl (fun j hj => ⟨?t1, ?t2⟩) (by kernel_rfl) (one_numsV zeros) ?_
        case t1 => exact (HP3.out.mat HM.out).isSome j (by simpa using hj)
        case t2 => exact HP3.out.frozen _
        refine hK.out _ _ ?_ (fun hHeld => ?_)
        · exact (HP3.out.setCells 1 _ HM.out).mat HM.out
        clear hK K
        have hp4 := HP3.out.setCells 1 (numsV zeros).toList HM.out
        have ho4 : (y.setCells w.heap.size 1 (numsV zeros).toList).ownsRow (w.heap.size + 2) 3 1 (.slice (some ⟨g, 0, none⟩) 1 cv) 1 [.int .i64 id] := owns_keep HO3.out (fun g hg hl => (setCells_same w.heap.size 144 L (numsV zeros).toList 1 y HP3.out.at0 HM.out).2.1 g (by omega))
        generalize y.setCells w.heap.size 1 (numsV zeros).toList = y4 at *
        have HP4 := Lib.hid hp4
        have HO4 := Lib.hid ho4
        have j66 := hp4.cell H66.out
        have f66 := hp4.frozen 66
        clear hp4 ho4
        try simp only [Act.put]
        refine hd 10 (v := ?_) ?_ ?_
        rotate_left
        · intro w hS; go_simp; try with_reducible rfl
        simp only [Act.put, pt1, pt2, pt3]
        refine hcl 11 (fun K hK => ?_)
        go_simp
        refine hK.out _ _ ?_ (fun hHeld => ?_)
        · exact (HP4.out.set 66 (.int .u64 0)).mat (fun j v hj => by rw [List.getElem?_set_ne (by have := (List.getElem?_eq_some_iff.1 hj).1; simp [size_numsV, zeros] at this; omega)]; exact HM.out j v hj)
        clear hK K
        have hp5 := HP4.out.set 66 (.int .u64 0)
        have ho5 := owns_keep (w' := y4.setCell ⟨w.heap.size, 66, none⟩ (.int .u64 0)) HO4.out (fun g hg _ => heap_setCell_other _ _ _ _ (by simp; omega))
        have j67 : (y4.setCell ⟨w.heap.size, 66, none⟩ (.int .u64 0)).cell? ⟨w.heap.size, 67, none⟩ = some (.int .i64 id) := hp5.cell ((List.getElem?_set_ne (by decide)).trans H67.out)
        have f67 := hp5.frozen 67
        generalize y4.setCell ⟨w.heap.size, 66, none⟩ (.int .u64 0) = y5 at *
        have HP5 := Lib.hid hp5
        have HO5 := Lib.hid ho5
        clear hp5 ho5
        refine held_done (by kernel_rfl) ?_
        clear hHeld
        go_wp2_with fail
        go_step3
        refine ⟨rfl, .inr ⟨g, cv, _, _, _, _, _, _, _, _, _, _, _, _, _, _, _, _, _, _, _, _, _, _, _, _, _, _, _, _, _, _, rfl, HP5.out.set 67 _, owns_keep HO5.out (fun g hg _ => heap_setCell_other _ _ _ _ (by simp; omega))⟩, by simp⟩
    · have HP := Lib.hid hp
      have HO := Lib.hid hown
      clear hp hown
      have hl2 := HL2.out
      generalize hNN : sweptP L = N at *
      have HN := Lib.hid hNN
      clear hNN hl2
      go_wp2_with (refine wpList_load_row rfl 144 _ rfl w.heap.size rfl 144 N.toArray (0, 0) _ HP.out.at0 Tryz.underlying144 rfl (info144a (by simpa using HL2.out)) ?_)
      refine (C2.out _ (HT.out.below HT.out.pos HP.out.below)).mono ?_
      rintro e w1 ⟨rfl, hb1⟩
      have hp1 := HP.out.to hb1
      have ho1 := owns_keep HO.out (fun g _ hl => hb1.block g hl)
      have HP1 := Lib.hid hp1
      have HO1 := Lib.hid ho1
      clear hb1 hp1 ho1
      go_wp2_with (first
        | (refine wpList_load_row rfl 144 _ rfl w.heap.size rfl 144 N.toArray (0, 0) _ HP1.out.at0 Tryz.underlying144 rfl (info144a (by simpa using HL2.out)) ?_)
        | (refine wpList_store_row rfl 144 _ _ rfl (w.heap.size + 1) N.toArray rfl rfl 144 zeroPool HP1.out.at1 (info144a (by simpa using HL2.out)) (by simp [HL2.out, zeroPool_size]) HO2.out ?_))
      simp only [Exit.jump]
      refine bodyPost_ret (results_cell_tmp rfl _ _ (w.heap.size + 1) 144 N.toArray (0, 0) _ rfl (block_setRow_same HP1.out.at1) Tryz.underlying144 rfl (info144a (by simpa using HL2.out))) rfl ⟨_, by rw [HN.out], ?_, ?_⟩
      · exact owns_mono (owns_keep HO1.out fun k hk _ => setRow_other _ _ _ _ (by omega)) (by omega)
      · exact below_setRow' HP1.out.below (by omega) _
  · intro pass
    go_wp2_with fail
    go_step3
    rename_i _ hK
    exact hK _ _ (pass _ _ (.inl ⟨rfl, pooled_is w L⟩))
end Go.Proofs.YteflpdhgojcmcaaGreatDoor
namespace Go.Proofs.YteflpdhgojcmcaaGreatDoor
open Go.RowKit PSet PMat
/-- The first k places of the order are their own numbers. -/
def ordL (k : Nat) : List Value := (List.range 32).map fun i => .int .i64 (if i < k then (i : Int) else 0)
theorem ordL_length (k : Nat) : (ordL k).length = 32 := by simp [ordL]
theorem ordL_one (k : Nat) : (ordL k).toArray.all (·.oneCell') = true := by
  simp only [List.all_toArray, List.all_eq_true]
  intro x hx
  obtain ⟨i, _, rfl⟩ := List.mem_map.1 hx
  rfl
theorem ordL_set (k : Nat) : (ordL k).set k (.int .i64 k) = ordL (k + 1) := by
  apply List.ext_getElem?
  intro i
  by_cases hi : i < 32
  · rw [List.getElem?_set]
    simp only [ordL_length]
    by_cases hk : k = i
    · subst hk
      simp [hi, ordL]
    · rw [if_neg hk]
      simp only [ordL, List.getElem?_map, List.getElem?_range hi, Option.map_some]
      by_cases h : i < k
      · rw [if_pos h, if_pos (by omega)]
      · rw [if_neg h, if_neg (by omega)]
  · rw [List.getElem?_eq_none (by simp [ordL]; omega), List.getElem?_eq_none (by simp [ordL]; omega)]
theorem ordL_get (k i : Nat) (hi : i < 32) : (ordL k)[i]? = some (.int .i64 (if i < k then (i : Int) else 0)) := by
  simp only [ordL, List.getElem?_map, List.getElem?_range hi, Option.map_some]
set_option maxRecDepth 100000 in
theorem topoNew (w : World) : Calls Tryz.prog 104 #[] w fun e w' => e = .returned (.agg (ordL 32).toArray) ∧ Below w.heap.size w w' := by
  go_enter Tryz.func104, Tryz.ntmps104
  go_upto_region 1 with (fail)
  change Code.wp _ _ _ _ (w.alloc (.cells (ordL 0).toArray 142))
  have e0 : (w.alloc (.cells (ordL 0).toArray 142)).heap[w.heap.size]? = some (.cells (ordL 0).toArray 142) := Go.heap_alloc_new _ _
  have hb0 : Below w.heap.size w (w.alloc (.cells (ordL 0).toArray 142)) := (Below.refl _ _).alloc (Nat.le_refl _) _
  generalize w.alloc (.cells (ordL 0).toArray 142) = W0 at *
  have E0 := Lib.hid e0
  have HB0 := Lib.hid hb0
  clear e0 hb0
  go_wp2_with fail
  go_loopw [2, 1] (fun i _ wr => ∃ k : Nat, k ≤ 32 ∧ i = .int .i64 k ∧ Hid (wr.heap[w.heap.size]? = some (.cells (ordL k).toArray 142)) ∧ Hid (Below w.heap.size w wr)) (fun i _ _ => 32 - (intOf i).toNat)
  case atStart => exact ⟨0, by omega, rfl, E0, HB0⟩
  case round =>
    obtain ⟨k, hk, rfl, hr, hb⟩ := hrel
    by_cases hlt : k < 32
    · have h0 : (0 : Int) ≤ (k : Int) := by omega
      have h2 : (k : Int) < 32 := by omega
      have c0 : wr.cell? ⟨w.heap.size, k, none⟩ = some (.int .i64 0) := by
        rw [cell_of_row _ _ _ _ _ _ hr.out]
        simpa using ordL_get k k hlt
      have f0 := frozen_of_row _ _ k _ _ hr.out
      go_wp2_with fail
      go_roundw
      case rel =>
        refine ⟨k + 1, by omega, by go_num, Lib.hid ?_, Lib.hid (hb.out.setCell (p := ⟨w.heap.size, k, none⟩) (Nat.le_refl _) _)⟩
        have := heap_setCell_same wr w.heap.size k _ _ (.int .i64 k) hr.out
        rw [List.setIfInBounds_toArray, ordL_set] at this
        exact this
      case measure => simp [intOf]; omega
    · have e : k = 32 := by omega
      subst e
      go_wp2_with (first
        | (refine wpList_load_row rfl 142 _ rfl w.heap.size rfl 142 (ordL 32).toArray (0, 0) _ hr.out Tryz.underlying142 rfl (by kernel_rfl) ?_)
        | (refine wpList_store_row rfl 142 _ _ rfl w.heap.size (ordL 32).toArray rfl rfl 142 (ordL 32).toArray hr.out (by kernel_rfl) rfl (ordL_one 32) ?_))
      refine bodyPost_ret (results_cell_row rfl _ _ w.heap.size 142 (ordL 32).toArray (0, 0) _ rfl (block_setRow_same hr.out) Tryz.underlying142 rfl (by kernel_rfl)) rfl ⟨rfl, ?_⟩
      exact below_setRow' hb.out (Nat.le_refl _) _
end Go.Proofs.YteflpdhgojcmcaaGreatDoor
namespace Go.Proofs.YteflpdhgojcmcaaGreatDoor
open Go.RowKit PSet PMat
def newP (z : Int) : List Value := (Value.int .i64 z :: (numsV zeros).toList) ++ ordL 32 ++ [.int .u64 0, .int .u64 0] ++ List.replicate 33 (.int .i64 0)
theorem newP_length (z : Int) : (newP z).length = 100 := by simp [newP, ordL_length, size_numsV, zeros]
theorem newP_one (z : Int) : (newP z).toArray.all (·.oneCell') = true := by
  have h1 := one_numsV zeros
  have h2 := ordL_one 32
  simp only [List.all_toArray, List.all_eq_true, Array.all_eq_true_iff_forall_mem] at h1 h2 ⊢
  intro x hx
  simp only [newP, List.mem_append, List.mem_cons, List.mem_replicate, List.not_mem_nil, or_false] at hx
  rcases hx with ((( rfl | hx) | hx) | rfl | rfl) | ⟨_, rfl⟩
  · rfl
  · exact h1 x (by simpa using hx)
  · exact h2 x hx
  · rfl
  · rfl
  · rfl
theorem build_pool (z : Int) (w : World) : (Instr.build 144 #[(0, .int .i64 z), (2, .agg (ordL 32).toArray)]).run Tryz.prog w = .ok (.agg (newP z).toArray) w := by kernel_rfl
/-- A struct built of parts, its value known. -/
theorem wpList_build {P : Program} {ops : Array Oper} {rest : List Oper} {o : Oper} {a : Act} {w : World} {Q : Exit → Act → World → Prop} (hgd : o.guard = none) (t : TypeId) (parts : Array (Nat × Operand)) (ho : o.op = .build t parts)
    (vs : Array (Nat × Value)) (hp : (parts.map fun (i, x) => (i, a.eval x)) = vs) (v : Value) (hv : (Instr.build t vs).run P w = .ok v w)
    (h : wpList P ops Q rest (a.put o.dst v) w) : wpList P ops Q (o :: rest) a w :=
  wpList_plain hgd fun K hK => by
    unfold Oper.wp execOp
    simp only [ho, hp, Sem.run_bind, hv, Result.andThen_ok, Sem.run_pure]
    exact hK _ _ h
set_option maxRecDepth 100000 in
theorem poolNew (z : Nat) (w : World) (hz : 1 ≤ z ∧ z ≤ 32) : Calls Tryz.prog 60 #[.int .i64 z] w fun e w' => e = .returned (.tuple #[.agg (newP z).toArray, .bool true]) ∧ Below w.heap.size w w' := by
  have g1 : (1 : Int) ≤ (z : Int) := by omega
  have g2 : (z : Int) ≤ 32 := by omega
  have C := Lib.hid topoNew
  have hbd := build_pool z
  have hl := newP_length z
  have ho := newP_one z
  generalize hN : newP z = N at *
  have HN := Lib.hid hN
  have HL := Lib.hid hl
  have HO := Lib.hid ho
  have HBD := Lib.hid hbd
  clear hN hl ho hbd
  go_enter Tryz.func60, Tryz.ntmps60
  go_upto_region 1 with (fail)
  change Code.wp _ _ _ _ (w.alloc (.cells zeroPool 144))
  have e0 : (w.alloc (.cells zeroPool 144)).heap[w.heap.size]? = some (.cells zeroPool 144) := Go.heap_alloc_new _ _
  have hb0 : Below w.heap.size w (w.alloc (.cells zeroPool 144)) := (Below.refl _ _).alloc (Nat.le_refl _) _
  generalize w.alloc (.cells zeroPool 144) = W0 at *
  have E0 := Lib.hid e0
  have HB0 := Lib.hid hb0
  clear e0 hb0
  go_wp2_with fail
  refine (C.out _).mono ?_
  rintro e w1 ⟨rfl, hb1⟩
  have e1 := (hb1.block _ (block_lt E0.out)).trans E0.out
  have E1 := Lib.hid e1
  have HB1 := Lib.hid (HB0.out.trans (hb1.mono HB0.out.size))
  clear e1 hb1
  go_wp2_with (first
    | (refine wpList_build rfl 144 _ rfl #[(0, .int .i64 z), (2, .agg (ordL 32).toArray)] (by simp only [List.map_toArray, List.map_cons, List.map_nil]; rfl) (.agg N.toArray) (by exact HBD.out _) ?_)
    | (refine wpList_store_row rfl 144 _ _ rfl w.heap.size N.toArray rfl rfl 144 zeroPool E1.out (info144a (by simpa using HL.out)) (by simp [HL.out, zeroPool_size]) HO.out ?_))
  refine bodyPost_ret (results_cell_tmp rfl _ _ w.heap.size 144 N.toArray (0, 0) _ rfl (block_setRow_same E1.out) Tryz.underlying144 rfl (info144a (by simpa using HL.out))) rfl ⟨rfl, ?_⟩
  exact below_setRow' HB1.out (Nat.le_refl _) _
end Go.Proofs.YteflpdhgojcmcaaGreatDoor
namespace Go.Proofs.YteflpdhgojcmcaaGreatDoor
open Go.RowKit PSet PMat
theorem check_int (e : Bool) (n : Nat) (K : TypeId) (x : Int) (w : World) (hK : Tryz.prog.underlying K = some (.int .i64)) : (Instr.checkKey e (n + 1) K (.int .i64 x)).run Tryz.prog w = .ok () w := by
  unfold Instr.checkKey
  simp [run_underlying hK]
theorem set_map (r : Nat) (o : Obj) (w : World) (es : Array MapEntry) (c : Nat) (hb : w.heap[r]? = some (.map es c)) : (setObj r o).run Tryz.prog w = .ok () (w.putObj r o) := by
  simp [setObj, Sem.run, hb, World.putObj]
theorem get_map (r : Nat) (w : World) (es : Array MapEntry) (c : Nat) (hb : w.heap[r]? = some (.map es c)) : (getObj r).run Tryz.prog w = .ok (.map es c) w := by
  simp [getObj, Sem.run, hb]
theorem find_none (K : TypeId) (x : Int) (w : World) (hK : Tryz.prog.underlying K = some (.int .i64)) : (Instr.findKey K (.int .i64 x) []).run Tryz.prog w = .ok none w := by
  simp [Instr.findKey, Instr.findNow, run_underlying hK]
theorem find_same (K : TypeId) (x : Int) (v : Value) (b : Nat) (w : World) (hK : Tryz.prog.underlying K = some (.int .i64)) : (Instr.findKey K (.int .i64 x) [{ key := .int .i64 x, val := v, born := b }]).run Tryz.prog w = .ok (some (0, v)) w := by
  simp [Instr.findKey, Instr.findNow, Instr.sameNow, run_underlying hK]
theorem run_put_first (T K E : TypeId) (r c : Nat) (v : Value) (x : Int) (w : World) (hT : Tryz.prog.underlying T = some (.map K E)) (hK : Tryz.prog.underlying K = some (.int .i64)) (hb : w.heap[r]? = some (.map #[] c)) :
    (Instr.mapUpdate T (.map (some r)) (.int .i64 x) v).run Tryz.prog w = .ok () (w.putObj r (.map #[{ key := .int .i64 x, val := v, born := c }] (c + 1))) := by
  have h1 := check_int false 9999 K x w hK
  have h2 := find_none K x w hK
  unfold Instr.mapUpdate
  simp only [Sem.run_bind, run_underlying hT, Result.andThen_ok, get_map r w _ _ hb]
  simp only [Nat.reduceAdd] at h1
  simp only [h1, h2, Result.andThen_ok, set_map r _ w _ _ hb]
  rfl
theorem run_look_one (T K E : TypeId) (r c b0 : Nat) (v : Value) (x : Int) (ok : Bool) (w : World) (hT : Tryz.prog.underlying T = some (.map K E)) (hK : Tryz.prog.underlying K = some (.int .i64)) (hb : w.heap[r]? = some (.map #[{ key := .int .i64 x, val := v, born := b0 }] c)) :
    (Instr.lookup T (.map (some r)) (.int .i64 x) ok).run Tryz.prog w = .ok (if ok then .tuple #[v, .bool true] else v) w := by
  have h1 := check_int false 9999 K x w hK
  have h2 := find_same K x v b0 w hK
  unfold Instr.lookup
  simp only [Sem.run_bind, run_underlying hT, Result.andThen_ok, get_map r w _ _ hb]
  simp only [Nat.reduceAdd] at h1
  cases ok <;> simp [h1, h2]
end Go.Proofs.YteflpdhgojcmcaaGreatDoor
