/- The walk of the graph's gather, of a slot that is over. No conditions but those that each theorem names. -/
import Derived.Test.YteflpdhgojcmcaaGreatDoorU01
import Derived.Test.YteflpdhgojcmcaaGreatDoorU13
namespace Go.Proofs.YteflpdhgojcmcaaGreatDoor
open Go.RowKit PSet PMat
theorem entry_one (id : Int) (a b : Bool) (r1 r2 : Option Addr) (n1 n2 c1 c2 : Nat) : AllOne [.int .i64 id, .bool a, .bool b, .slice r1 n1 c1, .slice r2 n2 c2] := by
  intro u hu
  simp at hu
  rcases hu with rfl | rfl | rfl | rfl | rfl <;> rfl
set_option maxRecDepth 100000 in
set_option maxHeartbeats 2000000 in
theorem grGather (B g : Nat) (L : List Value) (v : Value) (K : List Value) (lg : Value) (ct : Int) (id : Int) (ta : Option Addr) (tc : Nat) (com : Bool) (t : Option StepM) (s : List VarM) (n : Nat) (lgs : List Value) (w : World)
    (hE : EngAt w g L v K lg ct) (h1 : L.toArray.all (·.oneCell') = true) (h65 : L[65]? = some (.int .u64 (0 : Nat))) (h66 : L[66]? = some (.int .u64 (1 : Nat))) (h67 : L[67]? = some (.int .i64 id)) (hM : (L.drop 1).take 32 = (numsV zeros).toList)
    (hK0 : K[0]? = some (.slice ta (optN t) tc)) (hK1 : K[1]? = some (.bool com)) (hv : RowAt w (.slice ta (optN t) tc) (optN t) 4 (optC t)) (hx : ∀ s, t = some s → 0 ≤ s.x ∧ s.x < 64)
    (hs : StoreAt w v s) (hsn : s.length ≤ 1000) (hm : ∀ a ∈ s, a.marks < 2 ^ 64) (hvg : v.ownBlock ≠ some g) (hvl : ∀ b, v.ownBlock = some b → lg.ownBlock ≠ some b) (hlg : w.ownsRow B 42 5 lg n lgs) (hn : n ≤ 100000) (hB : B ≤ w.heap.size) (hT : Tab w) :
    Calls Tryz.prog 335 #[.pointer (some ⟨g, 0, none⟩)] w fun e w' => e = .returned (.tuple #[]) ∧ ∃ v' lg' rv wv, EngAt w' g (sweptP L) v' K lg' ct ∧
      w'.ownsRow w.heap.size 197 5 v' s.length (storeC (s.map (dropV 0))) ∧ w'.ownsRow B 42 5 lg' (n + 1) (lgs ++ [.int .i64 id, .bool com, .bool true, rv, wv]) ∧
      w'.ownsRow w.heap.size 155 4 rv (optN (readsM t)) (optC (readsM t)) ∧ w'.ownsRow w.heap.size 155 4 wv (optN (leftM com t)) (optC (leftM com t)) ∧ Chg (fun b => b = g ∨ lg.ownBlock = some b) w w' := by
  have hgl := hE.lt
  have hL := hE.lenL
  obtain ⟨i0, z, hi, hz0, hz1, hz2, hz3⟩ := info_42
  have C1 := Lib.hid (grSlots g 0 1 id w (hE.pool h65) (hE.pool h66) (hE.pool h67) (by decide) (by decide) (by decide) hT)
  have C2 := Lib.hid (fun W (h : Tab W) => poolCollect L id W hL h1 (by simpa using h66) h67 hM h)
  have C3 := Lib.hid (fun W (h : EngAt W g L v K lg ct) hv => grEntry g L v K lg ct 1 id ta tc com t W h (by simpa using h66) (by decide) h67 hK0 hK1 hv hx)
  have C4 := Lib.hid (fun W (h : StoreAt W v s) => drop_any v s 0 W h (by omega) hm)
  have hl5 : (sweptP L).length = 100 := by simp [sweptP, hL]
  have ho5 : (sweptP L).toArray.all (·.oneCell') = true := one_set (one_set h1 _ _ rfl) _ _ rfl
  have HE := Lib.hid hE
  have HL := Lib.hid hL
  have HT := Lib.hid hT
  have HV := Lib.hid hv
  have HS := Lib.hid hs
  have HVG := Lib.hid hvg
  have HVL := Lib.hid hvl
  have HLG := Lib.hid hlg
  have hlne : lg.ownBlock ≠ some g := owns_type hlg hE.at0 (by decide)
  have HLN := Lib.hid hlne
  clear hE h1 h65 h66 h67 hM hK0 hK1 hv hs hm hvg hvl hlg hT hL hlne
  generalize hMM : sweptP L = M at *
  have HL5 := Lib.hid hl5
  have HO5 := Lib.hid ho5
  clear hMM hl5 ho5
  go_enter Tryz.func335, Tryz.ntmps335
  go_wp2_with fail
  refine (C1.out).mono ?_
  rintro e y1 ⟨r, rfl, hr, hrm, hb1⟩
  have hE1 := HE.out.below hb1
  have HE1 := Lib.hid hE1
  have HB1 := Lib.hid hb1
  have HRM := Lib.hid hrm
  have C2' := Lib.hid (C2.out y1 (HT.out.below (by omega) hb1))
  clear hE1 hb1 hrm C2
  go_wp2_with (refine wpList_load_mid rfl 144 _ rfl g 0 rfl L _ HE1.out.poolRange Tryz.underlying144 rfl (info144 HL.out) ?_)
  refine (C2'.out).mono ?_
  rintro e y2 ⟨iv, rfl, hids, hb2⟩
  obtain ⟨_, ia, ic, rfl, hidr⟩ := RowAt.of_owns hids
  obtain ⟨ib, io, rfl, hibl, hidr⟩ := hidr (by omega)
  have hb12 := HB1.out.trans (hb2.mono HB1.out.size)
  have hz1 := Go.heap_alloc_new y2 (.cells zeroPool 144)
  have hbz := hb12.alloc hb12.size (.cells zeroPool 144)
  have hrm2 : (y2.alloc (.cells zeroPool 144)).heap[r]? = some (.map #[{ key := .int .i64 id, val := .int .i64 0, born := 0 }] 1) := (heap_alloc_old _ _ (Nat.lt_of_lt_of_le (block_lt HRM.out) hb2.size)).trans ((hb2.block _ (block_lt HRM.out)).trans HRM.out)
  have hid2 : (y2.alloc (.cells zeroPool 144)).rangeAt ib io [.int .i64 id] := World.rangeAt_alloc hidr _
  have hsy := hb12.size
  have hr2 : r < y2.heap.size := Nat.lt_of_lt_of_le (block_lt HRM.out) hb2.size
  have HZ := Lib.hid hz1
  have HBZ := Lib.hid hbz
  have HRM2 := Lib.hid hrm2
  have HID2 := Lib.hid hid2
  clear hz1 hbz hrm2 hid2 hb2 hids hidr hb12
  go_wp2_with (refine wpList_store_row rfl 144 _ _ rfl y2.heap.size M.toArray rfl rfl 144 zeroPool HZ.out (info144a (by simpa using HL5.out)) (by simp [HL5.out, zeroPool_size]) HO5.out ?_)
  refine name_w ?_
  intro W6 hW6
  have r6 : W6.heap[y2.heap.size]? = some (.cells M.toArray 144) := by rw [hW6]; exact block_setRow_same HZ.out
  have hb6 : Below w.heap.size w W6 := by rw [hW6]; exact below_setRow' HBZ.out (by omega) _
  have hm6 : W6.heap[r]? = some (.map #[{ key := .int .i64 id, val := .int .i64 0, born := 0 }] 1) := by rw [hW6]; exact (setRow_other _ _ _ _ (by omega)).trans HRM2.out
  have hi6 : W6.cell? ⟨ib, io, none⟩ = some (.int .i64 id) := by
    have := range_keep HID2.out (show W6.heap[ib]? = _ by rw [hW6]; exact setRow_other _ _ _ _ (by omega)) 0 (.int .i64 id) rfl
    exact this
  have hlk := run_look_one 32 3 3 r 1 0 (.int .i64 0) id false W6 Tryz.underlying32 Tryz.underlying3 hm6
  simp only [Bool.false_eq_true, if_false] at hlk
  have hE6 := HE.out.below hb6
  have hg165 := hE6.log
  have hf165 := hE6.frozen 165
  have R6 := Lib.hid r6
  have HB6 := Lib.hid hb6
  have HE6 := Lib.hid hE6
  clear hW6 r6 hb6 hm6 hE6 HZ HBZ HRM2 HID2
  go_wp2_with fail
  refine wp_loop_rounds 2 ?_
  rw [rounds_succ]
  go_wp2_with fail
  obtain ⟨_, la, lc, rfl, _⟩ := RowAt.of_owns HLG.out
  go_cut [] from 27 (fun wc => ∃ (la' : Option Addr) (lc' : Nat) (rv wv : Value), Hid (EngAt wc g L v K (.slice la' (n + 1) lc') ct ∧ wc.ownsRow B 42 5 (.slice la' (n + 1) lc') (n + 1) (lgs ++ [.int .i64 id, .bool com, .bool (hasB 1 0), rv, wv]) ∧ Chg (fun b => b = g ∨ (Value.slice la n lc).ownBlock = some b) w wc ∧ wc.ownsRow w.heap.size 155 4 rv (optN (readsM t)) (optC (readsM t)) ∧ wc.ownsRow w.heap.size 155 4 wv (optN (leftM com t)) (optC (leftM com t)) ∧ StoreAt wc v s ∧ wc.heap[y2.heap.size]? = some (.cells M.toArray 144)))
  case first =>
    refine wp_region_held_drew (S := fun _ => True) (by kernel_rfl) trivial (fun hHeld => ?_)
    refine hd 0 (v := ?_) ?_ ?_
    rotate_left
    · intro w hS; go_simp; try with_reducible rfl
    simp only [Act.put, pt1, pt2, pt3]
    refine hd 1 (v := ?_) ?_ ?_
    rotate_left
    · intro w hS; go_simp; try with_reducible rfl
    simp only [Act.put, pt1, pt2, pt3]
    refine hd 2 (v := ?_) ?_ ?_
    rotate_left
    · intro w hS; go_simp; try with_reducible rfl
    simp only [Act.put, pt1, pt2, pt3]
    refine hd 3 (v := ?_) ?_ ?_
    rotate_left
    · intro w hS; go_simp; try with_reducible rfl
    simp only [Act.put, pt1, pt2, pt3]
    refine hd 5 (v := ?_) ?_ ?_
    rotate_left
    · intro w hS; go_simp; try with_reducible rfl
    simp only [Act.put, pt1, pt2, pt3]
    refine hd 6 (v := ?_) ?_ ?_
    rotate_left
    · intro w hS; go_simp; try with_reducible rfl
    simp only [Act.put, pt1, pt2, pt3]
    have C3' := Lib.hid (C3.out W6.drew (HE6.out.keep rfl) (HV.out.below HB6.out.drew))
    refine wpAnyH_ready (rs := [4, 7]) (by kernel_rfl) (by simp) (.cons (nth_spec _ 4 _ rfl) (fun K' hK => ?_) (.cons (nth_spec _ 7 _ rfl) (fun K' hK => ?_) .nil))
    · go_simp
      refine hK.out _ _ ?_ (fun hHeld => ?_)
      · trivial
      clear hK K'
      try simp only [Act.put, pt1, pt2, pt3]
      refine hcl 7 (fun K' hK => ?_)
      go_simp
      go_at_call 66
      refine (C3'.out).mono ?_
      rintro e y7 ⟨rv, wv, rfl, hrv, hwv, hb7⟩
      obtain ⟨_, ra, rc, rfl, _⟩ := RowAt.of_owns hrv
      obtain ⟨_, wa, wc, rfl, _⟩ := RowAt.of_owns hwv
      have hb67 := HB6.out.drew.trans (hb7.mono HB6.out.drew.size)
      have hE7 := HE.out.below hb67
      have HRV := Lib.hid hrv
      have HWV := Lib.hid hwv
      have HB7 := Lib.hid hb7
      have HB67 := Lib.hid hb67
      have HE7 := Lib.hid hE7
      have k165 := hE7.log
      clear hrv hwv hb7 hb67 hE7
      go_wp2_with fail
      refine hK.out _ _ ?_ (fun hHeld => ?_)
      · trivial
      clear hK K'
      try simp only [Act.put, pt1, pt2, pt3]
      refine hcl 8 (fun K' hK => ?_)
      go_simp
      refine hK.out _ _ ?_ (fun hHeld => ?_)
      · trivial
      clear hK K'
      try simp only [Act.put, pt1, pt2, pt3]
      refine hcl 9 (fun K' hK => ?_)
      rw [if_pos (by rfl)]
      have hol := owns_keep (w' := y7) HLG.out (fun k _ hl => HB67.out.block k hl)
      have hon : (Value.slice la n lc).ownBlock ≠ some y7.heap.size := fun e => absurd (hol.lt _ e).2 (Nat.lt_irrefl _)
      refine wp_append_own _ _ _ 38 rfl B 42 i0 z 5 64 Tryz.underlying38 hi hz0 hz1 hz2 hz3 (by decide) (.slice la n lc) n lgs rfl (hol.alloc _) ⟨y7.heap.size, 0, none⟩ 1 1 [.int .i64 id, .bool com, .bool (hasB 1 0), .slice ra (optN (readsM t)) rc, .slice wa (optN (leftM com t)) wc] rfl rfl (by exact news_new y7 [.int .i64 id, .bool com, .bool (hasB 1 0), .slice ra (optN (readsM t)) rc, .slice wa (optN (leftM com t)) wc] 42) (entry_one _ _ _ _ _ _ _ _ _) (by unfold maxLen; omega) (by omega) (by have := HB67.out.size; simp; omega) ?_
      intro lg' w9 hown9 hgrow9 _
      have hgE : w9.heap[g]? = y7.heap[g]? := (hgrow9.block g (by have := HE7.out.lt; simp; omega) HLN.out.symm).trans (heap_alloc_old _ _ HE7.out.lt)
      have hE9 := HE7.out.keep hgE
      have hch9 : Chg (fun b => b = g ∨ (Value.slice la n lc).ownBlock = some b) w w9 := ((Chg.of_below HB67.out).alloc _).grown hgrow9 (fun k e => .inl (.inr e))
      have hrv9 : w9.ownsRow w.heap.size 155 4 (.slice ra (optN (readsM t)) rc) (optN (readsM t)) (optC (readsM t)) := by
        refine owns_mono (owns_keep (HRV.out.alloc _) fun k hk hl => hgrow9.block k hl (fun e => ?_)) HB6.out.drew.size
        have := (HLG.out.lt k e.symm).2
        have := HB6.out.size
        simp at hk
        omega
      have hwv9 : w9.ownsRow w.heap.size 155 4 (.slice wa (optN (leftM com t)) wc) (optN (leftM com t)) (optC (leftM com t)) := by
        refine owns_mono (owns_keep (HWV.out.alloc _) fun k hk hl => hgrow9.block k hl (fun e => ?_)) HB6.out.drew.size
        have := (HLG.out.lt k e.symm).2
        have := HB6.out.size
        simp at hk
        omega
      have hst9 : StoreAt w9 v s := HS.out.chg hch9 (fun b hb e => e.elim (fun e => HVG.out (by rw [hb, e])) (HVL.out b hb))
      have hm9 : w9.heap[y2.heap.size]? = some (.cells M.toArray 144) := by
        have hl : y2.heap.size < y7.heap.size := Nat.lt_of_lt_of_le (block_lt R6.out) (by have := HB7.out.size; simpa using this)
        refine (hgrow9.block _ (by simp; omega) (fun e => ?_)).trans ((heap_alloc_old _ _ hl).trans ((HB7.out.block _ (by simpa using block_lt R6.out)).trans R6.out))
        have := (HLG.out.lt _ e.symm).2
        omega
      obtain ⟨_, la', lc', rfl, _⟩ := RowAt.of_owns hown9
      have HO9 := Lib.hid hown9
      have HE9 := Lib.hid hE9
      have HC9 := Lib.hid hch9
      have HR9 := Lib.hid hrv9
      have HW9 := Lib.hid hwv9
      have HS9 := Lib.hid hst9
      have HM9 := Lib.hid hm9
      have q165 := hE9.log
      have f165 := hE9.frozen 165
      clear hown9 hgrow9 hE9 hch9 hrv9 hwv9 hst9 hm9 hgE hol hon
      refine hK.out _ _ ?_ (fun hHeld => ?_)
      · trivial
      clear hK K'
      try simp only [Act.put, pt1, pt2, pt3]
      refine hd 10 (v := ?_) ?_ ?_
      rotate_left
      · intro w hS; go_simp; try with_reducible rfl
      simp only [Act.put, pt1, pt2, pt3]
      refine hd 11 (v := ?_) ?_ ?_
      rotate_left
      · intro w hS; go_simp; try with_reducible rfl
      simp only [Act.put, pt1, pt2, pt3]
      have hE10 : EngAt (w9.setCell ⟨g, 165, none⟩ (.slice la' (n + 1) lc')) g L v K (.slice la' (n + 1) lc') ct := HE9.out.setLog _
      have hne2 : y2.heap.size ≠ g := by omega
      have hne3 : (Value.slice la' (n + 1) lc').ownBlock ≠ some g := owns_type HO9.out HE9.out.at0 (by decide)
      have hO10 := ownsRow_setCell_other HO9.out (a := ⟨g, 165, none⟩) hne3 (.slice la' (n + 1) lc')
      have hC10 : Chg (fun b => b = g ∨ (Value.slice la n lc).ownBlock = some b) w (w9.setCell ⟨g, 165, none⟩ (.slice la' (n + 1) lc')) := HC9.out.setCell (p := ⟨g, 165, none⟩) (.inl (.inl rfl)) _
      have hR10 := owns_keep (w' := w9.setCell ⟨g, 165, none⟩ (.slice la' (n + 1) lc')) HR9.out (fun k hk _ => heap_setCell_other _ _ _ _ (by simp; omega))
      have hW10 := owns_keep (w' := w9.setCell ⟨g, 165, none⟩ (.slice la' (n + 1) lc')) HW9.out (fun k hk _ => heap_setCell_other _ _ _ _ (by simp; omega))
      have hS10 : StoreAt (w9.setCell ⟨g, 165, none⟩ (.slice la' (n + 1) lc')) v s := HS.out.chg hC10 (fun b hb e => e.elim (fun e => HVG.out (by rw [hb, e])) (HVL.out b hb))
      have hM10 : (w9.setCell ⟨g, 165, none⟩ (.slice la' (n + 1) lc')).heap[y2.heap.size]? = some (.cells M.toArray 144) := (heap_setCell_other _ _ _ _ hne2).trans HM9.out
      have HF := Lib.hid (And.intro hE10 (And.intro hO10 (And.intro hC10 (And.intro hR10 (And.intro hW10 (And.intro hS10 hM10))))))
      have j165 := hE10.log
      clear hE10 hO10 hC10 hR10 hW10 hS10 hM10
      refine hcl 12 (fun K' hK => ?_)
      go_simp
      refine hK.out _ _ ?_ (fun hHeld => ?_)
      · trivial
      clear hK K'
      try simp only [Act.put, pt1, pt2, pt3]
      refine held_done (by kernel_rfl) ?_
      clear hHeld
      go_wp2_with fail
      go_meet
      case rel => exact ⟨la', lc', _, _, HF⟩
    · go_simp
      go_at_call 66
      refine (C3'.out).mono ?_
      rintro e y7 ⟨rv, wv, rfl, hrv, hwv, hb7⟩
      obtain ⟨_, ra, rc, rfl, _⟩ := RowAt.of_owns hrv
      obtain ⟨_, wa, wc, rfl, _⟩ := RowAt.of_owns hwv
      have hb67 := HB6.out.drew.trans (hb7.mono HB6.out.drew.size)
      have hE7 := HE.out.below hb67
      have HRV := Lib.hid hrv
      have HWV := Lib.hid hwv
      have HB7 := Lib.hid hb7
      have HB67 := Lib.hid hb67
      have HE7 := Lib.hid hE7
      have k165 := hE7.log
      clear hrv hwv hb7 hb67 hE7
      go_wp2_with fail
      refine hK.out _ _ ?_ (fun hHeld => ?_)
      · trivial
      clear hK K'
      try simp only [Act.put, pt1, pt2, pt3]
      refine wpAnyH_ready (rs := [4, 8]) (by kernel_rfl) (by simp) (.cons (nth_spec _ 4 _ rfl) (fun K' hK => ?_) (.cons (nth_spec _ 8 _ rfl) (fun K' hK => ?_) .nil))
      · go_simp
        refine hK.out _ _ ?_ (fun hHeld => ?_)
        · trivial
        clear hK K'
        try simp only [Act.put, pt1, pt2, pt3]
        refine hcl 8 (fun K' hK => ?_)
        go_simp
        refine hK.out _ _ ?_ (fun hHeld => ?_)
        · trivial
        clear hK K'
        try simp only [Act.put, pt1, pt2, pt3]
        refine hcl 9 (fun K' hK => ?_)
        rw [if_pos (by rfl)]
        have hol := owns_keep (w' := y7) HLG.out (fun k _ hl => HB67.out.block k hl)
        have hon : (Value.slice la n lc).ownBlock ≠ some y7.heap.size := fun e => absurd (hol.lt _ e).2 (Nat.lt_irrefl _)
        refine wp_append_own _ _ _ 38 rfl B 42 i0 z 5 64 Tryz.underlying38 hi hz0 hz1 hz2 hz3 (by decide) (.slice la n lc) n lgs rfl (hol.alloc _) ⟨y7.heap.size, 0, none⟩ 1 1 [.int .i64 id, .bool com, .bool (hasB 1 0), .slice ra (optN (readsM t)) rc, .slice wa (optN (leftM com t)) wc] rfl rfl (by exact news_new y7 [.int .i64 id, .bool com, .bool (hasB 1 0), .slice ra (optN (readsM t)) rc, .slice wa (optN (leftM com t)) wc] 42) (entry_one _ _ _ _ _ _ _ _ _) (by unfold maxLen; omega) (by omega) (by have := HB67.out.size; simp; omega) ?_
        intro lg' w9 hown9 hgrow9 _
        have hgE : w9.heap[g]? = y7.heap[g]? := (hgrow9.block g (by have := HE7.out.lt; simp; omega) HLN.out.symm).trans (heap_alloc_old _ _ HE7.out.lt)
        have hE9 := HE7.out.keep hgE
        have hch9 : Chg (fun b => b = g ∨ (Value.slice la n lc).ownBlock = some b) w w9 := ((Chg.of_below HB67.out).alloc _).grown hgrow9 (fun k e => .inl (.inr e))
        have hrv9 : w9.ownsRow w.heap.size 155 4 (.slice ra (optN (readsM t)) rc) (optN (readsM t)) (optC (readsM t)) := by
          refine owns_mono (owns_keep (HRV.out.alloc _) fun k hk hl => hgrow9.block k hl (fun e => ?_)) HB6.out.drew.size
          have := (HLG.out.lt k e.symm).2
          have := HB6.out.size
          simp at hk
          omega
        have hwv9 : w9.ownsRow w.heap.size 155 4 (.slice wa (optN (leftM com t)) wc) (optN (leftM com t)) (optC (leftM com t)) := by
          refine owns_mono (owns_keep (HWV.out.alloc _) fun k hk hl => hgrow9.block k hl (fun e => ?_)) HB6.out.drew.size
          have := (HLG.out.lt k e.symm).2
          have := HB6.out.size
          simp at hk
          omega
        have hst9 : StoreAt w9 v s := HS.out.chg hch9 (fun b hb e => e.elim (fun e => HVG.out (by rw [hb, e])) (HVL.out b hb))
        have hm9 : w9.heap[y2.heap.size]? = some (.cells M.toArray 144) := by
          have hl : y2.heap.size < y7.heap.size := Nat.lt_of_lt_of_le (block_lt R6.out) (by have := HB7.out.size; simpa using this)
          refine (hgrow9.block _ (by simp; omega) (fun e => ?_)).trans ((heap_alloc_old _ _ hl).trans ((HB7.out.block _ (by simpa using block_lt R6.out)).trans R6.out))
          have := (HLG.out.lt _ e.symm).2
          omega
        obtain ⟨_, la', lc', rfl, _⟩ := RowAt.of_owns hown9
        have HO9 := Lib.hid hown9
        have HE9 := Lib.hid hE9
        have HC9 := Lib.hid hch9
        have HR9 := Lib.hid hrv9
        have HW9 := Lib.hid hwv9
        have HS9 := Lib.hid hst9
        have HM9 := Lib.hid hm9
        have q165 := hE9.log
        have f165 := hE9.frozen 165
        clear hown9 hgrow9 hE9 hch9 hrv9 hwv9 hst9 hm9 hgE hol hon
        refine hK.out _ _ ?_ (fun hHeld => ?_)
        · trivial
        clear hK K'
        try simp only [Act.put, pt1, pt2, pt3]
        refine hd 10 (v := ?_) ?_ ?_
        rotate_left
        · intro w hS; go_simp; try with_reducible rfl
        simp only [Act.put, pt1, pt2, pt3]
        refine hd 11 (v := ?_) ?_ ?_
        rotate_left
        · intro w hS; go_simp; try with_reducible rfl
        simp only [Act.put, pt1, pt2, pt3]
        have hE10 : EngAt (w9.setCell ⟨g, 165, none⟩ (.slice la' (n + 1) lc')) g L v K (.slice la' (n + 1) lc') ct := HE9.out.setLog _
        have hne2 : y2.heap.size ≠ g := by omega
        have hne3 : (Value.slice la' (n + 1) lc').ownBlock ≠ some g := owns_type HO9.out HE9.out.at0 (by decide)
        have hO10 := ownsRow_setCell_other HO9.out (a := ⟨g, 165, none⟩) hne3 (.slice la' (n + 1) lc')
        have hC10 : Chg (fun b => b = g ∨ (Value.slice la n lc).ownBlock = some b) w (w9.setCell ⟨g, 165, none⟩ (.slice la' (n + 1) lc')) := HC9.out.setCell (p := ⟨g, 165, none⟩) (.inl (.inl rfl)) _
        have hR10 := owns_keep (w' := w9.setCell ⟨g, 165, none⟩ (.slice la' (n + 1) lc')) HR9.out (fun k hk _ => heap_setCell_other _ _ _ _ (by simp; omega))
        have hW10 := owns_keep (w' := w9.setCell ⟨g, 165, none⟩ (.slice la' (n + 1) lc')) HW9.out (fun k hk _ => heap_setCell_other _ _ _ _ (by simp; omega))
        have hS10 : StoreAt (w9.setCell ⟨g, 165, none⟩ (.slice la' (n + 1) lc')) v s := HS.out.chg hC10 (fun b hb e => e.elim (fun e => HVG.out (by rw [hb, e])) (HVL.out b hb))
        have hM10 : (w9.setCell ⟨g, 165, none⟩ (.slice la' (n + 1) lc')).heap[y2.heap.size]? = some (.cells M.toArray 144) := (heap_setCell_other _ _ _ _ hne2).trans HM9.out
        have HF := Lib.hid (And.intro hE10 (And.intro hO10 (And.intro hC10 (And.intro hR10 (And.intro hW10 (And.intro hS10 hM10))))))
        have j165 := hE10.log
        clear hE10 hO10 hC10 hR10 hW10 hS10 hM10
        refine hcl 12 (fun K' hK => ?_)
        go_simp
        refine hK.out _ _ ?_ (fun hHeld => ?_)
        · trivial
        clear hK K'
        try simp only [Act.put, pt1, pt2, pt3]
        refine held_done (by kernel_rfl) ?_
        clear hHeld
        go_wp2_with fail
        go_meet
        case rel => exact ⟨la', lc', _, _, HF⟩
      · go_simp
        refine hK.out _ _ ?_ (fun hHeld => ?_)
        · trivial
        clear hK K'
        try simp only [Act.put, pt1, pt2, pt3]
        have kA : ∀ o : Obj, (y7.alloc o).cell? ⟨g, 165, none⟩ = some (.slice la n lc) := fun o => (World.cell?_alloc_past _ _ _ (by exact HE7.out.lt)).trans k165
        refine hcl 4 (fun K' hK => ?_)
        go_simp
        refine hK.out _ _ ?_ (fun hHeld => ?_)
        · trivial
        clear hK K'
        try simp only [Act.put, pt1, pt2, pt3]
        refine hcl 9 (fun K' hK => ?_)
        rw [if_pos (by rfl)]
        have hol := owns_keep (w' := y7) HLG.out (fun k _ hl => HB67.out.block k hl)
        have hon : (Value.slice la n lc).ownBlock ≠ some y7.heap.size := fun e => absurd (hol.lt _ e).2 (Nat.lt_irrefl _)
        refine wp_append_own _ _ _ 38 rfl B 42 i0 z 5 64 Tryz.underlying38 hi hz0 hz1 hz2 hz3 (by decide) (.slice la n lc) n lgs rfl (hol.alloc _) ⟨y7.heap.size, 0, none⟩ 1 1 [.int .i64 id, .bool com, .bool (hasB 1 0), .slice ra (optN (readsM t)) rc, .slice wa (optN (leftM com t)) wc] rfl rfl (by exact news_new y7 [.int .i64 id, .bool com, .bool (hasB 1 0), .slice ra (optN (readsM t)) rc, .slice wa (optN (leftM com t)) wc] 42) (entry_one _ _ _ _ _ _ _ _ _) (by unfold maxLen; omega) (by omega) (by have := HB67.out.size; simp; omega) ?_
        intro lg' w9 hown9 hgrow9 _
        have hgE : w9.heap[g]? = y7.heap[g]? := (hgrow9.block g (by have := HE7.out.lt; simp; omega) HLN.out.symm).trans (heap_alloc_old _ _ HE7.out.lt)
        have hE9 := HE7.out.keep hgE
        have hch9 : Chg (fun b => b = g ∨ (Value.slice la n lc).ownBlock = some b) w w9 := ((Chg.of_below HB67.out).alloc _).grown hgrow9 (fun k e => .inl (.inr e))
        have hrv9 : w9.ownsRow w.heap.size 155 4 (.slice ra (optN (readsM t)) rc) (optN (readsM t)) (optC (readsM t)) := by
          refine owns_mono (owns_keep (HRV.out.alloc _) fun k hk hl => hgrow9.block k hl (fun e => ?_)) HB6.out.drew.size
          have := (HLG.out.lt k e.symm).2
          have := HB6.out.size
          simp at hk
          omega
        have hwv9 : w9.ownsRow w.heap.size 155 4 (.slice wa (optN (leftM com t)) wc) (optN (leftM com t)) (optC (leftM com t)) := by
          refine owns_mono (owns_keep (HWV.out.alloc _) fun k hk hl => hgrow9.block k hl (fun e => ?_)) HB6.out.drew.size
          have := (HLG.out.lt k e.symm).2
          have := HB6.out.size
          simp at hk
          omega
        have hst9 : StoreAt w9 v s := HS.out.chg hch9 (fun b hb e => e.elim (fun e => HVG.out (by rw [hb, e])) (HVL.out b hb))
        have hm9 : w9.heap[y2.heap.size]? = some (.cells M.toArray 144) := by
          have hl : y2.heap.size < y7.heap.size := Nat.lt_of_lt_of_le (block_lt R6.out) (by have := HB7.out.size; simpa using this)
          refine (hgrow9.block _ (by simp; omega) (fun e => ?_)).trans ((heap_alloc_old _ _ hl).trans ((HB7.out.block _ (by simpa using block_lt R6.out)).trans R6.out))
          have := (HLG.out.lt _ e.symm).2
          omega
        obtain ⟨_, la', lc', rfl, _⟩ := RowAt.of_owns hown9
        have HO9 := Lib.hid hown9
        have HE9 := Lib.hid hE9
        have HC9 := Lib.hid hch9
        have HR9 := Lib.hid hrv9
        have HW9 := Lib.hid hwv9
        have HS9 := Lib.hid hst9
        have HM9 := Lib.hid hm9
        have q165 := hE9.log
        have f165 := hE9.frozen 165
        clear hown9 hgrow9 hE9 hch9 hrv9 hwv9 hst9 hm9 hgE hol hon
        refine hK.out _ _ ?_ (fun hHeld => ?_)
        · trivial
        clear hK K'
        try simp only [Act.put, pt1, pt2, pt3]
        refine hd 10 (v := ?_) ?_ ?_
        rotate_left
        · intro w hS; go_simp; try with_reducible rfl
        simp only [Act.put, pt1, pt2, pt3]
        refine hd 11 (v := ?_) ?_ ?_
        rotate_left
        · intro w hS; go_simp; try with_reducible rfl
        simp only [Act.put, pt1, pt2, pt3]
        have hE10 : EngAt (w9.setCell ⟨g, 165, none⟩ (.slice la' (n + 1) lc')) g L v K (.slice la' (n + 1) lc') ct := HE9.out.setLog _
        have hne2 : y2.heap.size ≠ g := by omega
        have hne3 : (Value.slice la' (n + 1) lc').ownBlock ≠ some g := owns_type HO9.out HE9.out.at0 (by decide)
        have hO10 := ownsRow_setCell_other HO9.out (a := ⟨g, 165, none⟩) hne3 (.slice la' (n + 1) lc')
        have hC10 : Chg (fun b => b = g ∨ (Value.slice la n lc).ownBlock = some b) w (w9.setCell ⟨g, 165, none⟩ (.slice la' (n + 1) lc')) := HC9.out.setCell (p := ⟨g, 165, none⟩) (.inl (.inl rfl)) _
        have hR10 := owns_keep (w' := w9.setCell ⟨g, 165, none⟩ (.slice la' (n + 1) lc')) HR9.out (fun k hk _ => heap_setCell_other _ _ _ _ (by simp; omega))
        have hW10 := owns_keep (w' := w9.setCell ⟨g, 165, none⟩ (.slice la' (n + 1) lc')) HW9.out (fun k hk _ => heap_setCell_other _ _ _ _ (by simp; omega))
        have hS10 : StoreAt (w9.setCell ⟨g, 165, none⟩ (.slice la' (n + 1) lc')) v s := HS.out.chg hC10 (fun b hb e => e.elim (fun e => HVG.out (by rw [hb, e])) (HVL.out b hb))
        have hM10 : (w9.setCell ⟨g, 165, none⟩ (.slice la' (n + 1) lc')).heap[y2.heap.size]? = some (.cells M.toArray 144) := (heap_setCell_other _ _ _ _ hne2).trans HM9.out
        have HF := Lib.hid (And.intro hE10 (And.intro hO10 (And.intro hC10 (And.intro hR10 (And.intro hW10 (And.intro hS10 hM10))))))
        have j165 := hE10.log
        clear hE10 hO10 hC10 hR10 hW10 hS10 hM10
        refine hcl 12 (fun K' hK => ?_)
        go_simp
        refine hK.out _ _ ?_ (fun hHeld => ?_)
        · trivial
        clear hK K'
        try simp only [Act.put, pt1, pt2, pt3]
        refine held_done (by kernel_rfl) ?_
        clear hHeld
        go_wp2_with fail
        go_meet
        case rel => exact ⟨la', lc', _, _, HF⟩
  case rest =>
    obtain ⟨la', lc', rv, wv, HF⟩ := hcut
    have C4' := Lib.hid (C4.out wc HF.out.2.2.2.2.2.1)
    obtain ⟨_, va, vc, rfl, _⟩ := HS.out
    have k100 := HF.out.1.store
    have f100 := HF.out.1.frozen 100
    go_wp2_with fail
    refine (C4'.out).mono ?_
    rintro e y11 ⟨v', rfl, hv', hb11⟩
    obtain ⟨_, va', vc', rfl, _⟩ := RowAt.of_owns hv'
    have hE11 := HF.out.1.below hb11
    have s100 := hE11.store
    have g100 := hE11.frozen 100
    have hC11 := HF.out.2.2.1.below hb11 HF.out.2.2.1.size
    have hM11 := (hb11.block _ (block_lt HF.out.2.2.2.2.2.2)).trans HF.out.2.2.2.2.2.2
    have hO11 := owns_keep HF.out.2.1 (fun k _ hl => hb11.block k hl)
    have hR11 := owns_keep HF.out.2.2.2.1 (fun k _ hl => hb11.block k hl)
    have hW11 := owns_keep HF.out.2.2.2.2.1 (fun k _ hl => hb11.block k hl)
    have hV11 := owns_mono hv' HF.out.2.2.1.size
    have HF11 := Lib.hid (And.intro hE11 (And.intro hC11 (And.intro hM11 (And.intro hO11 (And.intro hR11 (And.intro hW11 hV11))))))
    clear hE11 hC11 hM11 hO11 hR11 hW11 hV11 hb11 hv' HF C4'
    go_wp2_with fail
    have hE12 : EngAt (y11.setCell ⟨g, 100, none⟩ (.slice va' s.length vc')) g L (.slice va' s.length vc') K (.slice la' (n + 1) lc') ct := HF11.out.1.setStore _
    have hC12 : Chg (fun b => b = g ∨ (Value.slice la n lc).ownBlock = some b) w (y11.setCell ⟨g, 100, none⟩ (.slice va' s.length vc')) := HF11.out.2.1.setCell (p := ⟨g, 100, none⟩) (.inl (.inl rfl)) _
    have hM12 : (y11.setCell ⟨g, 100, none⟩ (.slice va' s.length vc')).heap[y2.heap.size]? = some (.cells M.toArray 144) := (heap_setCell_other _ _ _ _ (show y2.heap.size ≠ g by omega)).trans HF11.out.2.2.1
    have hO12 := ownsRow_setCell_other HF11.out.2.2.2.1 (a := ⟨g, 100, none⟩) (owns_type HF11.out.2.2.2.1 HF11.out.1.at0 (by decide)) (.slice va' s.length vc')
    have hR12 := ownsRow_setCell_other HF11.out.2.2.2.2.1 (a := ⟨g, 100, none⟩) (owns_type HF11.out.2.2.2.2.1 HF11.out.1.at0 (by decide)) (.slice va' s.length vc')
    have hW12 := ownsRow_setCell_other HF11.out.2.2.2.2.2.1 (a := ⟨g, 100, none⟩) (owns_type HF11.out.2.2.2.2.2.1 HF11.out.1.at0 (by decide)) (.slice va' s.length vc')
    have hV12 := ownsRow_setCell_other HF11.out.2.2.2.2.2.2 (a := ⟨g, 100, none⟩) (owns_type HF11.out.2.2.2.2.2.2 HF11.out.1.at0 (by decide)) (.slice va' s.length vc')
    generalize y11.setCell ⟨g, 100, none⟩ (.slice va' s.length vc') = W12 at *
    have HF12 := Lib.hid (And.intro hE12 (And.intro hC12 (And.intro hM12 (And.intro hO12 (And.intro hR12 (And.intro hW12 hV12))))))
    clear hE12 hC12 hM12 hO12 hR12 hW12 hV12 HF11
    rw [rounds_succ]
    go_wp2_with (first
      | (refine wpList_load_row rfl 144 _ rfl y2.heap.size rfl 144 M.toArray (0, 0) _ HF12.out.2.2.1 Tryz.underlying144 rfl (info144a (by simpa using HL5.out)) ?_)
      | (refine wpList_store_mid rfl 144 _ _ rfl g 0 M.toArray rfl rfl (fun j hj => ⟨?t1, ?t2⟩) (info144a (by simpa using HL5.out)) HO5.out ?_))
    case t1 => exact HF12.out.1.poolRange.isSome j (by have := HL.out; have := HL5.out; simp at hj; omega)
    case t2 => exact HF12.out.1.frozen _
    have hE13 : EngAt (W12.setCells g 0 M) g M (.slice va' s.length vc') K (.slice la' (n + 1) lc') ct := HF12.out.1.setPool M HL5.out
    have keep : ∀ k, k ≠ g → (W12.setCells g 0 M).heap[k]? = W12.heap[k]? := setCells_other g M 0 W12
    have nog : ∀ {e k m : Nat} {u : Value} {xs : List Value} {b0 : Nat}, W12.ownsRow b0 e k u m xs → e ≠ 151 → (W12.setCells g 0 M).ownsRow b0 e k u m xs := by
      intro e k m u xs b0 h he
      have hne := owns_type h HF12.out.1.at0 he
      obtain ⟨hl, h⟩ := h
      refine ⟨hl, ?_⟩
      rcases h with h | ⟨b, cap, cur, e1, hb, hg, rest⟩
      · exact .inl h
      · exact .inr ⟨b, cap, cur, e1, hb, (keep b (fun e2 => hne (by rw [e1, e2]; rfl))).trans hg, rest⟩
    refine bodyPost_end (results_none rfl _ _ _) rfl ⟨rfl, _, _, by simpa using hE13, by simpa using nog HF12.out.2.2.2.2.2.2 (by decide), rv, wv, ?_, ?_, ?_, ?_⟩
    · have h01 : hasB 1 0 = true := by decide
      have := nog HF12.out.2.2.2.1 (by decide)
      rw [h01] at this
      exact this
    · simpa using nog HF12.out.2.2.2.2.1 (by decide)
    · simpa using nog HF12.out.2.2.2.2.2.1 (by decide)
    · simpa using Chg.setCells (F := fun b => b = g ∨ (Value.slice la n lc).ownBlock = some b) g (.inl (.inl rfl)) M 0 _ HF12.out.2.1
end Go.Proofs.YteflpdhgojcmcaaGreatDoor
