/- The walk of slices.Repeat (function 100), of one element. The walk of slices.Repeat (function 129), of one element. The walks of store.New and store.Values. The walks of txn.add, Read and Write, of a transaction without steps. The walks of txn.Read and Write, of a transaction without steps; of Look, of the same. No conditions but those that each theorem names. -/
import Derived.Test.YteflpdhgojcmcaaGreatDoorU01
import Derived.Test.YteflpdhgojcmcaaGreatDoorU04
import Derived.StillTailTactics
import Derived.Deep.Cut
namespace Go.Proofs.YteflpdhgojcmcaaGreatDoor
open Go.RowKit
theorem sizeE197r : (Tryz.prog.info? 197).map (·.size) = some 5 := by kernel_rfl
set_option maxRecDepth 100000 in
theorem repeat100 (a : Option Addr) (cap : Nat) (z : List Value) (n : Nat) (w : World) (hv : RowAt w (.slice a 1 cap) 1 5 z) (h1 : AllOne z) (hn1 : 1 ≤ n) (hn : n ≤ 1000) :
    Calls Tryz.prog 100 #[.slice a 1 cap, .int .i64 n] w fun e w' => ∃ v', e = .returned v' ∧ w'.ownsRow w.heap.size 197 5 v' n (reps z n) ∧ Below w.heap.size w w' := by
  obtain ⟨i, zz, hi, hz0, hz1, hz2, hz3⟩ := info_197
  obtain ⟨hl, a', cap', e, hx⟩ := hv
  cases e
  obtain ⟨b, off, rfl, hb, hr⟩ := hx (by omega)
  have hzl : z.length = 5 := by simpa using hl
  have C1 := Lib.hid (mul_one n (by omega) w)
  have b0 : (0 : Int) ≤ (n : Int) := by omega
  have b1 : (n : Int) ≤ 1000 := by omega
  have b2 : (1 : Int) ≤ (n : Int) := by omega
  have HR := Lib.hid hr
  have HZ := Lib.hid hzl
  have H1 := Lib.hid h1
  clear hr hl hx hzl h1
  go_enter Tryz.func100, Tryz.ntmps100
  go_wp2_with fail
  refine (C1.out).mono ?_
  rintro e w' ⟨rfl, rfl⟩
  go_upto_region 7 with (refine wpList_make_full _ rfl _ _ 121 rfl w.heap.size 197 i zz 5 Tryz.underlying121 hi hz0 hz1 _ _ _ _ n rfl rfl rfl rfl (by rw [hz2]; omega) (by unfold maxLen; omega) (Nat.le_refl _) ?_; intro w1 hown0 hgrow0; have HO := Lib.hid (And.intro hown0 hgrow0); clear hown0 hgrow0)
  obtain ⟨hown, hgrow⟩ := HO.out
  clear HO
  have hb1 : Below w.heap.size w w1 := (Below.refl _ _).grown hgrow (Nat.le_refl _) (fun k e => by cases e)
  have hrz : w1.rangeAt b off z := range_keep HR.out (hb1.block b hb)
  obtain ⟨hol, ho⟩ := hown
  rcases ho with ⟨e, _⟩ | ⟨g, cp, cur, e, hWg, hg, hnc, hcm, hsz, htk⟩
  · cases e
  cases e
  have HB1 := Lib.hid hb1
  have HG := Lib.hid hg
  have HS := Lib.hid hsz
  have HRZ := Lib.hid hrz
  clear hgrow hol hnc hcm hWg htk hg hsz hrz hb1
  have hsrc : ∀ j u, z[j]? = some u → w1.cell? ((⟨b, off, none⟩ : Addr).add j) = some u := fun j u hj => by rw [Addr.add_mid]; exact HRZ.out j u hj
  have HSRC := Lib.hid hsrc
  clear hsrc
  go_upto_region 8 with (refine wpList_copy_rows rfl _ _ 121 121 rfl 197 5 1 Tryz.underlying121 sizeE197r w.heap.size 0 n n ⟨b, off, none⟩ 1 cap rfl rfl cur 197 HG.out z (show 1 = min 1 n by omega) (by rw [HZ.out]) HSRC.out (by rw [HZ.out, HS.out]; omega) H1.out ?_)
  refine name_w ?_
  intro W2 hW2
  have hk : Hid (∃ cur, W2.heap[w.heap.size]? = some (.cells cur 197 (0, 0)) ∧ cur.size = n * 5 ∧ cur.toList.take (1 * 5) = reps z 1) := by
    refine Lib.hid ⟨(z ++ List.drop z.length cur.toList).toArray, ?_, ?_, ?_⟩
    · rw [hW2]
      exact setRow_heap _ _ _ _ _ _ HG.out
    · have h1 := HZ.out
      have h2 := HS.out
      simp [h1, h2]
      omega
    · rw [reps_one, Nat.one_mul, ← HZ.out]
      simp
  have hbw : Hid (Below w.heap.size w W2) := Lib.hid (by rw [hW2]; exact below_setRow' HB1.out (Nat.le_refl _) _)
  clear hW2 HG HB1 HS HRZ HSRC HR
  go_loopw [8] (fun v wr => ∃ j : Nat, 1 ≤ j ∧ j ≤ n ∧ v = .int .i64 j ∧ Hid (∃ cur, wr.heap[w.heap.size]? = some (.cells cur 197 (0, 0)) ∧ cur.size = n * 5 ∧ cur.toList.take (j * 5) = reps z j) ∧ Hid (Below w.heap.size w wr)) (fun v _ => n - (intOf v).toNat)
  case atStart => exact ⟨1, Nat.le_refl _, hn1, rfl, hk, hbw⟩
  case round =>
    obtain ⟨j, hj1, hjn, rfl, hcu, hbe⟩ := hrel
    by_cases hlt : j < n
    · have g0 : (0 : Int) ≤ (j : Int) := by omega
      have g1 : (j : Int) < (n : Int) := by omega
      have g2 : (j : Int) ≤ (n : Int) := by omega
      have g3 : ¬ n = j := by omega
      go_wp2_with fail
      have hS0 : (fun _ : World => True) wr.drew := trivial
      refine wp_region_held_drew (S := fun _ => True) (by kernel_rfl) hS0 (fun hHeld => ?_)
      clear hS0
      refine hd 0 (v := ?_) ?_ ?_
      rotate_left
      · intro w _; go_simp; try with_reducible rfl
      simp only [Act.put, pt1, pt2, pt3]
      refine hd 1 (v := ?_) ?_ ?_
      rotate_left
      · intro w _; go_simp; try with_reducible rfl
      simp only [Act.put, pt1, pt2, pt3]
      refine hd 2 (v := ?_) ?_ ?_
      rotate_left
      · intro w _; go_simp; try with_reducible rfl
      simp only [Act.put, pt1, pt2, pt3]
      refine hd 3 (v := ?_) ?_ ?_
      rotate_left
      · intro w _; go_simp; try with_reducible rfl
      simp only [Act.put, pt1, pt2, pt3]
      refine hd 4 (v := ?_) ?_ ?_
      rotate_left
      · intro w _; go_simp; try with_reducible rfl
      simp only [Act.put, pt1, pt2, pt3]
      refine hd 5 (v := ?_) ?_ ?_
      rotate_left
      · intro w _; go_simp; try with_reducible rfl
      simp only [Act.put, pt1, pt2, pt3]
      refine hd 6 (v := ?_) ?_ ?_
      rotate_left
      · intro w _; go_simp; try with_reducible rfl
      simp only [Act.put, pt1, pt2, pt3]
      refine hcl 7 (fun K hK => ?_)
      obtain ⟨cur, hg, hsz, htk⟩ := hcu.out
      have hm0 : min j (n - j) ≤ j := Nat.min_le_left _ _
      have hm1 : min j (n - j) ≤ n - j := Nat.min_le_right _ _
      have hm2 : 1 ≤ min j (n - j) := by omega
      have hrl : (reps z (min j (n - j))).length = min j (n - j) * 5 := by rw [reps_length, HZ.out]
      have hmk : min j (n - j) * 5 ≤ j * 5 := Nat.mul_le_mul_right 5 hm0
      have hjk : j * 5 + min j (n - j) * 5 ≤ n * 5 := by rw [← Nat.add_mul]; exact Nat.mul_le_mul_right 5 (by omega)
      have hsrc : ∀ q u, (reps z (min j (n - j)))[q]? = some u → wr.drew.cell? ((⟨w.heap.size, 0, none⟩ : Addr).add q) = some u := by
        intro q u hq
        have hql := (List.getElem?_eq_some_iff.1 hq).1
        rw [hrl] at hql
        have h3 : cur.toList[q]? = (reps z j)[q]? := by rw [← htk, List.getElem?_take_of_lt (by omega)]
        have h4 : (reps z (min j (n - j)))[q]? = (reps z j)[q]? := by
          rw [← reps_take z _ _ hm0, HZ.out, List.getElem?_take_of_lt hql]
        rw [Addr.add_mid, Nat.zero_add]
        refine (cell_of_row _ _ _ _ _ _ hg).trans ?_
        rw [← Array.getElem?_toList, h3, ← h4, hq]
      generalize hmm : min j (n - j) = m at *
      rw [if_pos (by rfl)]
      refine wp_copy_rows _ _ 121 121 rfl 197 5 m Tryz.underlying121 sizeE197r w.heap.size (j * 5) (n - j) (n - j) ⟨w.heap.size, 0, none⟩ j n rfl rfl cur 197 hg (reps z m) hmm.symm hrl hsrc (by rw [hrl, hsz]; exact hjk) (reps_all H1.out m) ?_
      refine hK _ _ trivial (fun hHeld => ?_)
      clear hK K
      have hnew : Hid (∃ cur', (wr.drew.setRow w.heap.size (cur.toList.take (j * 5) ++ (reps z m ++ cur.toList.drop (j * 5 + (reps z m).length))).toArray).heap[w.heap.size]? = some (.cells cur' 197 (0, 0)) ∧ cur'.size = n * 5 ∧ cur'.toList.take ((j + m) * 5) = reps z (j + m)) := by
        refine Lib.hid ⟨_, setRow_heap wr.drew _ _ _ _ _ hg, ?_, ?_⟩
        · have : (cur.toList.take (j * 5)).length = j * 5 := by rw [List.length_take, Array.length_toList, hsz]; omega
          simp only [List.size_toArray, List.length_append, this, List.length_drop, Array.length_toList, hsz, hrl]
          omega
        · rw [htk]
          rw [← List.append_assoc, ← reps_add, List.take_append_of_le_length (by rw [reps_length, HZ.out]; exact Nat.le_refl _), List.take_of_length_le (by rw [reps_length, HZ.out]; exact Nat.le_refl _)]
      have hbel : Hid (Below w.heap.size w (wr.drew.setRow w.heap.size (cur.toList.take (j * 5) ++ (reps z m ++ cur.toList.drop (j * 5 + (reps z m).length))).toArray)) := Lib.hid (below_setRow' hbe.out.drew (Nat.le_refl _) _)
      generalize wr.drew.setRow w.heap.size (cur.toList.take (j * 5) ++ (reps z m ++ cur.toList.drop (j * 5 + (reps z m).length))).toArray = w9 at *
      have HM := Lib.hid hmm
      have j9 : (j : Int) + (m : Int) ≤ (n : Int) := by omega
      clear hg hsz htk hrl hmk hjk hsrc hmm hcu hbe
      simp only [Act.put, pt1, pt2, pt3]
      refine hd 8 (v := ?_) ?_ ?_
      rotate_left
      · intro w _; go_simp; try with_reducible rfl
      simp only [Act.put, pt1, pt2, pt3]
      refine hd 9 (v := ?_) ?_ ?_
      rotate_left
      · intro w _; go_simp; try with_reducible rfl
      simp only [Act.put, pt1, pt2, pt3]
      refine held_done (by kernel_rfl) ?_
      have hwr : IntKind.i64.wrap ((j : Int) + (m : Int)) = ((j + m : Nat) : Int) := by rw [IntKind.wrap_i64]; omega
      rw [hwr]
      clear hwr
      go_wp2_with fail
      refine ⟨⟨j + m, by omega, by omega, rfl, hnew, hbel⟩, by simp [intOf]; omega⟩
    · have e : j = n := by omega
      subst e
      go_wp2_with fail
      go_ret
      obtain ⟨cur, hg, hsz, htk⟩ := hcu.out
      exact ⟨.slice (some ⟨w.heap.size, 0, none⟩) j j, rfl, ⟨by rw [reps_length, HZ.out], .inr ⟨w.heap.size, j, cur, rfl, Nat.le_refl _, hg, Nat.le_refl _, by unfold maxLen; omega, hsz, htk⟩⟩, hbe.out⟩
end Go.Proofs.YteflpdhgojcmcaaGreatDoor
namespace Go.Proofs.YteflpdhgojcmcaaGreatDoor
open Go.RowKit
theorem sizeE53r : (Tryz.prog.info? 53).map (·.size) = some 2 := by kernel_rfl
set_option maxRecDepth 100000 in
theorem repeat129 (a : Option Addr) (cap : Nat) (z : List Value) (n : Nat) (w : World) (hv : RowAt w (.slice a 1 cap) 1 2 z) (h1 : AllOne z) (hn1 : 1 ≤ n) (hn : n ≤ 1000) :
    Calls Tryz.prog 129 #[.slice a 1 cap, .int .i64 n] w fun e w' => ∃ v', e = .returned v' ∧ w'.ownsRow w.heap.size 53 2 v' n (reps z n) ∧ Below w.heap.size w w' := by
  obtain ⟨i, zz, hi, hz0, hz1, hz2, hz3⟩ := info_53
  obtain ⟨hl, a', cap', e, hx⟩ := hv
  cases e
  obtain ⟨b, off, rfl, hb, hr⟩ := hx (by omega)
  have hzl : z.length = 2 := by simpa using hl
  have C1 := Lib.hid (mul_one n (by omega) w)
  have b0 : (0 : Int) ≤ (n : Int) := by omega
  have b1 : (n : Int) ≤ 1000 := by omega
  have b2 : (1 : Int) ≤ (n : Int) := by omega
  have HR := Lib.hid hr
  have HZ := Lib.hid hzl
  have H1 := Lib.hid h1
  clear hr hl hx hzl h1
  go_enter Tryz.func129, Tryz.ntmps129
  go_wp2_with fail
  refine (C1.out).mono ?_
  rintro e w' ⟨rfl, rfl⟩
  go_upto_region 7 with (refine wpList_make_full _ rfl _ _ 61 rfl w.heap.size 53 i zz 2 Tryz.underlying61 hi hz0 hz1 _ _ _ _ n rfl rfl rfl rfl (by rw [hz2]; omega) (by unfold maxLen; omega) (Nat.le_refl _) ?_; intro w1 hown0 hgrow0; have HO := Lib.hid (And.intro hown0 hgrow0); clear hown0 hgrow0)
  obtain ⟨hown, hgrow⟩ := HO.out
  clear HO
  have hb1 : Below w.heap.size w w1 := (Below.refl _ _).grown hgrow (Nat.le_refl _) (fun k e => by cases e)
  have hrz : w1.rangeAt b off z := range_keep HR.out (hb1.block b hb)
  obtain ⟨hol, ho⟩ := hown
  rcases ho with ⟨e, _⟩ | ⟨g, cp, cur, e, hWg, hg, hnc, hcm, hsz, htk⟩
  · cases e
  cases e
  have HB1 := Lib.hid hb1
  have HG := Lib.hid hg
  have HS := Lib.hid hsz
  have HRZ := Lib.hid hrz
  clear hgrow hol hnc hcm hWg htk hg hsz hrz hb1
  have hsrc : ∀ j u, z[j]? = some u → w1.cell? ((⟨b, off, none⟩ : Addr).add j) = some u := fun j u hj => by rw [Addr.add_mid]; exact HRZ.out j u hj
  have HSRC := Lib.hid hsrc
  clear hsrc
  go_upto_region 8 with (refine wpList_copy_rows rfl _ _ 61 61 rfl 53 2 1 Tryz.underlying61 sizeE53r w.heap.size 0 n n ⟨b, off, none⟩ 1 cap rfl rfl cur 53 HG.out z (show 1 = min 1 n by omega) (by rw [HZ.out]) HSRC.out (by rw [HZ.out, HS.out]; omega) H1.out ?_)
  refine name_w ?_
  intro W2 hW2
  have hk : Hid (∃ cur, W2.heap[w.heap.size]? = some (.cells cur 53 (0, 0)) ∧ cur.size = n * 2 ∧ cur.toList.take (1 * 2) = reps z 1) := by
    refine Lib.hid ⟨(z ++ List.drop z.length cur.toList).toArray, ?_, ?_, ?_⟩
    · rw [hW2]
      exact setRow_heap _ _ _ _ _ _ HG.out
    · have h1 := HZ.out
      have h2 := HS.out
      simp [h1, h2]
      omega
    · rw [reps_one, Nat.one_mul, ← HZ.out]
      simp
  have hbw : Hid (Below w.heap.size w W2) := Lib.hid (by rw [hW2]; exact below_setRow' HB1.out (Nat.le_refl _) _)
  clear hW2 HG HB1 HS HRZ HSRC HR
  go_loopw [8] (fun v wr => ∃ j : Nat, 1 ≤ j ∧ j ≤ n ∧ v = .int .i64 j ∧ Hid (∃ cur, wr.heap[w.heap.size]? = some (.cells cur 53 (0, 0)) ∧ cur.size = n * 2 ∧ cur.toList.take (j * 2) = reps z j) ∧ Hid (Below w.heap.size w wr)) (fun v _ => n - (intOf v).toNat)
  case atStart => exact ⟨1, Nat.le_refl _, hn1, rfl, hk, hbw⟩
  case round =>
    obtain ⟨j, hj1, hjn, rfl, hcu, hbe⟩ := hrel
    by_cases hlt : j < n
    · have g0 : (0 : Int) ≤ (j : Int) := by omega
      have g1 : (j : Int) < (n : Int) := by omega
      have g2 : (j : Int) ≤ (n : Int) := by omega
      have g3 : ¬ n = j := by omega
      go_wp2_with fail
      have hS0 : (fun _ : World => True) wr.drew := trivial
      refine wp_region_held_drew (S := fun _ => True) (by kernel_rfl) hS0 (fun hHeld => ?_)
      clear hS0
      refine hd 0 (v := ?_) ?_ ?_
      rotate_left
      · intro w _; go_simp; try with_reducible rfl
      simp only [Act.put, pt1, pt2, pt3]
      refine hd 1 (v := ?_) ?_ ?_
      rotate_left
      · intro w _; go_simp; try with_reducible rfl
      simp only [Act.put, pt1, pt2, pt3]
      refine hd 2 (v := ?_) ?_ ?_
      rotate_left
      · intro w _; go_simp; try with_reducible rfl
      simp only [Act.put, pt1, pt2, pt3]
      refine hd 3 (v := ?_) ?_ ?_
      rotate_left
      · intro w _; go_simp; try with_reducible rfl
      simp only [Act.put, pt1, pt2, pt3]
      refine hd 4 (v := ?_) ?_ ?_
      rotate_left
      · intro w _; go_simp; try with_reducible rfl
      simp only [Act.put, pt1, pt2, pt3]
      refine hd 5 (v := ?_) ?_ ?_
      rotate_left
      · intro w _; go_simp; try with_reducible rfl
      simp only [Act.put, pt1, pt2, pt3]
      refine hd 6 (v := ?_) ?_ ?_
      rotate_left
      · intro w _; go_simp; try with_reducible rfl
      simp only [Act.put, pt1, pt2, pt3]
      refine hcl 7 (fun K hK => ?_)
      obtain ⟨cur, hg, hsz, htk⟩ := hcu.out
      have hm0 : min j (n - j) ≤ j := Nat.min_le_left _ _
      have hm1 : min j (n - j) ≤ n - j := Nat.min_le_right _ _
      have hm2 : 1 ≤ min j (n - j) := by omega
      have hrl : (reps z (min j (n - j))).length = min j (n - j) * 2 := by rw [reps_length, HZ.out]
      have hmk : min j (n - j) * 2 ≤ j * 2 := Nat.mul_le_mul_right 2 hm0
      have hjk : j * 2 + min j (n - j) * 2 ≤ n * 2 := by rw [← Nat.add_mul]; exact Nat.mul_le_mul_right 2 (by omega)
      have hsrc : ∀ q u, (reps z (min j (n - j)))[q]? = some u → wr.drew.cell? ((⟨w.heap.size, 0, none⟩ : Addr).add q) = some u := by
        intro q u hq
        have hql := (List.getElem?_eq_some_iff.1 hq).1
        rw [hrl] at hql
        have h3 : cur.toList[q]? = (reps z j)[q]? := by rw [← htk, List.getElem?_take_of_lt (by omega)]
        have h4 : (reps z (min j (n - j)))[q]? = (reps z j)[q]? := by
          rw [← reps_take z _ _ hm0, HZ.out, List.getElem?_take_of_lt hql]
        rw [Addr.add_mid, Nat.zero_add]
        refine (cell_of_row _ _ _ _ _ _ hg).trans ?_
        rw [← Array.getElem?_toList, h3, ← h4, hq]
      generalize hmm : min j (n - j) = m at *
      rw [if_pos (by rfl)]
      refine wp_copy_rows _ _ 61 61 rfl 53 2 m Tryz.underlying61 sizeE53r w.heap.size (j * 2) (n - j) (n - j) ⟨w.heap.size, 0, none⟩ j n rfl rfl cur 53 hg (reps z m) hmm.symm hrl hsrc (by rw [hrl, hsz]; exact hjk) (reps_all H1.out m) ?_
      refine hK _ _ trivial (fun hHeld => ?_)
      clear hK K
      have hnew : Hid (∃ cur', (wr.drew.setRow w.heap.size (cur.toList.take (j * 2) ++ (reps z m ++ cur.toList.drop (j * 2 + (reps z m).length))).toArray).heap[w.heap.size]? = some (.cells cur' 53 (0, 0)) ∧ cur'.size = n * 2 ∧ cur'.toList.take ((j + m) * 2) = reps z (j + m)) := by
        refine Lib.hid ⟨_, setRow_heap wr.drew _ _ _ _ _ hg, ?_, ?_⟩
        · have : (cur.toList.take (j * 2)).length = j * 2 := by rw [List.length_take, Array.length_toList, hsz]; omega
          simp only [List.size_toArray, List.length_append, this, List.length_drop, Array.length_toList, hsz, hrl]
          omega
        · rw [htk]
          rw [← List.append_assoc, ← reps_add, List.take_append_of_le_length (by rw [reps_length, HZ.out]; exact Nat.le_refl _), List.take_of_length_le (by rw [reps_length, HZ.out]; exact Nat.le_refl _)]
      have hbel : Hid (Below w.heap.size w (wr.drew.setRow w.heap.size (cur.toList.take (j * 2) ++ (reps z m ++ cur.toList.drop (j * 2 + (reps z m).length))).toArray)) := Lib.hid (below_setRow' hbe.out.drew (Nat.le_refl _) _)
      generalize wr.drew.setRow w.heap.size (cur.toList.take (j * 2) ++ (reps z m ++ cur.toList.drop (j * 2 + (reps z m).length))).toArray = w9 at *
      have HM := Lib.hid hmm
      have j9 : (j : Int) + (m : Int) ≤ (n : Int) := by omega
      clear hg hsz htk hrl hmk hjk hsrc hmm hcu hbe
      simp only [Act.put, pt1, pt2, pt3]
      refine hd 8 (v := ?_) ?_ ?_
      rotate_left
      · intro w _; go_simp; try with_reducible rfl
      simp only [Act.put, pt1, pt2, pt3]
      refine hd 9 (v := ?_) ?_ ?_
      rotate_left
      · intro w _; go_simp; try with_reducible rfl
      simp only [Act.put, pt1, pt2, pt3]
      refine held_done (by kernel_rfl) ?_
      have hwr : IntKind.i64.wrap ((j : Int) + (m : Int)) = ((j + m : Nat) : Int) := by rw [IntKind.wrap_i64]; omega
      rw [hwr]
      clear hwr
      go_wp2_with fail
      refine ⟨⟨j + m, by omega, by omega, rfl, hnew, hbel⟩, by simp [intOf]; omega⟩
    · have e : j = n := by omega
      subst e
      go_wp2_with fail
      go_ret
      obtain ⟨cur, hg, hsz, htk⟩ := hcu.out
      exact ⟨.slice (some ⟨w.heap.size, 0, none⟩) j j, rfl, ⟨by rw [reps_length, HZ.out], .inr ⟨w.heap.size, j, cur, rfl, Nat.le_refl _, hg, Nat.le_refl _, by unfold maxLen; omega, hsz, htk⟩⟩, hbe.out⟩
end Go.Proofs.YteflpdhgojcmcaaGreatDoor
namespace Go.Proofs.YteflpdhgojcmcaaGreatDoor
open Go.RowKit
open PSet
def newVar : VarM := ⟨1, 0, 0, -1, 0⟩
theorem reps_store (n : Nat) : reps newVar.cells n = storeC (List.replicate n newVar) := by
  unfold reps storeC
  rw [List.flatMap_def, List.map_replicate]
theorem storeNew_any (n : Nat) (w : World) (h1 : 1 ≤ n) (h2 : n ≤ 64) :
    Calls Tryz.prog 52 #[.int .i64 n] w fun e w' => ∃ v', e = .returned (.tuple #[v', .bool true]) ∧ w'.ownsRow w.heap.size 197 5 v' n (storeC (List.replicate n newVar)) ∧ Below w.heap.size w w' := by
  have hb : Below w.heap.size w (w.alloc (.cells newVar.cells.toArray 197)) := (Below.refl _ _).alloc (Nat.le_refl _) _
  have hz : RowAt (w.alloc (.cells newVar.cells.toArray 197)) (.slice (some ⟨w.heap.size, 0, none⟩) 1 1) 1 5 newVar.cells := ⟨rfl, _, _, rfl, fun _ => ⟨_, _, rfl, by simp, range_of_block (Go.heap_alloc_new _ _)⟩⟩
  have h1' : AllOne newVar.cells := by
    intro u hu
    simp [newVar, VarM.cells] at hu
    rcases hu with rfl | rfl | rfl | rfl | rfl <;> rfl
  have C1 := Lib.hid (repeat100 _ _ newVar.cells n _ hz h1' h1 (by omega))
  have HB := Lib.hid hb
  have g0 : (1 : Int) ≤ (n : Int) := by omega
  have g1 : (n : Int) ≤ 64 := by omega
  clear hz hb h1'
  go_enter Tryz.func52, Tryz.ntmps52
  go_wp2_with fail
  refine (C1.out).mono ?_
  rintro e w2 ⟨v', rfl, hown, hb2⟩
  rw [reps_store] at hown
  have HF := Lib.hid (And.intro (owns_mono hown HB.out.size) (HB.out.trans (hb2.mono HB.out.size)))
  clear hown hb2
  go_wp2_with fail
  go_ret2
  exact ⟨v', rfl, HF.out.1, HF.out.2⟩
theorem news_new (W : World) (l : List Value) (t : Nat) : ∀ j u, l[j]? = some u → (W.alloc (.cells l.toArray t)).cell? ((⟨W.heap.size, 0, none⟩ : Addr).add j) = some u := by
  intro j u hj
  rw [Addr.add_mid, Nat.zero_add]
  rw [new_cell]
  simpa using hj
/-- What a variable has. -/
def VarM.valC (v : VarM) : List Value := [.int .i64 v.k, .int .i64 v.n]
def valsC (s : List VarM) : List Value := s.flatMap VarM.valC
theorem valsC_take {s : List VarM} {k : Nat} {a : VarM} (h : s[k]? = some a) : valsC (s.take (k + 1)) = valsC (s.take k) ++ a.valC := by
  unfold valsC
  rw [List.take_add_one, h, List.flatMap_append]
  simp
set_option maxRecDepth 100000 in
theorem values_any (v : Value) (s : List VarM) (w : World) (hs : StoreAt w v s) (hn : s.length ≤ 1000) :
    Calls Tryz.prog 322 #[v] w fun e w' => ∃ v', e = .returned v' ∧ w'.ownsRow w.heap.size 53 2 v' s.length (valsC s) ∧ Below w.heap.size w w' := by
  obtain ⟨i0, z, hi, hz0, hz1, hz2, hz3⟩ := info_53
  obtain ⟨hl, ad, cap, rfl, hr⟩ := hs
  have HR := Lib.hid hr
  have HL := Lib.hid hl
  generalize hlen : s.length = len at *
  have HLEN := Lib.hid hlen
  clear hr hl hlen
  go_enter Tryz.func322, Tryz.ntmps322
  go_wp2_with fail
  go_loopw [7, 2, 4] (fun i v _ wr => ∃ k : Nat, k ≤ len ∧ i = .int .i64 k ∧ Hid (wr.ownsRow w.heap.size 53 2 v k (valsC (s.take k))) ∧ Hid (Below w.heap.size w wr)) (fun i _ _ _ => len - (intOf i).toNat)
  case atStart => exact ⟨0, Nat.zero_le _, rfl, Lib.hid (World.ownsRow_nil _ _ _ _), Lib.hid (Below.refl _ _)⟩
  case round =>
    obtain ⟨k, hk, rfl, hown, hbe⟩ := hrel
    by_cases hlt : k < len
    · obtain ⟨b, off, rfl, hb, hr⟩ := HR.out (by omega)
      obtain ⟨a, ha⟩ : ∃ a, s[k]? = some a := ⟨s[k]'(by have := HLEN.out; omega), List.getElem?_eq_getElem _⟩
      have htk := valsC_take ha
      have hra : wr.rangeAt b (off + k * 5) a.cells := range_keep (chunk_range VarM.len hr ha) (hbe.out.block b hb)
      obtain ⟨ak, an, av, aw, am⟩ := a
      have HRA := Lib.hid hra
      have HTK := Lib.hid htk
      have j0 : (0 : Int) ≤ (k : Int) := by omega
      have j1 : (k : Int) < (len : Int) := by omega
      clear hr hra htk ha
      go_upto_region 4 with (refine wpList_load_mid rfl 197 _ rfl b (off + k * 5) rfl [.int .i64 ak, .int .i64 an, .int .i64 av, .int .i64 aw, .int .u64 am] _ HRA.out Tryz.underlying197 rfl (by kernel_rfl) ?_)
      refine name_w ?_
      intro W hW
      have hw0 : W.ownsRow w.heap.size 53 2 u2 k (valsC (s.take k)) := by rw [hW]; exact hown.out.alloc _
      have hwb : Below w.heap.size w W := by rw [hW]; exact hbe.out.alloc hbe.out.size _
      have q0 : W.cell? ⟨wr.heap.size, 0, none⟩ = some (.int .i64 ak) := by rw [hW]; exact new_cell _ _ _ _
      have q1 : W.cell? ⟨wr.heap.size, 1, none⟩ = some (.int .i64 an) := by rw [hW]; exact new_cell _ _ _ _
      have HO := Lib.hid hw0
      have HB := Lib.hid hwb
      clear hW hw0 hwb HRA hown hbe
      go_wp2_with (at_builtin; refine wpList_append_own _ rfl _ _ 61 rfl w.heap.size 53 i0 z 2 16 Tryz.underlying61 hi hz0 hz1 hz2 hz3 (by decide) _ _ _ rfl (HO.out.alloc _) ⟨W.heap.size, 0, none⟩ 1 1 [.int .i64 ak, .int .i64 an] rfl rfl (news_new W _ 53) (by simp [Value.oneCell']) (by unfold maxLen; omega) (by omega) (by have := HB.out.size; simp; omega) ?_)
      intro v' w1 hown1 hgrow _
      have hb1 : Below w.heap.size w w1 := (HB.out.alloc HB.out.size _).grown hgrow (by have := HB.out.size; simp; omega) (fun j hj => (HO.out.lt j hj).1)
      have HO1 := Lib.hid hown1
      have HB1 := Lib.hid hb1
      clear hgrow hown1 hb1
      go_wp2_with fail
      go_roundw
      case rel => exact ⟨k + 1, by omega, by go_num, Lib.hid (by rw [HTK.out]; exact HO1.out), HB1⟩
      case measure => simp [intOf]; omega
    · have e : k = len := by omega
      subst e
      go_wp2_with fail
      go_ret
      have ho := hown.out
      rw [List.take_of_length_le (by have := HLEN.out; omega)] at ho
      exact ⟨u2, rfl, ho, hbe.out⟩
end Go.Proofs.YteflpdhgojcmcaaGreatDoor
namespace Go.Proofs.YteflpdhgojcmcaaGreatDoor
open Go.RowKit
/-- A step of a transaction. -/
structure StepM where
  x : Int
  k : Int
  n : Int
  wr : Bool
def StepM.cells (s : StepM) : List Value := [.int .i64 s.x, .int .i64 s.k, .int .i64 s.n, .bool s.wr]
theorem StepM.len (s : StepM) : s.cells.length = 4 := rfl
theorem StepM.one (s : StepM) : AllOne s.cells := by
  intro u hu
  simp [StepM.cells] at hu
  rcases hu with rfl | rfl | rfl | rfl <;> rfl
theorem clip230_nil (w : World) : Calls Tryz.prog 230 #[.slice none 0 0] w fun e w' => e = .returned (.slice none 0 0) ∧ w = w' := by
  go_enter Tryz.func230, Tryz.ntmps230
  go_wp2_with fail
  go_ret
  exact ⟨rfl, rfl⟩
set_option maxRecDepth 100000 in
theorem add_nil (x k n : Int) (wr : Bool) (w : World) (h0 : 0 ≤ x) (h1 : x < 64) (hv : rightV k n = true) :
    Calls Tryz.prog 198 #[.slice none 0 0, .agg #[.int .i64 x, .int .i64 k, .int .i64 n, .bool wr]] w fun e w' => ∃ v', e = .returned (.tuple #[v', .int .i64 0]) ∧ w'.ownsRow w.heap.size 155 4 v' 1 (StepM.cells ⟨x, k, n, wr⟩) ∧ Below w.heap.size w w' := by
  obtain ⟨i0, z, hi, hz0, hz1, hz2, hz3⟩ := info_155
  have C1 := Lib.hid (right_value k n)
  rw [hv] at C1
  clear hv
  go_enter Tryz.func198, Tryz.ntmps198
  go_wp2_with fail
  refine (C1.out _).mono ?_
  rintro e w1 ⟨rfl, hb⟩
  have hc : ∀ j, w1.cell? ⟨w.heap.size, j, none⟩ = (#[.int .i64 x, .int .i64 k, .int .i64 n, .bool wr] : Array Value)[j]? := fun j => (hb.cell (p := ⟨w.heap.size, j, none⟩) (by simp)).trans (new_cell _ _ _ _)
  have hb1 : Below w.heap.size w w1 := ((Below.refl _ _).alloc (Nat.le_refl _) _).trans (hb.mono (by simp))
  have q0 := hc 0
  have q1 := hc 1
  have q2 := hc 2
  have q3 := hc 3
  simp at q0 q1 q2 q3
  have HB := Lib.hid hb1
  clear hb hc hb1
  go_upto_region 5 with (fail)
  have hS0 : (fun w' : World => w'.cell? ⟨w.heap.size, 0, none⟩ = some (.int .i64 x) ∧ w'.cell? ⟨w.heap.size, 1, none⟩ = some (.int .i64 k) ∧ w'.cell? ⟨w.heap.size, 2, none⟩ = some (.int .i64 n) ∧ w'.cell? ⟨w.heap.size, 3, none⟩ = some (.bool wr)) w1.drew := ⟨q0, q1, q2, q3⟩
  refine wp_region_held_drew (S := fun w' => w'.cell? ⟨w.heap.size, 0, none⟩ = some (.int .i64 x) ∧ w'.cell? ⟨w.heap.size, 1, none⟩ = some (.int .i64 k) ∧ w'.cell? ⟨w.heap.size, 2, none⟩ = some (.int .i64 n) ∧ w'.cell? ⟨w.heap.size, 3, none⟩ = some (.bool wr)) (by kernel_rfl) hS0 (fun hHeld => ?_)
  clear hS0
  refine hd 0 (v := ?_) ?_ ?_
  rotate_left
  · intro w _; go_simp; try with_reducible rfl
  simp only [Act.put, pt1, pt2, pt3]
  refine hd 2 (v := .agg #[.int .i64 x, .int .i64 k, .int .i64 n, .bool wr]) ?_ ?_
  · rintro w ⟨a0, a1, a2, a3⟩; go_simp
  simp only [Act.put, pt1, pt2, pt3]
  have lt1 : w.heap.size < w1.heap.size := block_lt_of_cell q0
  refine wpAnyH_ready (rs := [1, 3]) (by kernel_rfl) (by simp) (.cons (nth_spec _ 1 _ rfl) (fun K hK => ?_) (.cons (nth_spec _ 3 _ rfl) (fun K hK => ?_) .nil))
  · skip
    go_simp
    go_at_call 230
    refine (clip230_nil _).mono ?_
    rintro e y ⟨rfl, rfl⟩
    go_wp2_with fail
    refine hK.out _ _ ?_ (fun hHeld => ?_)
    · assumption
    clear hK K
    try simp only [Act.put, pt1, pt2, pt3]
    refine hcl 3 (fun K hK => ?_)
    go_simp
    refine hK.out _ _ ?_ (fun hHeld => ?_)
    · exact ⟨(World.cell?_alloc_past _ _ _ lt1).trans q0, (World.cell?_alloc_past _ _ _ lt1).trans q1, (World.cell?_alloc_past _ _ _ lt1).trans q2, (World.cell?_alloc_past _ _ _ lt1).trans q3⟩
    clear hK K
    try simp only [Act.put, pt1, pt2, pt3]
    refine hcl 4 (fun K hK => ?_)
    rw [if_pos (by rfl)]
    refine wp_append_own _ _ _ 134 rfl w.heap.size 155 i0 z 4 32 Tryz.underlying134 hi hz0 hz1 hz2 hz3 (by decide) (.slice none 0 0) 0 [] rfl (World.ownsRow_nil _ _ _ _) ⟨w1.heap.size, 0, none⟩ 1 1 (StepM.cells ⟨x, k, n, wr⟩) rfl rfl (by exact news_new w1 (StepM.cells ⟨x, k, n, wr⟩) 155) (StepM.one _) (by unfold maxLen; omega) (by omega) (by have := HB.out.size; simp; omega) ?_
    intro v' w2 hown hgrow _
    refine hK.out _ _ ?_ (fun hHeld => ?_)
    · exact ⟨(hgrow.cell hHeld.1 (by simp [Value.ownBlock])), (hgrow.cell hHeld.2.1 (by simp [Value.ownBlock])), (hgrow.cell hHeld.2.2.1 (by simp [Value.ownBlock])), (hgrow.cell hHeld.2.2.2 (by simp [Value.ownBlock]))⟩
    clear hK K
    have hb2 : Below w.heap.size w w2 := ((HB.out.alloc HB.out.size (.cells #[.int .i64 x, .int .i64 k, .int .i64 n, .bool wr] 155)).drew).grown hgrow (by have := HB.out.size; simp; omega) (fun j hj => by cases hj)
    have HF := Lib.hid (And.intro hown hb2)
    clear hown hgrow hb2
    try simp only [Act.put, pt1, pt2, pt3]
    refine hd 5 (v := ?_) ?_ ?_
    rotate_left
    · intro w _; go_simp; try with_reducible rfl
    simp only [Act.put, pt1, pt2, pt3]
    refine hd 6 (v := ?_) ?_ ?_
    rotate_left
    · intro w _; go_simp; try with_reducible rfl
    simp only [Act.put, pt1, pt2, pt3]
    refine held_done (by kernel_rfl) ?_
    clear hHeld
    go_wp2_with fail
    go_ret2
    exact ⟨v', rfl, by simpa using HF.out.1, HF.out.2⟩
  · skip
    go_simp
    refine hK.out _ _ ?_ (fun hHeld => ?_)
    · exact ⟨(World.cell?_alloc_past _ _ _ lt1).trans q0, (World.cell?_alloc_past _ _ _ lt1).trans q1, (World.cell?_alloc_past _ _ _ lt1).trans q2, (World.cell?_alloc_past _ _ _ lt1).trans q3⟩
    clear hK K
    try simp only [Act.put, pt1, pt2, pt3]
    refine hcl 1 (fun K hK => ?_)
    go_simp
    go_at_call 230
    refine (clip230_nil _).mono ?_
    rintro e y ⟨rfl, rfl⟩
    go_wp2_with fail
    refine hK.out _ _ ?_ (fun hHeld => ?_)
    · assumption
    clear hK K
    try simp only [Act.put, pt1, pt2, pt3]
    refine hcl 4 (fun K hK => ?_)
    rw [if_pos (by rfl)]
    refine wp_append_own _ _ _ 134 rfl w.heap.size 155 i0 z 4 32 Tryz.underlying134 hi hz0 hz1 hz2 hz3 (by decide) (.slice none 0 0) 0 [] rfl (World.ownsRow_nil _ _ _ _) ⟨w1.heap.size, 0, none⟩ 1 1 (StepM.cells ⟨x, k, n, wr⟩) rfl rfl (by exact news_new w1 (StepM.cells ⟨x, k, n, wr⟩) 155) (StepM.one _) (by unfold maxLen; omega) (by omega) (by have := HB.out.size; simp; omega) ?_
    intro v' w2 hown hgrow _
    refine hK.out _ _ ?_ (fun hHeld => ?_)
    · exact ⟨(hgrow.cell hHeld.1 (by simp [Value.ownBlock])), (hgrow.cell hHeld.2.1 (by simp [Value.ownBlock])), (hgrow.cell hHeld.2.2.1 (by simp [Value.ownBlock])), (hgrow.cell hHeld.2.2.2 (by simp [Value.ownBlock]))⟩
    clear hK K
    have hb2 : Below w.heap.size w w2 := ((HB.out.alloc HB.out.size (.cells #[.int .i64 x, .int .i64 k, .int .i64 n, .bool wr] 155)).drew).grown hgrow (by have := HB.out.size; simp; omega) (fun j hj => by cases hj)
    have HF := Lib.hid (And.intro hown hb2)
    clear hown hgrow hb2
    try simp only [Act.put, pt1, pt2, pt3]
    refine hd 5 (v := ?_) ?_ ?_
    rotate_left
    · intro w _; go_simp; try with_reducible rfl
    simp only [Act.put, pt1, pt2, pt3]
    refine hd 6 (v := ?_) ?_ ?_
    rotate_left
    · intro w _; go_simp; try with_reducible rfl
    simp only [Act.put, pt1, pt2, pt3]
    refine held_done (by kernel_rfl) ?_
    clear hHeld
    go_wp2_with fail
    go_ret2
    exact ⟨v', rfl, by simpa using HF.out.1, HF.out.2⟩
end Go.Proofs.YteflpdhgojcmcaaGreatDoor
namespace Go.Proofs.YteflpdhgojcmcaaGreatDoor
open Go.RowKit
theorem txnRead_nil (x k n : Int) (w : World) (h0 : 0 ≤ x) (h1 : x < 64) (hv : rightV k n = true) :
    Calls Tryz.prog 197 #[.slice none 0 0, .int .i64 x, .agg #[.int .i64 k, .int .i64 n]] w fun e w' => ∃ v', e = .returned (.tuple #[v', .int .i64 0]) ∧ w'.ownsRow w.heap.size 155 4 v' 1 (StepM.cells ⟨x, k, n, false⟩) ∧ Below w.heap.size w w' := by
  have hb : Below w.heap.size w (w.alloc (.cells #[.int .i64 k, .int .i64 n] 53)) := (Below.refl _ _).alloc (Nat.le_refl _) _
  have C1 := Lib.hid (add_nil x k n false (w.alloc (.cells #[.int .i64 k, .int .i64 n] 53)) h0 h1 hv)
  have HB := Lib.hid hb
  clear hb hv
  go_enter Tryz.func197, Tryz.ntmps197
  go_wp2_with fail
  refine (C1.out).mono ?_
  rintro e w2 ⟨v', rfl, hown, hb2⟩
  have HF := Lib.hid (And.intro (owns_mono hown HB.out.size) (HB.out.trans (hb2.mono HB.out.size)))
  clear hown hb2
  go_wp2_with fail
  go_ret2
  exact ⟨v', rfl, HF.out.1, HF.out.2⟩
theorem txnWrite_nil (x k n : Int) (w : World) (h0 : 0 ≤ x) (h1 : x < 64) (hv : rightV k n = true) :
    Calls Tryz.prog 163 #[.slice none 0 0, .int .i64 x, .agg #[.int .i64 k, .int .i64 n]] w fun e w' => ∃ v', e = .returned (.tuple #[v', .int .i64 0]) ∧ w'.ownsRow w.heap.size 155 4 v' 1 (StepM.cells ⟨x, k, n, true⟩) ∧ Below w.heap.size w w' := by
  have hb : Below w.heap.size w (w.alloc (.cells #[.int .i64 k, .int .i64 n] 53)) := (Below.refl _ _).alloc (Nat.le_refl _) _
  have C1 := Lib.hid (add_nil x k n true (w.alloc (.cells #[.int .i64 k, .int .i64 n] 53)) h0 h1 hv)
  have HB := Lib.hid hb
  clear hb hv
  go_enter Tryz.func163, Tryz.ntmps163
  go_wp2_with fail
  refine (C1.out).mono ?_
  rintro e w2 ⟨v', rfl, hown, hb2⟩
  have HF := Lib.hid (And.intro (owns_mono hown HB.out.size) (HB.out.trans (hb2.mono HB.out.size)))
  clear hown hb2
  go_wp2_with fail
  go_ret2
  exact ⟨v', rfl, HF.out.1, HF.out.2⟩
theorem backward_any (a : Option Addr) (n c : Nat) (w : World) : Calls Tryz.prog 147 #[.slice a n c] w fun e w' => e = .returned (.func (.func 187) #[] #[.pointer (some ⟨w.heap.size, 0, none⟩)]) ∧ w' = w.alloc (.cells #[.slice a n c] 134) := by
  have hmf : ∀ (fn : Fn) (first cap : Array Value) (w : World), (Instr.makeFunc fn first cap).run Tryz.prog w = .ok (.func fn first cap) w := fun _ _ _ _ => rfl
  go_enter Tryz.func147, Tryz.ntmps147
  go_wp2_with fail
  go_ret
  exact ⟨rfl, rfl⟩
end Go.Proofs.YteflpdhgojcmcaaGreatDoor
