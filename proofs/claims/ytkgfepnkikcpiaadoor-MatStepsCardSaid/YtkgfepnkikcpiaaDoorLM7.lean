/- The walk of MatSteps: what is reached is what one edge goes to, and what that reaches. -/
import Derived.Test.YtkgfepnkikcpiaaDoorM9
import Derived.Test.YtkgfepnkikcpiaaDoorPM
import Derived.Test.YtkgfepnkikcpiaaDoorR3
namespace Go.Proofs.YtkgfepnkikcpiaaDoor
open Go.RowKit
open PSet PMat PWay

theorem code_in7 {c : Code} {Q : Exit → Act → World → Prop} {a : Act} {W : World} (φ : World → Prop) (hφ : φ W) (h : ∀ X, φ X → c.wp Tryd.prog Q a X) : c.wp Tryd.prog Q a W := h W hφ

set_option maxHeartbeats 4000000 in
set_option maxRecDepth 100000 in
theorem steps_walk (m : List Nat) (p : Nat) (w : World) (hm : Mat m) (hp : p ≤ 255) (hT : Tab w) :
    Calls Tryd.prog 14 #[matV m, .int .u8 p] w fun e w' => e = .returned (.bool true) ∧ Below w.heap.size w w' := by
  unfold matV
  obtain ⟨x, hx⟩ : ∃ x, x = p % 32 := ⟨_, rfl⟩
  have hx0 : (p : Int) % 32 = (x : Int) := by omega
  clear hx
  obtain ⟨l, hl⟩ : ∃ l, l = itemsI (outsN m (x : Int)) := ⟨_, rfl⟩
  have hlen : l.length ≤ 64 := by rw [hl]; exact itemsI_length_le _
  have hall : PM.wantN m (outsN m (x : Int)) l = reachN m (x : Int) := by rw [hl]; exact PM.steps m x
  have HM := Lib.hid hm
  have HT := Lib.hid hT
  have HO := Lib.hid (outsN_lt m (x : Int))
  have HI0 := Lib.hid (fun W hT => items_int (outsN m (x : Int)) W (outsN_lt _ _) hT)
  have hi0 := HI0.out
  rw [← hl] at hi0
  have C23 := Lib.hid hi0
  have C39 := Lib.hid (fun W => outs_v m (x : Int) W hm)
  have C43 := Lib.hid (fun (a : Int) W hT => reach_v m a W hm hT)
  have HALL := Lib.hid hall
  have HLEN := Lib.hid hlen
  clear hl hi0 HI0 hall
  have hB0 : Below w.heap.size w (w.alloc (.cells (numsV m) 41)) := (Below.refl _ _).alloc (Nat.le_refl _) _
  have A := Lib.hid (alive3 _ (Tab.below hT hT.pos hB0))
  have HB0 := Lib.hid hB0
  clear hm hT hB0
  generalize hou : outsN m (x : Int) = ou at *
  generalize hrr : reachN m (x : Int) = rr at *
  have C43x := Lib.hid (fun W hT => C43.out (x : Int) W hT)
  have hc := C43x.out
  rw [hrr] at hc
  have CX := Lib.hid hc
  clear hc C43x hou hrr
  generalize hn : l.length = r at *
  have HN := Lib.hid hn
  clear hn
  go_enter Tryd.func14, Tryd.ntmps14
  go_wp2_with fail
  refine (A.out).mono ?_
  rintro e w1 ⟨rfl, hB⟩
  have N1 := Lib.hid ((nums_new41 m w).below hB (nums_new41 m w).lt)
  have HB := Lib.hid (HB0.out.trans (hB.mono HB0.out.size))
  clear hB A
  go_wp2_with (refine wpList_load_rv _ rfl w.heap.size m HM.out.1 rfl N1.out (by rfl) ?_)
  refine (theirs_v m w1 HM.out.1).mono ?_
  rintro e w2 ⟨rfl, hB2⟩
  have K1 := Lib.hid (((Held.nil HB.out).to hB2).store m)
  have M1 := Lib.hid (K1.out.1 (w2.heap.size, m) (by simp))
  clear hB2 N1
  go_wp2_with (first | (refine wpList_store_v rfl _ _ rfl w2.heap.size m HM.out.1 rfl rfl zeros rfl (by exact nums_zero w2) ?_) | (refine wpList_load_v _ rfl w2.heap.size m HM.out.1 rfl (by exact M1.out) (by rfl) ?_))
  refine calls_in (Held w [(w2.heap.size, m)]) (by exact K1.out) ?_
  clear K1 M1
  generalize w2.heap.size = g at *
  rintro X1 hK1
  refine (C39.out X1).mono ?_
  rintro e y1 ⟨rfl, hY⟩
  have K2 := Lib.hid (hK1.to hY)
  have M2 := Lib.hid (K2.out.1 (g, m) (by simp))
  clear hK1 hY
  go_wp2_with (refine wpList_load_v _ rfl g m HM.out.1 rfl M2.out (by rfl) ?_)
  refine (C39.out _).mono ?_
  rintro e y2 ⟨rfl, hY⟩
  have K3 := Lib.hid (K2.out.to hY)
  clear hY
  go_wp2_with fail
  refine (C23.out _ (K3.out.tab HT.out)).mono ?_
  rintro e y3 ⟨la, lc, rfl, hI, hY⟩
  have K4 := Lib.hid (K3.out.to hY)
  have HI := Lib.hid hI
  clear hY hI
  go_wp2_with fail
  go_loopw [7, 25, 9] (fun z i _ wr => ∃ t : Nat, t ≤ r ∧ i = .int .i64 t ∧ z = .int .u64 (PM.wantN m ou (l.take t) : Nat) ∧ Held w [(g, m)] wr ∧ IntsAt wr la l) (fun _ i _ _ => r - (intOf i).toNat)
  case atStart => exact ⟨0, Nat.zero_le _, rfl, rfl, K4.out, HI.out⟩
  case round =>
    obtain ⟨t, ht, rfl, rfl, hK, hIt⟩ := hrel
    have HK := Lib.hid hK
    have HIt := Lib.hid hIt
    clear hK hIt HI
    by_cases hlt : t < r
    · obtain ⟨lb, lo, rfl⟩ := HIt.out.some (by have := HN.out; omega)
      have hc : wr.cell? ⟨lb, lo + t, none⟩ = some (.int .i64 (l.getD t 0)) := HIt.out.cell (by have := HN.out; omega)
      have M5 := Lib.hid (HK.out.1 (g, m) (by simp))
      have hor : bits .or .u64 ((PM.wantN m ou (l.take t) : Nat) : Int) ((reachN m (l.getD t 0) : Nat) : Int) = ((PM.wantN m ou (l.take (t + 1)) : Nat) : Int) := by
        rw [u64_or_nat _ _ (PM.wantN_lt _ _ _ HO.out) (reachN_lt _ _), ← PM.wantN_take m ou l t (by have := HN.out; omega)]
      generalize hv : l.getD t 0 = v at *
      have f1 := C43.out v
      have F1 := Lib.hid f1
      generalize reachN m v = rv at *
      clear hv f1
      go_wp2_with (refine wpList_load_v _ rfl g m HM.out.1 rfl M5.out (by rfl) ?_)
      refine (F1.out _ (HK.out.tab HT.out)).mono ?_
      rintro e y5 ⟨rfl, hY⟩
      have K5 := Lib.hid (HK.out.to hY)
      have I5 := Lib.hid (HIt.out.below hY)
      clear hY
      go_wp2_with fail
      refine ⟨⟨t + 1, by omega, by go_num, rfl, K5.out, I5.out⟩, by simp [intOf]; omega⟩
    · have e : t = r := by omega
      subst e
      have hz : PM.wantN m ou (l.take t) = rr := by rw [List.take_of_length_le (by have := HN.out; omega)]; exact HALL.out
      rw [hz]
      clear hz
      have M5 := Lib.hid (HK.out.1 (g, m) (by simp))
      go_wp2_with (refine wpList_load_v _ rfl g m HM.out.1 rfl M5.out (by rfl) ?_)
      refine (CX.out _ (HK.out.tab HT.out)).mono ?_
      rintro e y5 ⟨rfl, hY⟩
      have K5 := Lib.hid (HK.out.to hY)
      clear hY
      go_wp2_with fail
      go_ret
      exact ⟨by simp, K5.out.2⟩
end Go.Proofs.YtkgfepnkikcpiaaDoor
