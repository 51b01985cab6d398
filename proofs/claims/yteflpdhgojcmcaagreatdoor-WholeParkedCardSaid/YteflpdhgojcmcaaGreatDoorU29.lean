/- A thread's Step over a model, and what Break leaves as it is. A new thread. The walks of sched's good, seat and Thread. The walks of the thread's Wake and of sched's clear, with an empty queue. The walk of choice's Wake. No conditions but those that each theorem names. -/
import Derived.Test.YteflpdhgojcmcaaGreatDoorU01
import Derived.Test.YteflpdhgojcmcaaGreatDoorU28
import Derived.Test.YteflpdhgojcmcaaGreatDoorU25
import Derived.Test.YteflpdhgojcmcaaGreatDoorU08
namespace Go.Proofs.YteflpdhgojcmcaaGreatDoor
open Go.RowKit PSet PMat
theorem step38 (t : Nat) (s s' : Int) (w : World) (h : w.cell? ⟨t, 38, none⟩ = some (.int .i64 s)) (R : World → Prop) (hR : ∀ W, R W → W.cell? ⟨t, 38, none⟩ = some (.int .i64 s'))
    (h0 : s = 0 → Calls Tryz.prog 72 #[.pointer (some ⟨t, 0, none⟩)] w fun en w' => en = .returned (.tuple #[]) ∧ R w')
    (h1 : s = 1 → Calls Tryz.prog 73 #[.pointer (some ⟨t, 0, none⟩)] w fun en w' => en = .returned (.tuple #[]) ∧ R w')
    (h2 : s ≠ 0 → s ≠ 1 → R w) :
    Calls Tryz.prog 38 #[.pointer (some ⟨t, 0, none⟩)] w fun en w' => en = .returned (.int .i64 s') ∧ R w' := by
  have C1 := Lib.hid (thState t s w h)
  have CE := Lib.hid (fun (W : World) (hW : R W) => thState t s' W (hR W hW))
  have H2 := Lib.hid h2
  by_cases e0 : s = 0
  · subst e0
    have CB := Lib.hid (h0 rfl)
    clear h0 h1 h2
    go_enter Tryz.func38, Tryz.ntmps38
    go_wp2_with fail
    refine (C1.out).mono ?_
    rintro en y ⟨rfl, rfl⟩
    go_wp2_with fail
    refine (CB.out).mono ?_
    rintro en y ⟨rfl, hy⟩
    have CE' := Lib.hid (CE.out y hy)
    have HY := Lib.hid hy
    clear hy
    go_wp2_with fail
    refine (CE'.out).mono ?_
    rintro en y2 ⟨rfl, rfl⟩
    go_wp2_with fail
    go_ret
    exact ⟨rfl, HY.out⟩
  · by_cases e1 : s = 1
    · subst e1
      have CB := Lib.hid (h1 rfl)
      clear h0 h1 h2
      go_enter Tryz.func38, Tryz.ntmps38
      go_wp2_with fail
      refine (C1.out).mono ?_
      rintro en y ⟨rfl, rfl⟩
      go_wp2_with fail
      refine (CB.out).mono ?_
      rintro en y ⟨rfl, hy⟩
      have CE' := Lib.hid (CE.out y hy)
      have HY := Lib.hid hy
      clear hy
      go_wp2_with fail
      refine (CE'.out).mono ?_
      rintro en y2 ⟨rfl, rfl⟩
      go_wp2_with fail
      go_ret
      exact ⟨rfl, HY.out⟩
    · have CE' := Lib.hid (CE.out w (h2 e0 e1))
      clear h0 h1 h2
      go_enter Tryz.func38, Tryz.ntmps38
      go_wp2_with fail
      refine (C1.out).mono ?_
      rintro en y ⟨rfl, rfl⟩
      go_wp2_with fail
      refine (CE'.out).mono ?_
      rintro en y2 ⟨rfl, rfl⟩
      go_wp2_with fail
      go_ret
      exact ⟨rfl, H2.out e0 e1⟩
/-- One step of a thread, on an engine: what both are then, and what is recorded. -/
def thrStep (m : ThrM) (e : EngM) : Option (ThrM × EngM × List EvM) :=
  if m.state = 0 then match e.live with
    | none => some (m.begun ((e.cnt + 1 : Nat) : Int), e.begun, [⟨0, ((e.cnt + 1 : Nat) : Int), 0, 0, 0⟩])
    | some _ => none
  else if m.state = 1 then match e.live, stepM m.ops m.cpu (e.vals.length : Int) m.fuel with
    | some st, some (c2, ⟨k, x, a, vk, vn, fi⟩) =>
      if c2.regs.length = 8 ∧ c2.used ≤ 100000 ∧ m.id = (e.cnt : Int) ∧ m.reads < 2 ^ 64 ∧ m.writes < 2 ^ 64 then
        if k = 5 ∧ x = 0 ∧ a = 0 ∧ vk = 0 ∧ vn = 0 ∧ fi = 0 then some ((m.at c2).done, e.commit st, [⟨3, (e.cnt : Int), 0, 0, 0⟩])
        else if k = 5 ∧ x = 0 ∧ a = 0 ∧ vk = 0 ∧ vn = 0 ∧ fi = 1 ∧ m.reads ≠ 0 then some ((m.at c2).stop 1, e.over false st, [⟨4, (e.cnt : Int), 0, 0, 0⟩])
        else if k = 0 ∧ x = 0 ∧ a = 0 ∧ vk = 0 ∧ vn = 0 ∧ fi = 0 then some (m.at c2, e, [])
        else match st with
          | some _ => none
          | none =>
            if k = 1 ∧ 0 ≤ x ∧ 0 ≤ a ∧ a < 8 ∧ vk = 0 ∧ vn = 0 ∧ fi = 0 then match e.vals[x.toNat]? with
              | some (u, n) => some ((m.at c2).told a.toNat x.toNat u n, e.step ⟨x.toNat, u, n, false⟩, [⟨1, (e.cnt : Int), x.toNat, u, n⟩])
              | none => none
            else if k = 2 ∧ 0 ≤ x ∧ x.toNat < e.vals.length ∧ a = 0 ∧ rightV vk vn = true ∧ fi = 0 then some ((m.at c2).wrote x.toNat, e.step ⟨x.toNat, vk, vn, true⟩, [⟨2, (e.cnt : Int), x.toNat, vk, vn⟩])
            else none
      else none
    | _, _ => none
  else some (m, e, [])
theorem thStep (kd : Kd) (B : Nat) (w : World) (t r : Nat) (m m' : ThrM) (e e' : EngM) (evs l : List EvM) (ht : ThrS B w t r m) (h : RecS kd B w r e evs) (hB : B ≤ w.heap.size) (hB0 : 0 < B) (hf : evs.length < 90000) (hc : e.cnt < 100000) (hfew : e.log.length < 100000) (hT : Tab w)
    (hs : thrStep m e = some (m', e', l)) :
    Calls Tryz.prog 38 #[.pointer (some ⟨t, 0, none⟩)] w fun en w' => en = .returned (.int .i64 m'.state) ∧ (ThrS B w' t r m' ∧ RecS kd B w' r e' (evs ++ l)) ∧ LimH t B w w' := by
  have hcell : w.cell? ⟨t, 38, none⟩ = some (.int .i64 m.state) := by
    obtain ⟨ov, ht⟩ := ht
    exact ht.cells.2.2.2.1
  refine step38 t m.state m'.state w hcell (fun w' => (ThrS B w' t r m' ∧ RecS kd B w' r e' (evs ++ l)) ∧ LimH t B w w') ?_ ?_ ?_ ?_
  · rintro W ⟨⟨⟨ov, hW⟩, _⟩, _⟩
    exact hW.cells.2.2.2.1
  · intro h0
    unfold thrStep at hs
    rw [if_pos h0] at hs
    split at hs
    · rename_i hl
      cases hs
      exact thBegin kd B w t r m e evs ht h hB hf hl hc hT
    · cases hs
  · intro h1
    unfold thrStep at hs
    rw [if_neg (by omega), if_pos h1] at hs
    split at hs
    · rename_i st c2 k x a vk vn fi hl hst
      split at hs
      · rename_i hg
        obtain ⟨g1, g2, g3, g4, g5⟩ := hg
        split at hs
        · rename_i hk
          obtain ⟨rfl, rfl, rfl, rfl, rfl, rfl⟩ := hk
          cases hs
          exact thRunOver0 kd B w t r m e evs c2 ht h hB hst g1 g2 st hl hfew hB0 hf g3 hT
        split at hs
        · rename_i hk
          obtain ⟨rfl, rfl, rfl, rfl, rfl, rfl, hr⟩ := hk
          cases hs
          exact thRunOver1 kd B w t r m e evs c2 ht h hB hst g1 g2 st hr hl hfew hB0 hf g3 hT
        split at hs
        · rename_i hk
          obtain ⟨rfl, rfl, rfl, rfl, rfl, rfl⟩ := hk
          cases hs
          rw [List.append_nil]
          exact thRunGo kd B w t r m e evs c2 ht h hB hst g1 g2
        split at hs
        · cases hs
        split at hs
        · rename_i hk
          obtain ⟨rfl, hx, ha, ha8, rfl, rfl, rfl⟩ := hk
          split at hs
          · rename_i u n hv
            cases hs
            obtain ⟨X, rfl⟩ := Int.eq_ofNat_of_zero_le hx
            obtain ⟨A, rfl⟩ := Int.eq_ofNat_of_zero_le ha
            exact thRunRead kd B w t r m e evs c2 X A u n ht h hB hst g1 g2 hl hv (by omega) g4 hB0 hf g3 hT
          · cases hs
        split at hs
        · rename_i hk
          obtain ⟨rfl, hx, hxl, rfl, hrv, rfl⟩ := hk
          cases hs
          obtain ⟨X, rfl⟩ := Int.eq_ofNat_of_zero_le hx
          exact thRunWrite kd B w t r m e evs c2 X vk vn ht h hB hst g1 g2 hl hxl hrv g5 hB0 hf g3 hT
        · cases hs
      · cases hs
    · cases hs
  · intro h0 h1
    unfold thrStep at hs
    rw [if_neg h0, if_neg h1] at hs
    cases hs
    rw [List.append_nil]
    exact ⟨⟨ht, h⟩, LimH.refl _ _ _⟩
end Go.Proofs.YteflpdhgojcmcaaGreatDoor
namespace Go.Proofs.YteflpdhgojcmcaaGreatDoor
open Go.RowKit PSet PMat
def ThrM.new (ops : List OpM) (fuel : Int) : ThrM := ⟨ops, fuel, CpuM.zero, 0, 0, 0, 0, 0, 0⟩
set_option maxRecDepth 100000 in
set_option maxHeartbeats 1000000 in
theorem thNew (B : Nat) (ops : List OpM) (fuel : Int) (r b off c : Nat) (w : World) (hB : B ≤ w.heap.size) (hb : b < w.heap.size) (hr : w.rangeAt b off (opsC ops)) (hright : rightL ops = true) :
    Calls Tryz.prog 36 #[.iface 74 (.pointer (some ⟨r, 0, none⟩)), .slice (some ⟨b, off, none⟩) ops.length c, .agg #[.int .i64 0, .int .i64 0, .int .i64 0, .int .i64 0, .int .i64 0, .int .i64 0, .int .i64 0, .int .i64 0, .int .i64 0, .int .i64 0, .int .i64 0, .int .i64 0, .int .i64 0, .int .i64 0, .int .i64 0, .int .i64 0], .int .i64 fuel] w fun en w' => ∃ t, en = .returned (.pointer (some ⟨t, 0, none⟩)) ∧ w.heap.size ≤ t ∧ ThrS B w' t r (ThrM.new ops fuel) ∧ Below w.heap.size w w' := by
  have hlen : 1 ≤ ops.length ∧ ops.length ≤ 200 := by
    have h := hright
    simp only [rightL, Bool.and_eq_true, decide_eq_true_eq] at h
    exact h.1
  have hq : ∀ w : World, (binOp .eql 91 (.iface 74 (.pointer (some ⟨r, 0, none⟩))) .nilIface).run Tryz.prog w = .ok (.bool false) w := fun w => by kernel_rfl
  obtain ⟨W, hW⟩ : ∃ W, W = w.alloc (.cells #[.int .i64 0, .int .i64 0, .int .i64 0, .int .i64 0, .int .i64 0, .int .i64 0, .int .i64 0, .int .i64 0, .int .i64 0, .int .i64 0, .int .i64 0, .int .i64 0, .int .i64 0, .int .i64 0, .int .i64 0, .int .i64 0] 55) := ⟨_, rfl⟩
  have hbW : Below w.heap.size w W := by rw [hW]; exact (Below.refl _ _).alloc (Nat.le_refl _) _
  have hrW : W.heap[w.heap.size]? = some (.cells #[.int .i64 0, .int .i64 0, .int .i64 0, .int .i64 0, .int .i64 0, .int .i64 0, .int .i64 0, .int .i64 0, .int .i64 0, .int .i64 0, .int .i64 0, .int .i64 0, .int .i64 0, .int .i64 0, .int .i64 0, .int .i64 0] 55 (0, 0)) := by rw [hW]; exact Go.heap_alloc_new _ _
  have hrg : W.rangeAt b off (opsC ops) := fun j v hj => (hbW.cell (p := ⟨b, off + j, none⟩) hb).trans (hr j v hj)
  have hbl : b < W.heap.size := Nat.lt_of_lt_of_le hb hbW.size
  have C1 := Lib.hid (Right_any (some ⟨b, off, none⟩) c ops W (by omega) (fun _ => ⟨b, off, rfl, ops_of_range hbl hrg⟩))
  rw [hright] at C1
  have C2 := Lib.hid (fun (U : World) (hU : Below W.heap.size W U) => clone25 (.slice (some ⟨b, off, none⟩) ops.length c) ops.length (opsC ops) U ⟨opsC_length ops, some ⟨b, off, none⟩, c, rfl, fun _ => ⟨b, off, rfl, Nat.lt_of_lt_of_le hbl hU.size, fun j v hj => (hU.cell (p := ⟨b, off + j, none⟩) hbl).trans (hrg j v hj)⟩⟩ (opsC_one ops) (by omega))
  have HRW := Lib.hid hrW
  have HBW := Lib.hid hbW
  have HR := Lib.hid hright
  have HL := Lib.hid hlen
  clear hright hrW hbW hr hrg hlen hb hbl
  go_enter Tryz.func36, Tryz.ntmps36
  go_wp2_with fail
  rw [← hW]
  clear hW
  refine (C1.out).mono ?_
  rintro en y ⟨rfl, hy⟩
  have HY := Lib.hid hy
  have C2' := Lib.hid (C2.out y.drew hy.drew)
  have hS0 : (fun w' : World => w'.rangeAt w.heap.size 0 [.int .i64 0, .int .i64 0, .int .i64 0, .int .i64 0, .int .i64 0, .int .i64 0, .int .i64 0, .int .i64 0, .int .i64 0, .int .i64 0, .int .i64 0, .int .i64 0, .int .i64 0, .int .i64 0, .int .i64 0, .int .i64 0]) y.drew := range_of_block ((hy.block _ (block_lt HRW.out)).trans HRW.out)
  have HRY := Lib.hid ((hy.block _ (block_lt HRW.out)).trans HRW.out)
  clear hy
  go_wp2_with fail
  refine zRegion 9 (S := fun w' : World => w'.rangeAt w.heap.size 0 [.int .i64 0, .int .i64 0, .int .i64 0, .int .i64 0, .int .i64 0, .int .i64 0, .int .i64 0, .int .i64 0, .int .i64 0, .int .i64 0, .int .i64 0, .int .i64 0, .int .i64 0, .int .i64 0, .int .i64 0, .int .i64 0]) (by kernel_rfl) hS0 (fun hHeld => ?_)
  clear hS0
  refine zd 0 (v := ?_) ?_ ?_
  rotate_left
  · rintro w hS; go_simp; try with_reducible rfl
  simp only [Act.put, pt1, pt2, pt3]
  refine zd 1 (v := ?_) ?_ ?_
  rotate_left
  · rintro w hS; go_simp; try with_reducible rfl
  simp only [Act.put, pt1, pt2, pt3]
  refine zLong 3 55 _ w.heap.size 0 [.int .i64 0, .int .i64 0, .int .i64 0, .int .i64 0, .int .i64 0, .int .i64 0, .int .i64 0, .int .i64 0, .int .i64 0, .int .i64 0, .int .i64 0, .int .i64 0, .int .i64 0, .int .i64 0, .int .i64 0, .int .i64 0] _ rfl rfl (by kernel_rfl) (by kernel_rfl) (by kernel_rfl) (by kernel_rfl) (fun _ _ _ h => h) (by rfl) rfl Tryz.underlying55 rfl (by kernel_rfl) (fun _ h => h) (by assumption) ?_
  simp only [Act.put, pt1, pt2, pt3]
  refine zd 4 (v := ?_) ?_ ?_
  rotate_left
  · rintro w hS; go_simp; try with_reducible rfl
  simp only [Act.put, pt1, pt2, pt3]
  refine zLong 5 55 _ w.heap.size 0 [.int .i64 0, .int .i64 0, .int .i64 0, .int .i64 0, .int .i64 0, .int .i64 0, .int .i64 0, .int .i64 0, .int .i64 0, .int .i64 0, .int .i64 0, .int .i64 0, .int .i64 0, .int .i64 0, .int .i64 0, .int .i64 0] _ rfl rfl (by kernel_rfl) (by kernel_rfl) (by kernel_rfl) (by kernel_rfl) (fun _ _ _ h => h) (by rfl) rfl Tryz.underlying55 rfl (by kernel_rfl) (fun _ h => h) (by assumption) ?_
  simp only [Act.put, pt1, pt2, pt3]
  refine zd 6 (v := .agg cpu0) ?_ ?_
  · intro w hS; kernel_rfl
  simp only [Act.put, pt1, pt2, pt3]
  refine zcl 2 (fun K' hK => ?_)
  go_simp
  go_at_call 25
  refine (C2'.out).mono ?_
  rintro en y2 ⟨v', rfl, hown, hby⟩
  obtain ⟨_, va, vc, rfl, _⟩ := RowAt.of_owns hown
  have HRY2 := Lib.hid ((hby.block _ (block_lt HRY.out)).trans HRY.out)
  have HBY2 := Lib.hid ((HBW.out.trans (HY.out.mono HBW.out.size)).trans ((show Below w.heap.size y y.drew from (Below.refl _ _).drew).trans (hby.mono (Nat.le_trans HBW.out.size HY.out.size))))
  have HOWN := Lib.hid hown
  have hyy : B ≤ y.drew.heap.size := Nat.le_trans hB (Nat.le_trans HBW.out.size HY.out.size)
  clear hown hby C2'
  go_wp2_with fail
  refine hK.out _ _ ?_ (fun hHeld => ?_)
  · exact range_of_block HRY2.out
  clear hK K'
  try simp only [Act.put, pt1, pt2, pt3]
  refine zd 7 (v := .agg ((ThrM.new ops fuel).row r (.slice va ops.length vc)).toArray) ?_ ?_
  · intro w hS; kernel_rfl
  simp only [Act.put, pt1, pt2, pt3]
  refine zcl 8 (fun K' hK => ?_)
  go_simp
  refine hK.out _ _ ?_ (fun hHeld => ?_)
  · exact range_of_block ((heap_alloc_old _ _ (block_lt HRY2.out)).trans HRY2.out)
  clear hK K'
  try simp only [Act.put, pt1, pt2, pt3]
  refine zla (fun K' hK => ?_)
  go_simp
  refine hK.out _ _ ?_
  clear hK K'
  try simp only [Act.put, pt1, pt2, pt3]
  go_wp2_with fail
  go_ret
  have hn := Go.heap_alloc_new y2 (.cells ((ThrM.new ops fuel).row r (.slice va ops.length vc)).toArray 96)
  have hb2 : Below y2.heap.size y2 (y2.alloc (.cells ((ThrM.new ops fuel).row r (.slice va ops.length vc)).toArray 96)) := (Below.refl _ _).alloc (Nat.le_refl _) _
  refine ⟨y2.heap.size, rfl, HBY2.out.size, ⟨.slice va ops.length vc, hn, Nat.le_trans hB HBY2.out.size, ?_, rfl, Nat.zero_le _, HR.out⟩, HBY2.out.trans (hb2.mono HBY2.out.size)⟩
  exact owns_below (owns_mono HOWN.out hyy) hb2
end Go.Proofs.YteflpdhgojcmcaaGreatDoor
namespace Go.Proofs.YteflpdhgojcmcaaGreatDoor
open Go.RowKit PSet PMat
theorem scGood (q p : Nat) (w : World) (h : w.cell? ⟨q, 0, none⟩ = some (.pointer (some ⟨p, 0, none⟩))) : Calls Tryz.prog 24 #[.pointer (some ⟨q, 0, none⟩)] w fun e w' => e = .returned (.bool true) ∧ w = w' := by
  go_enter Tryz.func24, Tryz.ntmps24
  go_wp2_with fail
  go_ret
  exact ⟨rfl, rfl⟩
theorem scSeat (q p b off n c : Nat) (i : Nat) (s : Value) (w : World) (h0 : w.cell? ⟨q, 0, none⟩ = some (.pointer (some ⟨p, 0, none⟩))) (h2 : w.cell? ⟨q, 2, none⟩ = some (.slice (some ⟨b, off, none⟩) n c)) (hi : i < n) (hn : n ≤ 100) (hs : w.cell? ⟨b, off + i, none⟩ = some s) :
    Calls Tryz.prog 26 #[.pointer (some ⟨q, 0, none⟩), .int .i64 (i + 1 : Nat)] w fun e w' => e = .returned (.tuple #[s, .int .i64 0]) ∧ w = w' := by
  have C := Lib.hid (scGood q p w h0)
  have g1 : (1 : Int) ≤ ((i + 1 : Nat) : Int) := by omega
  have g2 : ((i + 1 : Nat) : Int) ≤ (n : Int) := by omega
  have hs1 : w.cell? ⟨b, off + (((i + 1 : Nat) : Int).toNat - 1), none⟩ = some s := by rw [show ((i + 1 : Nat) : Int).toNat - 1 = i from by omega]; exact hs
  generalize ((i + 1 : Nat) : Int) = k at *
  clear h0 hs
  go_enter Tryz.func26, Tryz.ntmps26
  go_wp2_with fail
  refine (C.out).mono ?_
  rintro e y ⟨rfl, rfl⟩
  go_wp2_with fail
  go_ret2
  exact ⟨rfl, rfl⟩
theorem scThread (q p b off n c si : Nat) (i : Nat) (t : Value) (w : World) (h0 : w.cell? ⟨q, 0, none⟩ = some (.pointer (some ⟨p, 0, none⟩))) (h2 : w.cell? ⟨q, 2, none⟩ = some (.slice (some ⟨b, off, none⟩) n c)) (hi : i < n) (hn : n ≤ 100)
    (hs : w.cell? ⟨b, off + i, none⟩ = some (.pointer (some ⟨si, 0, none⟩))) (ht : w.cell? ⟨si, 0, none⟩ = some t) :
    Calls Tryz.prog 10 #[.pointer (some ⟨q, 0, none⟩), .int .i64 (i + 1 : Nat)] w fun e w' => e = .returned t ∧ w = w' := by
  have C := Lib.hid (scSeat q p b off n c i _ w h0 h2 hi hn hs)
  clear h0 h2 hs
  go_enter Tryz.func10, Tryz.ntmps10
  go_wp2_with fail
  refine (C.out).mono ?_
  rintro e y ⟨rfl, rfl⟩
  go_wp2_with fail
  go_ret
  exact ⟨rfl, rfl⟩
end Go.Proofs.YteflpdhgojcmcaaGreatDoor
namespace Go.Proofs.YteflpdhgojcmcaaGreatDoor
open Go.RowKit PSet PMat
theorem thWake_yes (t : Nat) (w : World) (h : w.cell? ⟨t, 38, none⟩ = some (.int .i64 2)) (hf : w.frozen? ⟨t, 38, none⟩ = false) :
    Calls Tryz.prog 126 #[.pointer (some ⟨t, 0, none⟩)] w fun e w' => e = .returned (.tuple #[]) ∧ w' = w.setCell ⟨t, 38, none⟩ (.int .i64 0) := by
  have C := Lib.hid (thState t 2 w h)
  go_enter Tryz.func126, Tryz.ntmps126
  go_wp2_with fail
  refine (C.out).mono ?_
  rintro e y ⟨rfl, rfl⟩
  go_wp2_with fail
  refine bodyPost_end (results_none rfl _ _ _) rfl ⟨rfl, rfl⟩
theorem scClear (q b off n c : Nat) (va : Option Addr) (vn vc : Nat) (a : Option Addr) (cq : Nat) (w : World) (h2 : w.cell? ⟨q, 2, none⟩ = some (.slice (some ⟨b, off, none⟩) n c)) (h3 : w.cell? ⟨q, 3, none⟩ = some (.slice va vn vc)) (h4 : w.cell? ⟨q, 4, none⟩ = some (.slice a 0 cq))
    (hn : n ≤ 100) (hlb : b < w.heap.size) (hs : ∀ i, i < n → ∃ s, w.cell? ⟨b, off + i, none⟩ = some (.pointer (some ⟨s, 0, none⟩))) :
    Calls Tryz.prog 40 #[.pointer (some ⟨q, 0, none⟩)] w fun e w' => e = .returned (.tuple #[]) ∧ Below w.heap.size w w' := by
  have lq : q < w.heap.size := block_lt_of_cell h2
  have C := Lib.hid (holder_none (.slice va vn vc) a cq w rfl)
  have HS := Lib.hid hs
  have H2 := Lib.hid h2
  clear hs
  go_enter Tryz.func40, Tryz.ntmps40
  go_wp2_with fail
  refine (C.out).mono ?_
  rintro e y ⟨rfl, hb⟩
  have k2 := (hb.cell (p := ⟨q, 2, none⟩) lq).trans H2.out
  have HB := Lib.hid hb
  clear hb h2 h3 h4
  go_wp2_with fail
  go_loopw [15, 3, 4] (fun i _ _ wr => ∃ k : Nat, k ≤ n ∧ i = .int .i64 k ∧ wr = y) (fun i _ _ _ => n - (intOf i).toNat)
  case atStart => exact ⟨0, Nat.zero_le _, rfl, rfl⟩
  case round =>
    obtain ⟨k, hk, rfl, rfl⟩ := hrel
    by_cases hlt : k < n
    · have h0 : (0 : Int) ≤ (k : Int) := by omega
      obtain ⟨s, hs⟩ := HS.out k hlt
      have hs1 := (HB.out.cell (p := ⟨b, off + k, none⟩) hlb).trans hs
      clear hs k2
      go_wp2_with fail
      go_roundw
      case rel => exact ⟨k + 1, by omega, by go_num, trivial⟩
      case measure => simp [intOf]; omega
    · have e : k = n := by omega
      subst e
      clear k2
      go_wp2_with fail
      refine bodyPost_end (results_none rfl _ _ _) rfl ⟨rfl, HB.out⟩
end Go.Proofs.YteflpdhgojcmcaaGreatDoor
namespace Go.Proofs.YteflpdhgojcmcaaGreatDoor
open Go.RowKit
theorem wake1_no (i r s : Int) (g u : Nat) (w : World) (hg : w.cell? ⟨g, 0, none⟩ = some (.int .u64 s)) (h : (bits .and .u64 r s != 0) = false) :
    Calls Tryz.prog 160 #[.agg #[.int .i64 i, .int .u64 r], .pointer (some ⟨g, 0, none⟩), .pointer (some ⟨u, 0, none⟩)] w fun e w' => e = .returned (.bool false) ∧ Below w.heap.size w w' := by
  have hlt : g < w.heap.size := block_lt_of_cell hg
  go_enter Tryz.func160, Tryz.ntmps160
  go_wp2_with fail
  go_ret
  exact ⟨rfl, (Below.refl _ _).alloc (Nat.le_refl _) _⟩
theorem call160 (args : Array Value) (W : World) : (callFunc 160 args).run Tryz.prog W = .ok (.enter 160 args) W := by kernel_rfl
theorem int_one (i : Int) : AllOne [.int .i64 i] := by
  intro u hu
  simp at hu
  subst hu
  rfl
set_option maxRecDepth 100000 in
theorem wake1_yes (i r s : Int) (g u : Nat) (w : World) (hg : w.cell? ⟨g, 0, none⟩ = some (.int .u64 s)) (h : (bits .and .u64 r s != 0) = true) (hu : w.heap[u]? = some (.cells #[.slice none 0 0] 77)) :
    Calls Tryz.prog 160 #[.agg #[.int .i64 i, .int .u64 r], .pointer (some ⟨g, 0, none⟩), .pointer (some ⟨u, 0, none⟩)] w fun e w' => e = .returned (.bool true) ∧ ∃ v', w'.heap[u]? = some (.cells #[v'] 77) ∧ w'.ownsRow w.heap.size 3 1 v' 1 [.int .i64 i] ∧ Chg (fun b => b = u) w w' := by
  obtain ⟨i0, z, hi, hz0, hz1, hz2, hz3⟩ := info_3
  have hlt : g < w.heap.size := block_lt_of_cell hg
  have hlu : u < w.heap.size := block_lt hu
  have k0 := cell_of_row _ _ 0 _ _ _ hu
  have hnew := news_new (w.alloc (.cells #[.int .i64 i, .int .u64 r] 213)) [.int .i64 i] 3
  rw [World.size_alloc] at hnew
  have HN := Lib.hid hnew
  have HU := Lib.hid hu
  clear hu hnew
  go_enter Tryz.func160, Tryz.ntmps160
  go_wp2_with (at_builtin; refine wpList_append_own _ rfl _ _ 77 rfl (w.heap.size + 1) 3 i0 z 1 8 Tryz.underlying77 hi hz0 hz1 hz2 hz3 (by decide) (.slice none 0 0) 0 [] rfl (World.ownsRow_nil _ _ _ _) ⟨w.heap.size + 1, 0, none⟩ 1 1 [.int .i64 i] rfl rfl HN.out (int_one i) (by unfold maxLen; omega) (by omega) (by simp) ?_)
  intro v' w2 hown hgrow _
  obtain ⟨_, av, cv, rfl, _⟩ := RowAt.of_owns hown
  have g0 : w2.heap[u]? = some (.cells #[.slice none 0 0] 77) := (hgrow.block _ (by simp; omega) (by simp [Value.ownBlock])).trans ((heap_alloc_old _ _ (by simp; omega)).trans ((heap_alloc_old _ _ (by omega)).trans HU.out))
  have c0 := cell_of_row _ _ 0 _ _ _ g0
  have f0 := frozen_of_row _ _ 0 _ _ g0
  have hb2 : Chg (fun b => b = u) w w2 := (((Chg.refl _ w).alloc _).alloc _).grown hgrow (fun j hj => by cases hj)
  have HB2 := Lib.hid hb2
  have HO := Lib.hid hown
  have G0 := Lib.hid g0
  clear hb2 hown hgrow g0
  go_wp2_with fail
  go_ret
  refine ⟨rfl, _, heap_setCell_same _ _ 0 _ _ _ G0.out, owns_mono (owns_keep HO.out fun g hg _ => heap_setCell_other _ _ _ _ (by simp; omega)) (by omega), HB2.out.setCell (p := ⟨u, 0, none⟩) (.inl rfl) _⟩
/-- The first of one spot that is so, where what tells it may change memory. -/
theorem idx152_one (K : Nat) (c1 c2 : Value) (b off c : Nat) (i r : Int) (p : Bool) (S : World → Prop) (w : World) (hr : w.rangeAt b off [.int .i64 i, .int .u64 r])
    (hcall : ∀ (args : Array Value) (W : World), (callFunc K args).run Tryz.prog W = .ok (.enter K args) W)
    (h : Calls Tryz.prog K #[.agg #[.int .i64 i, .int .u64 r], c1, c2] w fun e w' => e = .returned (.bool p) ∧ S w') :
    Calls Tryz.prog 152 #[.slice (some ⟨b, off, none⟩) 1 c, .func (.func K) #[] #[c1, c2]] w fun e w' => e = .returned (.int .i64 (if p then 0 else -1)) ∧ S w' := by
  have H := Lib.hid h
  have k0 : w.cell? ⟨b, off, none⟩ = some (.int .i64 i) := hr 0 _ rfl
  have k1 : w.cell? ⟨b, off + 1, none⟩ = some (.int .u64 r) := hr 1 _ rfl
  clear h hr
  go_enter Tryz.func152, Tryz.ntmps152
  go_wp2_with fail
  refine wp_loop_rounds 2 ?_
  rw [rounds_succ]
  go_wp2_with fail
  refine (H.out).mono ?_
  rintro e w1 ⟨rfl, hs⟩
  have HS := Lib.hid hs
  clear hs
  cases p
  · go_wp2_with fail
    rw [rounds_succ]
    go_wp2_with fail
    go_ret
    exact ⟨rfl, HS.out⟩
  · go_wp2_with fail
    go_ret
    exact ⟨rfl, HS.out⟩
theorem delete158_empty (f : Value) (a : Option Addr) (c : Nat) (w : World) :
    Calls Tryz.prog 158 #[.slice a 0 c, f] w fun e w' => e = .returned (.slice a 0 c) ∧ Below w.heap.size w w' := by
  have C := Lib.hid (idx152_empty f a c (fun _ => false) w)
  go_enter Tryz.func158, Tryz.ntmps158
  go_wp2_with fail
  refine (C.out).mono ?_
  rintro e w1 ⟨⟨r, rfl, hi⟩, hb⟩
  have HB := Lib.hid hb
  have e : r = -1 := by
    rcases hi with ⟨h, _⟩ | ⟨k, hk, _⟩
    · exact h
    · omega
  subst e
  clear hb hi
  go_wp2_with fail
  go_ret
  exact ⟨rfl, HB.out⟩
theorem delete158_no (K : Nat) (c1 c2 : Value) (b off c : Nat) (i r : Int) (S : World → Prop) (w : World) (hr : w.rangeAt b off [.int .i64 i, .int .u64 r])
    (hcall : ∀ (args : Array Value) (W : World), (callFunc K args).run Tryz.prog W = .ok (.enter K args) W)
    (h : Calls Tryz.prog K #[.agg #[.int .i64 i, .int .u64 r], c1, c2] w fun e w' => e = .returned (.bool false) ∧ S w') :
    Calls Tryz.prog 158 #[.slice (some ⟨b, off, none⟩) 1 c, .func (.func K) #[] #[c1, c2]] w fun e w' => e = .returned (.slice (some ⟨b, off, none⟩) 1 c) ∧ S w' := by
  have C := Lib.hid (idx152_one K c1 c2 b off c i r false S w hr hcall h)
  clear h hr
  go_enter Tryz.func158, Tryz.ntmps158
  go_wp2_with fail
  refine (C.out).mono ?_
  rintro e w1 ⟨rfl, hs⟩
  have HS := Lib.hid hs
  clear hs
  go_wp2_with fail
  go_ret
  exact ⟨rfl, HS.out⟩
theorem clear_spot (w : World) (b off c : Nat) (u v : Value) (h0 : w.cell? ⟨b, off, none⟩ = some u) (h1 : w.cell? ⟨b, off + 1, none⟩ = some v) (f0 : w.frozen? ⟨b, off, none⟩ = false) (f1 : w.frozen? ⟨b, off + 1, none⟩ = false) (ty : TypeId) :
    (Builtin.clear_ #[76] ty #[.slice (some ⟨b, off, none⟩) 1 c]).run Tryz.prog w = .ok (.tuple #[]) (w.setCells b off [.int .i64 0, .int .u64 0]) := by
  have hz : (Builtin.zeroCells (Value.agg #[.int .i64 0, .int .u64 0]).cells 1).toList = [.int .i64 0, .int .u64 0] := by simp [Builtin.zeroCells, Value.cells]; rfl
  have hst := run_storeCells_cells (P := Tryz.prog) b off [.int .i64 0, .int .u64 0] 0 w (by intro j hj; match j, hj with | 0, _ => simp [h0] | 1, _ => simp [h1]) (by intro j hj; match j, hj with | 0, _ => simpa using f0 | 1, _ => simpa using f1) (by intro v hv; simp at hv; rcases hv with rfl | rfl <;> rfl)
  simp only [Nat.add_zero] at hst
  simp [Builtin.clear_, run_underlying Tryz.underlying76, hz, hst]
set_option maxRecDepth 100000 in
theorem delete158_yes (K : Nat) (c1 c2 : Value) (b off c : Nat) (i r : Int) (S : World → Prop) (w : World) (hr : w.rangeAt b off [.int .i64 i, .int .u64 r]) (hc : 1 ≤ c)
    (hcall : ∀ (args : Array Value) (W : World), (callFunc K args).run Tryz.prog W = .ok (.enter K args) W)
    (hS : ∀ W, S W → W.cell? ⟨b, off, none⟩ = some (.int .i64 i) ∧ W.cell? ⟨b, off + 1, none⟩ = some (.int .u64 r) ∧ W.frozen? ⟨b, off, none⟩ = false ∧ W.frozen? ⟨b, off + 1, none⟩ = false)
    (h : Calls Tryz.prog K #[.agg #[.int .i64 i, .int .u64 r], c1, c2] w fun e w' => e = .returned (.bool true) ∧ S w') :
    Calls Tryz.prog 158 #[.slice (some ⟨b, off, none⟩) 1 c, .func (.func K) #[] #[c1, c2]] w fun e w' => e = .returned (.slice (some ⟨b, off, none⟩) 0 c) ∧ ∃ W, S W ∧ w' = W.setCells b off [.int .i64 0, .int .u64 0] := by
  have C := Lib.hid (idx152_one K c1 c2 b off c i r true S w hr hcall h)
  clear h hr
  go_enter Tryz.func158, Tryz.ntmps158
  go_wp2_with fail
  refine (C.out).mono ?_
  rintro e w1 ⟨rfl, hs⟩
  obtain ⟨q0, q1, f0, f1⟩ := hS _ hs
  have HS := Lib.hid hs
  clear hs
  have hcl := clear_spot w1 b off c _ _ q0 q1 f0 f1
  clear q0 q1 f0 f1
  go_wp2_with fail
  refine wp_loop_rounds 1 ?_
  rw [rounds_succ]
  go_wp2_with (simp only [hcl])
  go_ret
  exact ⟨rfl, _, HS.out, rfl⟩
end Go.Proofs.YteflpdhgojcmcaaGreatDoor
