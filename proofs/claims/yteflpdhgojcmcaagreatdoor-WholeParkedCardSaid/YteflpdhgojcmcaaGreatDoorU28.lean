/- A thread's run: one operation. No conditions but those that each theorem names. -/
import Derived.Test.YteflpdhgojcmcaaGreatDoorU01
import Derived.Test.YteflpdhgojcmcaaGreatDoorU27
namespace Go.Proofs.YteflpdhgojcmcaaGreatDoor
open Go.RowKit PSet PMat
/-- The turn of the operation that need not keep what is held, or of one behind it. -/
theorem zFree {l : List Oper} {Q : Exit → Act → World → Prop} {md : Region.Mode} {S : World → Prop} {z : Nat} (i : Nat) {oi : Oper} {fuel : Nat} {listed : Array Bool} {a : Act} {w : World} (hi : nth l i = some oi) (hr : Region.ready md l.toArray listed = [i]) (hz : (listed.setIfInBounds i true).getD z false = true)
    (h : ∀ K' : Act → World → Prop, Shut (∀ a w, wpAnyZ Tryz.prog md l.toArray Q S z fuel (listed.setIfInBounds i true) a w → K' a w) → if Region.wanted oi (yielded l.toArray a.tmps) = true then Oper.wp Tryz.prog oi a w K' Q else K' (a.put oi.dst undef) w) :
    wpAnyZ Tryz.prog md l.toArray Q S z (fuel + 1) listed a w := by
  refine zReady hr (by simp) fun j hj => ?_
  have hji : j = i := by simpa using hj
  subst hji
  exact wpOp_step (nth_spec l j oi hi) (fun K' hK => h K' (fun a w hW => hK a w ⟨fun hn => (by rw [hz] at hn; cases hn), hW⟩))
theorem put_new (W : World) (o o' : Obj) : (W.alloc o).putObj W.heap.size o' = W.alloc o' := by
  have h : (W.heap.push o).setIfInBounds W.heap.size o' = W.heap.push o' := by
    apply Array.ext'
    simp
  show { W with heap := (W.heap.push o).setIfInBounds W.heap.size o' } = { W with heap := W.heap.push o' }
  rw [h]
theorem run_put_next (T K E : TypeId) (c : Nat) (es : Array MapEntry) (v : Value) (x : Int) (W : World) (hT : Tryz.prog.underlying T = some (.map K E)) (hK : Tryz.prog.underlying K = some (.int .i64)) (hf : ∀ w, (Instr.findKey K (.int .i64 x) es.toList).run Tryz.prog w = .ok none w) :
    (Instr.mapUpdate T (.map (some W.heap.size)) (.int .i64 x) v).run Tryz.prog (W.alloc (.map es c)) = .ok () (W.alloc (.map (es.push { key := .int .i64 x, val := v, born := c }) (c + 1))) := by
  have hb := Go.heap_alloc_new W (.map es c)
  have h1 := check_int false 9999 K x (W.alloc (.map es c)) hK
  unfold Instr.mapUpdate
  simp only [Sem.run_bind, run_underlying hT, Result.andThen_ok, get_map _ _ _ _ hb]
  simp only [Nat.reduceAdd] at h1
  simp only [h1, hf, Result.andThen_ok, set_map _ _ _ _ _ hb]
  rw [put_new]
def doE (k : Int) (f b : Nat) : MapEntry := { key := .int .i64 k, val := .func (.func f) #[] #[], born := b }
def does4 : Array MapEntry := #[doE 1 115 0, doE 2 116 1, doE 3 117 2, doE 4 118 3]
theorem under223 : Tryz.prog.underlying 223 = some (.map 3 221) := by kernel_rfl
theorem put1 (W : World) : (Instr.mapUpdate 223 (.map (some W.heap.size)) (.int .i64 1) (.func (.func 115) #[] #[])).run Tryz.prog (W.alloc (.map #[] 0)) = .ok () (W.alloc (.map #[doE 1 115 0] 1)) :=
  run_put_next 223 3 221 0 #[] _ 1 W under223 Tryz.underlying3 (fun w => find_none 3 1 w Tryz.underlying3)
theorem put2 (W : World) : (Instr.mapUpdate 223 (.map (some W.heap.size)) (.int .i64 2) (.func (.func 116) #[] #[])).run Tryz.prog (W.alloc (.map #[doE 1 115 0] 1)) = .ok () (W.alloc (.map #[doE 1 115 0, doE 2 116 1] 2)) :=
  run_put_next 223 3 221 1 #[doE 1 115 0] _ 2 W under223 Tryz.underlying3 (fun w => by simp [Instr.findKey, Instr.findNow, Instr.sameNow, doE, run_underlying Tryz.underlying3])
theorem put3 (W : World) : (Instr.mapUpdate 223 (.map (some W.heap.size)) (.int .i64 3) (.func (.func 117) #[] #[])).run Tryz.prog (W.alloc (.map #[doE 1 115 0, doE 2 116 1] 2)) = .ok () (W.alloc (.map #[doE 1 115 0, doE 2 116 1, doE 3 117 2] 3)) :=
  run_put_next 223 3 221 2 #[doE 1 115 0, doE 2 116 1] _ 3 W under223 Tryz.underlying3 (fun w => by simp [Instr.findKey, Instr.findNow, Instr.sameNow, doE, run_underlying Tryz.underlying3])
theorem put4 (W : World) : (Instr.mapUpdate 223 (.map (some W.heap.size)) (.int .i64 4) (.func (.func 118) #[] #[])).run Tryz.prog (W.alloc (.map #[doE 1 115 0, doE 2 116 1, doE 3 117 2] 3)) = .ok () (W.alloc (.map does4 4)) :=
  run_put_next 223 3 221 3 #[doE 1 115 0, doE 2 116 1, doE 3 117 2] _ 4 W under223 Tryz.underlying3 (fun w => by simp [Instr.findKey, Instr.findNow, Instr.sameNow, doE, run_underlying Tryz.underlying3])
theorem look_yes (W : World) (k : Int) (f i : Nat) (hf : ∀ w, (Instr.findKey 3 (.int .i64 k) does4.toList).run Tryz.prog w = .ok (some (i, .func (.func f) #[] #[])) w) :
    (Instr.lookup 223 (.map (some W.heap.size)) (.int .i64 k) true).run Tryz.prog (W.alloc (.map does4 4)) = .ok (.tuple #[.func (.func f) #[] #[], .bool true]) (W.alloc (.map does4 4)) := by
  have hb := Go.heap_alloc_new W (.map does4 4)
  have h1 := check_int does4.isEmpty 9999 3 k (W.alloc (.map does4 4)) Tryz.underlying3
  unfold Instr.lookup
  simp only [Sem.run_bind, run_underlying under223, Result.andThen_ok, get_map _ _ _ _ hb, Sem.run_pure]
  simp only [Nat.reduceAdd] at h1
  simp only [h1, hf, Result.andThen_ok, Sem.run_pure, Sem.run_bind, if_true]
theorem look1 (W : World) : (Instr.lookup 223 (.map (some W.heap.size)) (.int .i64 1) true).run Tryz.prog (W.alloc (.map does4 4)) = .ok (.tuple #[.func (.func 115) #[] #[], .bool true]) (W.alloc (.map does4 4)) :=
  look_yes W 1 115 0 (fun w => by simp [Instr.findKey, Instr.findNow, Instr.sameNow, does4, doE, run_underlying Tryz.underlying3])
theorem look2 (W : World) : (Instr.lookup 223 (.map (some W.heap.size)) (.int .i64 2) true).run Tryz.prog (W.alloc (.map does4 4)) = .ok (.tuple #[.func (.func 116) #[] #[], .bool true]) (W.alloc (.map does4 4)) :=
  look_yes W 2 116 1 (fun w => by simp [Instr.findKey, Instr.findNow, Instr.sameNow, does4, doE, run_underlying Tryz.underlying3])
theorem look0 (W : World) : ∃ z, (Instr.lookup 223 (.map (some W.heap.size)) (.int .i64 0) true).run Tryz.prog (W.alloc (.map does4 4)) = .ok (.tuple #[z, .bool false]) (W.alloc (.map does4 4)) := by
  have hb := Go.heap_alloc_new W (.map does4 4)
  have h1 := check_int does4.isEmpty 9999 3 0 (W.alloc (.map does4 4)) Tryz.underlying3
  have hf : ∀ w, (Instr.findKey 3 (.int .i64 0) does4.toList).run Tryz.prog w = .ok none w := fun w => by simp [Instr.findKey, Instr.findNow, Instr.sameNow, does4, doE, run_underlying Tryz.underlying3]
  obtain ⟨z, hz⟩ : ∃ z, ∀ w, (zeroValue 221).run Tryz.prog w = .ok z w := ⟨.nilFunc, fun w => by kernel_rfl⟩
  refine ⟨z, ?_⟩
  unfold Instr.lookup
  simp only [Sem.run_bind, run_underlying under223, Result.andThen_ok, get_map _ _ _ _ hb, Sem.run_pure]
  simp only [Nat.reduceAdd] at h1
  simp only [h1, hf, hz, Result.andThen_ok, Sem.run_pure, Sem.run_bind, if_true]
theorem makeMap223 (w : World) : (Instr.makeMap 223 none).run Tryz.prog w = .ok (.map (some w.heap.size)) (w.alloc (.map #[] 0)) := by kernel_rfl
def ThrM.at (m : ThrM) (c : CpuM) : ThrM := { m with cpu := c }
set_option maxRecDepth 100000 in
set_option maxHeartbeats 1000000 in
theorem thRunGo (kd : Kd) (B : Nat) (w : World) (t r : Nat) (m : ThrM) (e : EngM) (evs : List EvM) (c2 : CpuM) (ht : ThrS B w t r m) (h : RecS kd B w r e evs) (hB : B ≤ w.heap.size) (hstep : stepM m.ops m.cpu (e.vals.length : Int) m.fuel = some (c2, .go)) (hr2 : c2.regs.length = 8) (hu2 : c2.used ≤ 100000)  :
    Calls Tryz.prog 73 #[.pointer (some ⟨t, 0, none⟩)] w fun en w' => en = .returned (.tuple #[]) ∧ (ThrS B w' t r (m.at c2) ∧ RecS kd B w' r e evs) ∧ LimH t B w w' := by
  obtain ⟨ov, ht⟩ := ht
  obtain ⟨W, hW⟩ : ∃ W, W = w.alloc (.cells #[.int .i64 0, .int .i64 0, .int .i64 0, .int .i64 0, .int .i64 0, .int .i64 0, .int .i64 0] 217) := ⟨_, rfl⟩
  have hbW : Below w.heap.size w W := by rw [hW]; exact (Below.refl _ _).alloc (Nat.le_refl _) _
  have hrW : W.heap[w.heap.size]? = some (.cells #[.int .i64 0, .int .i64 0, .int .i64 0, .int .i64 0, .int .i64 0, .int .i64 0, .int .i64 0] 217 (0, 0)) := by rw [hW]; exact Go.heap_alloc_new _ _
  have hlt : w.heap.size < W.heap.size := block_lt hrW
  have hl0 : ∀ E, Lim E B w W.drew := fun E => Lim.of_below hbW.drew
  have hBW : B ≤ W.drew.heap.size := Nat.le_trans hB hbW.size
  have HREC := Lib.hid (h.lim (hl0 (fun _ => false)) (by decide))
  have C1 := Lib.hid (rmValues kd B W.drew r e evs HREC.out)
  have HH := Lib.hid (ht.lim (hl0 (fun _ => false)) rfl rfl)
  have HRW := Lib.hid (show W.drew.heap[w.heap.size]? = some (.cells #[.int .i64 0, .int .i64 0, .int .i64 0, .int .i64 0, .int .i64 0, .int .i64 0, .int .i64 0] 217 (0, 0)) from hrW)
  have HL0 := Lib.hid (LimH.of_below (t := t) (B := B) hbW.drew)
  obtain ⟨_, va, vc, rfl, hva⟩ := RowAt.of_owns HH.out.ops
  have C2 := Lib.hid (fun (b off : Nat) (U : World) (hat : OpsAt U b off m.ops) => step_any b off vc m.ops m.cpu c2 _ (e.vals.length : Int) m.fuel U HH.out.right hat HH.out.regs (Nat.le_trans HH.out.used (by omega)) hstep)
  simp only [AskM.cells, AskM.go, askC] at C2
  obtain ⟨y0, y1, y2, -, -, -, -, -, -⟩ := HH.out.cells
  have hn1 : 0 < m.ops.length := by
    have := HH.out.right
    simp only [rightL, Bool.and_eq_true, decide_eq_true_eq] at this
    exact this.1.1
  obtain ⟨b, off, rfl, hrng⟩ : ∃ b off, va = some ⟨b, off, none⟩ ∧ b < W.drew.heap.size ∧ W.drew.rangeAt b off (opsC m.ops) := by
    obtain ⟨b, off, e1, e2, e3⟩ := hva hn1
    exact ⟨b, off, e1, e2, e3⟩
  have HRNG := Lib.hid hrng
  have hcl : m.cpu.cells.length = 19 := CpuM.len HH.out.regs
  have HCL := Lib.hid hcl
  generalize hvn : m.ops.length = vn at *
  have HVN := Lib.hid hvn
  clear hvn
  have hS0 : (fun w' : World => w'.cell? ⟨t, 0, none⟩ = some (.iface 74 (.pointer (some ⟨r, 0, none⟩))) ∧ w'.cell? ⟨t, 1, none⟩ = some (.slice (some ⟨b, off, none⟩) vn vc) ∧ w'.cell? ⟨t, 18, none⟩ = some (.int .i64 m.fuel) ∧ w'.rangeAt t 19 m.cpu.cells) W.drew := ⟨y0, y1, y2, HH.out.cpuAt⟩
  have HINFO := Lib.hid (info94 hcl)
  clear h ht hl0 hbW hrW y0 y1 y2 hva hn1 hstep hrng hcl
  go_enter Tryz.func73, Tryz.ntmps73
  go_upto_region 1 with fail
  rw [← hW]
  clear hW
  refine zRegion 25 (S := (fun w' : World => w'.cell? ⟨t, 0, none⟩ = some (.iface 74 (.pointer (some ⟨r, 0, none⟩))) ∧ w'.cell? ⟨t, 1, none⟩ = some (.slice (some ⟨b, off, none⟩) vn vc) ∧ w'.cell? ⟨t, 18, none⟩ = some (.int .i64 m.fuel) ∧ w'.rangeAt t 19 m.cpu.cells)) (by kernel_rfl) hS0 (fun hHeld => ?_)
  clear hS0
  refine zd 0 (v := ?_) ?_ ?_
  rotate_left
  · rintro w ⟨hS1, hS2, hS3, hS4⟩; go_simp; try with_reducible rfl
  simp only [Act.put, pt1, pt2, pt3]
  refine zd 1 (v := ?_) ?_ ?_
  rotate_left
  · rintro w ⟨hS1, hS2, hS3, hS4⟩; go_simp; try with_reducible rfl
  simp only [Act.put, pt1, pt2, pt3]
  refine zd 2 (v := ?_) ?_ ?_
  rotate_left
  · rintro w ⟨hS1, hS2, hS3, hS4⟩; go_simp; try with_reducible rfl
  simp only [Act.put, pt1, pt2, pt3]
  refine zd 3 (v := ?_) ?_ ?_
  rotate_left
  · rintro w ⟨hS1, hS2, hS3, hS4⟩; go_simp; try with_reducible rfl
  simp only [Act.put, pt1, pt2, pt3]
  refine zd 4 (v := ?_) ?_ ?_
  rotate_left
  · rintro w ⟨hS1, hS2, hS3, hS4⟩; go_simp; try with_reducible rfl
  simp only [Act.put, pt1, pt2, pt3]
  refine zd 5 (v := ?_) ?_ ?_
  rotate_left
  · rintro w ⟨hS1, hS2, hS3, hS4⟩; go_simp; try with_reducible rfl
  simp only [Act.put, pt1, pt2, pt3]
  refine zd 6 (v := ?_) ?_ ?_
  rotate_left
  · rintro w ⟨hS1, hS2, hS3, hS4⟩; go_simp; try with_reducible rfl
  simp only [Act.put, pt1, pt2, pt3]
  refine zd 7 (v := ?_) ?_ ?_
  rotate_left
  · rintro w ⟨hS1, hS2, hS3, hS4⟩; go_simp; try with_reducible rfl
  simp only [Act.put, pt1, pt2, pt3]
  refine zLong 8 94 _ t 19 m.cpu.cells _ rfl rfl (by kernel_rfl) (by kernel_rfl) (by kernel_rfl) (by kernel_rfl) (fun _ _ _ h => h) (by rfl) rfl Tryz.underlying94 rfl HINFO.out (fun _ h => h.2.2.2) (by assumption) ?_
  simp only [Act.put, pt1, pt2, pt3]
  refine zd 9 (v := ?_) ?_ ?_
  rotate_left
  · rintro w ⟨hS1, hS2, hS3, hS4⟩; go_simp; try with_reducible rfl
  simp only [Act.put, pt1, pt2, pt3]
  refine zd 10 (v := ?_) ?_ ?_
  rotate_left
  · rintro w ⟨hS1, hS2, hS3, hS4⟩; go_simp; try with_reducible rfl
  simp only [Act.put, pt1, pt2, pt3]
  refine zd 11 (v := ?_) ?_ ?_
  rotate_left
  · rintro w ⟨hS1, hS2, hS3, hS4⟩; go_simp; try with_reducible rfl
  simp only [Act.put, pt1, pt2, pt3]
  refine zd 12 (v := ?_) ?_ ?_
  rotate_left
  · rintro w ⟨hS1, hS2, hS3, hS4⟩; go_simp; try with_reducible rfl
  simp only [Act.put, pt1, pt2, pt3]
  refine zd 15 (v := ?_) ?_ ?_
  rotate_left
  · rintro w ⟨hS1, hS2, hS3, hS4⟩; go_simp; try with_reducible rfl
  simp only [Act.put, pt1, pt2, pt3]
  refine zd 16 (v := ?_) ?_ ?_
  rotate_left
  · rintro w ⟨hS1, hS2, hS3, hS4⟩; go_simp; try with_reducible rfl
  simp only [Act.put, pt1, pt2, pt3]
  refine zd 17 (v := ?_) ?_ ?_
  rotate_left
  · rintro w ⟨hS1, hS2, hS3, hS4⟩; go_simp; try with_reducible rfl
  simp only [Act.put, pt1, pt2, pt3]
  refine zd 18 (v := ?_) ?_ ?_
  rotate_left
  · rintro w ⟨hS1, hS2, hS3, hS4⟩; go_simp; try with_reducible rfl
  simp only [Act.put, pt1, pt2, pt3]
  refine zcl 13 (fun K' hK => ?_)
  go_simp
  go_wp2_with fail
  refine (C1.out).mono ?_
  rintro en y ⟨v', rfl, hown, hby⟩
  obtain ⟨_, ua, uc, rfl, _⟩ := RowAt.of_owns hown
  have hly : ∀ E, Lim E B W.drew y := fun E => Lim.of_below hby
  have HY := Lib.hid (HH.out.lim (hly (fun _ => false)) rfl rfl)
  have RY := Lib.hid (And.intro (HREC.out.lim (hly (fun _ => false)) (by decide)) (HL0.out.trans (LimH.of_below (t := t) (B := B) hby)))
  have AY := Lib.hid (block_lim HRW.out (hly (fun _ => false)) rfl)
  obtain ⟨x0, x1, x2, -, -, -, -, -, -⟩ := HY.out.cells
  have hHy : (fun w' : World => w'.cell? ⟨t, 0, none⟩ = some (.iface 74 (.pointer (some ⟨r, 0, none⟩))) ∧ w'.cell? ⟨t, 1, none⟩ = some (.slice (some ⟨b, off, none⟩) vn vc) ∧ w'.cell? ⟨t, 18, none⟩ = some (.int .i64 m.fuel) ∧ w'.rangeAt t 19 m.cpu.cells) y := ⟨x0, x1, x2, HY.out.cpuAt⟩
  have HAT := Lib.hid (ops_of_range (Nat.lt_of_lt_of_le HRNG.out.1 hby.size) (fun j v hj => (hby.cell (p := ⟨b, off + j, none⟩) HRNG.out.1).trans (HRNG.out.2 j v hj)))
  have lty := hby.size
  clear hown hby hly HH HREC HL0 HRW x0 x1 x2 HRNG hBW
  go_wp2_with fail
  refine hK.out _ _ ?_ (fun hHeld => ?_)
  · exact hHy
  clear hK K' hHy
  try simp only [Act.put, pt1, pt2, pt3]
  refine zcl 14 (fun K' hK => ?_)
  go_simp
  refine hK.out _ _ (by assumption) (fun hHeld => ?_)
  clear hK K'
  try simp only [Act.put, pt1, pt2, pt3]
  have C2' := Lib.hid (C2.out b off y HAT.out)
  refine zcl 19 (fun K' hK => ?_)
  go_simp
  go_at_call 113
  refine (C2'.out).mono ?_
  rintro en y2 ⟨rfl, hby⟩
  have hly : ∀ E, Lim E B y y2 := fun E => Lim.of_below hby
  have HY2 := Lib.hid (HY.out.lim (hly (fun _ => false)) rfl rfl)
  have RY2 := Lib.hid (And.intro (RY.out.1.lim (hly (fun _ => false)) (by decide)) (RY.out.2.trans (LimH.of_below (t := t) (B := B) hby)))
  have AY2 := Lib.hid (block_lim AY.out (hly (fun _ => false)) rfl)
  obtain ⟨x0, x1, x2, -, -, -, -, -, -⟩ := HY2.out.cells
  have hHy : (fun w' : World => w'.cell? ⟨t, 0, none⟩ = some (.iface 74 (.pointer (some ⟨r, 0, none⟩))) ∧ w'.cell? ⟨t, 1, none⟩ = some (.slice (some ⟨b, off, none⟩) vn vc) ∧ w'.cell? ⟨t, 18, none⟩ = some (.int .i64 m.fuel) ∧ w'.rangeAt t 19 m.cpu.cells) y2 := ⟨x0, x1, x2, HY2.out.cpuAt⟩
  clear hby hly HY RY AY x0 x1 x2 C2' HAT
  go_wp2_with fail
  refine hK.out _ _ ?_ (fun hHeld => ?_)
  · exact hHy
  clear hK K' hHy
  try simp only [Act.put, pt1, pt2, pt3]
  refine zd 20 (v := ?_) ?_ ?_
  rotate_left
  · rintro w ⟨hS1, hS2, hS3, hS4⟩; go_simp; try with_reducible rfl
  simp only [Act.put, pt1, pt2, pt3]
  refine zd 21 (v := ?_) ?_ ?_
  rotate_left
  · rintro w ⟨hS1, hS2, hS3, hS4⟩; go_simp; try with_reducible rfl
  simp only [Act.put, pt1, pt2, pt3]
  refine zp 22 (v := ?_) ?_ ?_
  rotate_left
  · intro w; go_simp; try with_reducible rfl
  simp only [Act.put, pt1, pt2, pt3]
  refine zp 23 (v := ?_) ?_ ?_
  rotate_left
  · intro w; go_simp; try with_reducible rfl
  simp only [Act.put, pt1, pt2, pt3]
  refine zcl 24 (fun K' hK => ?_)
  go_simp
  refine hK.out _ _ (by assumption) (fun hHeld => ?_)
  clear hK K'
  try simp only [Act.put, pt1, pt2, pt3]
  refine zFree 25 rfl (by kernel_rfl) (by kernel_rfl) (fun K' hK => ?_)
  rw [if_pos (by rfl)]
  refine wp_store_mid 94 _ _ rfl t 19 c2.cells.toArray rfl rfl (by rw [show c2.cells.toArray.size = 19 by simpa using CpuM.len hr2]; exact HY2.out.there) (info94a (by simpa using CpuM.len hr2)) (all_of_one c2.all) ?_
  rw [List.toList_toArray]
  have hv := HY2.out.setCpu c2 hr2 hu2
  have hcv : LimT t B y2 (y2.setCells t 19 c2.cells) := thr_chg HY2.out (Chg.setCells (F := fun b => b = t) t (.inl rfl) _ 19 y2 (Chg.refl _ _))
  generalize y2.setCells t 19 c2.cells = V at *
  have TV := Lib.hid hv
  have RV := Lib.hid (And.intro (RY2.out.1.keep hcv) (RY2.out.2.trans (tt_ht hcv)))
  have AV := Lib.hid (block_lim AY2.out hcv.2 rfl)
  clear hv hcv HY2 RY2 AY2 hHeld
  refine hK.out _ _ ?_
  clear hK K'
  simp only [Act.put]
  obtain ⟨a0, a1, a2, a3, a4, a5, a6⟩ : V.cell? ⟨w.heap.size, 0, none⟩ = some (.int .i64 0) ∧ V.cell? ⟨w.heap.size, 1, none⟩ = some (.int .i64 0) ∧ V.cell? ⟨w.heap.size, 2, none⟩ = some (.int .i64 0) ∧ V.cell? ⟨w.heap.size, 3, none⟩ = some (.int .i64 0) ∧ V.cell? ⟨w.heap.size, 4, none⟩ = some (.int .i64 0) ∧ V.cell? ⟨w.heap.size, 5, none⟩ = some (.int .i64 0) ∧ V.cell? ⟨w.heap.size, 6, none⟩ = some (.int .i64 0) := ⟨cell_of_row _ _ 0 _ _ _ AV.out, cell_of_row _ _ 1 _ _ _ AV.out, cell_of_row _ _ 2 _ _ _ AV.out, cell_of_row _ _ 3 _ _ _ AV.out, cell_of_row _ _ 4 _ _ _ AV.out, cell_of_row _ _ 5 _ _ _ AV.out, cell_of_row _ _ 6 _ _ _ AV.out⟩
  have af := fun j => frozen_of_row _ _ j _ _ AV.out
  refine zFree 26 rfl (by kernel_rfl) (by kernel_rfl) (fun K' hK => ?_)
  go_simp
  refine hK.out _ _ ?_
  clear hK K'
  refine zDone (by kernel_rfl) ?_ _
  have hq := setCells_row w.heap.size 217 [.int .i64 0, .int .i64 0, .int .i64 0, .int .i64 0, .int .i64 0, .int .i64 0, .int .i64 0] _ 0 V AV.out
  have hcq : Chg (fun b => b = w.heap.size) V (V.setCells w.heap.size 0 [.int .i64 0, .int .i64 0, .int .i64 0, .int .i64 0, .int .i64 0, .int .i64 0, .int .i64 0]) := Chg.setCells (F := fun b => b = w.heap.size) w.heap.size (.inl rfl) _ 0 V (Chg.refl _ _)
  simp only [World.setCells, setAll, List.set_cons_zero, List.set_cons_succ, Nat.zero_add, Nat.reduceAdd] at hq hcq
  clear a0 a1 a2 a3 a4 a5 a6 af
  generalize (((((((V.setCell ⟨w.heap.size, 0, none⟩ (.int .i64 0)).setCell ⟨w.heap.size, 1, none⟩ (.int .i64 0)).setCell ⟨w.heap.size, 2, none⟩ (.int .i64 0)).setCell ⟨w.heap.size, 3, none⟩ (.int .i64 0)).setCell ⟨w.heap.size, 4, none⟩ (.int .i64 0)).setCell ⟨w.heap.size, 5, none⟩ (.int .i64 0)).setCell ⟨w.heap.size, 6, none⟩ (.int .i64 0)) = X at *
  have hXX := hcq
  have TX := Lib.hid (TV.out.lim (E := fun t => t == 217) (B' := B) (Chg.weak (F := fun b => b = w.heap.size) (G := InT (fun t => t == 217) B V) hcq fun i hi => .inl (by subst hi; exact ⟨hB, _, _, _, AV.out, rfl⟩)) rfl rfl)
  have RX := Lib.hid (And.intro (RV.out.1.lim (E := fun t => t == 217) (B' := B) (Chg.weak (F := fun b => b = w.heap.size) (G := InT (fun t => t == 217) B V) hcq fun i hi => .inl (by subst hi; exact ⟨hB, _, _, _, AV.out, rfl⟩)) (by decide)) (show LimH t B w X from Chg.trans (F := fun i => i = t ∨ InT RT B w i) (G := fun b => b = w.heap.size) RV.out.2 hcq fun i hi => .inr (by omega)))
  have AX := Lib.hid hq
  clear hq hcq hXX TV RV AV
  obtain ⟨a0, a1, a2, a3, a4, a5, a6⟩ : X.cell? ⟨w.heap.size, 0, none⟩ = some (.int .i64 0) ∧ X.cell? ⟨w.heap.size, 1, none⟩ = some (.int .i64 0) ∧ X.cell? ⟨w.heap.size, 2, none⟩ = some (.int .i64 0) ∧ X.cell? ⟨w.heap.size, 3, none⟩ = some (.int .i64 0) ∧ X.cell? ⟨w.heap.size, 4, none⟩ = some (.int .i64 0) ∧ X.cell? ⟨w.heap.size, 5, none⟩ = some (.int .i64 0) ∧ X.cell? ⟨w.heap.size, 6, none⟩ = some (.int .i64 0) := ⟨cell_of_row _ _ 0 _ _ _ AX.out, cell_of_row _ _ 1 _ _ _ AX.out, cell_of_row _ _ 2 _ _ _ AX.out, cell_of_row _ _ 3 _ _ _ AX.out, cell_of_row _ _ 4 _ _ _ AX.out, cell_of_row _ _ 5 _ _ _ AX.out, cell_of_row _ _ 6 _ _ _ AX.out⟩
  have hlX := block_lt AX.out
  have hmk := makeMap223
  have hp1 := put1
  have hp2 := put2
  have hp3 := put3
  have hp4 := put4
  obtain ⟨z, hl0⟩ := look0 X
  have hbM : Below X.heap.size X (X.alloc (.map does4 4)) := (Below.refl _ _).alloc (Nat.le_refl _) _
  have TM := Lib.hid (TX.out.lim (E := fun _ => false) (B' := B) (Lim.of_below hbM) rfl rfl)
  have RM := Lib.hid (And.intro (RX.out.1.lim (E := fun _ => false) (B' := B) (Lim.of_below hbM) (by decide)) (RX.out.2.trans (LimH.of_below (t := t) (B := B) hbM)))
  clear hbM
  go_wp2_with fail
  refine bodyPost_end (results_none rfl _ _ _) rfl ⟨rfl, ⟨⟨_, TM.out⟩, RM.out.1⟩, RM.out.2⟩
set_option maxRecDepth 100000 in
set_option maxHeartbeats 1000000 in
theorem thRunOver0 (kd : Kd) (B : Nat) (w : World) (t r : Nat) (m : ThrM) (e : EngM) (evs : List EvM) (c2 : CpuM) (ht : ThrS B w t r m) (h : RecS kd B w r e evs) (hB : B ≤ w.heap.size) (hstep : stepM m.ops m.cpu (e.vals.length : Int) m.fuel = some (c2, (.over 0))) (hr2 : c2.regs.length = 8) (hu2 : c2.used ≤ 100000) (st : Option StepM) (hl : e.live = some st) (hfew : e.log.length < 100000) (hB0 : 0 < B) (hf : evs.length < 90000) (hid : m.id = (e.cnt : Int)) (hT : Tab w) :
    Calls Tryz.prog 73 #[.pointer (some ⟨t, 0, none⟩)] w fun en w' => en = .returned (.tuple #[]) ∧ (ThrS B w' t r ((m.at c2).done) ∧ RecS kd B w' r (e.commit st) (evs ++ [⟨3, (e.cnt : Int), 0, 0, 0⟩])) ∧ LimH t B w w' := by
  obtain ⟨ov, ht⟩ := ht
  obtain ⟨W, hW⟩ : ∃ W, W = w.alloc (.cells #[.int .i64 0, .int .i64 0, .int .i64 0, .int .i64 0, .int .i64 0, .int .i64 0, .int .i64 0] 217) := ⟨_, rfl⟩
  have hbW : Below w.heap.size w W := by rw [hW]; exact (Below.refl _ _).alloc (Nat.le_refl _) _
  have hrW : W.heap[w.heap.size]? = some (.cells #[.int .i64 0, .int .i64 0, .int .i64 0, .int .i64 0, .int .i64 0, .int .i64 0, .int .i64 0] 217 (0, 0)) := by rw [hW]; exact Go.heap_alloc_new _ _
  have hlt : w.heap.size < W.heap.size := block_lt hrW
  have hl0 : ∀ E, Lim E B w W.drew := fun E => Lim.of_below hbW.drew
  have hBW : B ≤ W.drew.heap.size := Nat.le_trans hB hbW.size
  have HREC := Lib.hid (h.lim (hl0 (fun _ => false)) (by decide))
  have C1 := Lib.hid (rmValues kd B W.drew r e evs HREC.out)
  have HH := Lib.hid (ht.lim (hl0 (fun _ => false)) rfl rfl)
  have HRW := Lib.hid (show W.drew.heap[w.heap.size]? = some (.cells #[.int .i64 0, .int .i64 0, .int .i64 0, .int .i64 0, .int .i64 0, .int .i64 0, .int .i64 0] 217 (0, 0)) from hrW)
  have HL0 := Lib.hid (LimH.of_below (t := t) (B := B) hbW.drew)
  obtain ⟨_, va, vc, rfl, hva⟩ := RowAt.of_owns HH.out.ops
  have C2 := Lib.hid (fun (b off : Nat) (U : World) (hat : OpsAt U b off m.ops) => step_any b off vc m.ops m.cpu c2 _ (e.vals.length : Int) m.fuel U HH.out.right hat HH.out.regs (Nat.le_trans HH.out.used (by omega)) hstep)
  simp only [AskM.cells, AskM.over, askC] at C2
  obtain ⟨y0, y1, y2, -, -, -, -, -, -⟩ := HH.out.cells
  have hn1 : 0 < m.ops.length := by
    have := HH.out.right
    simp only [rightL, Bool.and_eq_true, decide_eq_true_eq] at this
    exact this.1.1
  obtain ⟨b, off, rfl, hrng⟩ : ∃ b off, va = some ⟨b, off, none⟩ ∧ b < W.drew.heap.size ∧ W.drew.rangeAt b off (opsC m.ops) := by
    obtain ⟨b, off, e1, e2, e3⟩ := hva hn1
    exact ⟨b, off, e1, e2, e3⟩
  have HRNG := Lib.hid hrng
  have hcl : m.cpu.cells.length = 19 := CpuM.len HH.out.regs
  have HCL := Lib.hid hcl
  generalize hvn : m.ops.length = vn at *
  have HVN := Lib.hid hvn
  clear hvn
  have hS0 : (fun w' : World => w'.cell? ⟨t, 0, none⟩ = some (.iface 74 (.pointer (some ⟨r, 0, none⟩))) ∧ w'.cell? ⟨t, 1, none⟩ = some (.slice (some ⟨b, off, none⟩) vn vc) ∧ w'.cell? ⟨t, 18, none⟩ = some (.int .i64 m.fuel) ∧ w'.rangeAt t 19 m.cpu.cells) W.drew := ⟨y0, y1, y2, HH.out.cpuAt⟩
  have HINFO := Lib.hid (info94 hcl)
  clear h ht hl0 hbW hrW y0 y1 y2 hva hn1 hstep hrng hcl
  go_enter Tryz.func73, Tryz.ntmps73
  go_upto_region 1 with fail
  rw [← hW]
  clear hW
  refine zRegion 25 (S := (fun w' : World => w'.cell? ⟨t, 0, none⟩ = some (.iface 74 (.pointer (some ⟨r, 0, none⟩))) ∧ w'.cell? ⟨t, 1, none⟩ = some (.slice (some ⟨b, off, none⟩) vn vc) ∧ w'.cell? ⟨t, 18, none⟩ = some (.int .i64 m.fuel) ∧ w'.rangeAt t 19 m.cpu.cells)) (by kernel_rfl) hS0 (fun hHeld => ?_)
  clear hS0
  refine zd 0 (v := ?_) ?_ ?_
  rotate_left
  · rintro w ⟨hS1, hS2, hS3, hS4⟩; go_simp; try with_reducible rfl
  simp only [Act.put, pt1, pt2, pt3]
  refine zd 1 (v := ?_) ?_ ?_
  rotate_left
  · rintro w ⟨hS1, hS2, hS3, hS4⟩; go_simp; try with_reducible rfl
  simp only [Act.put, pt1, pt2, pt3]
  refine zd 2 (v := ?_) ?_ ?_
  rotate_left
  · rintro w ⟨hS1, hS2, hS3, hS4⟩; go_simp; try with_reducible rfl
  simp only [Act.put, pt1, pt2, pt3]
  refine zd 3 (v := ?_) ?_ ?_
  rotate_left
  · rintro w ⟨hS1, hS2, hS3, hS4⟩; go_simp; try with_reducible rfl
  simp only [Act.put, pt1, pt2, pt3]
  refine zd 4 (v := ?_) ?_ ?_
  rotate_left
  · rintro w ⟨hS1, hS2, hS3, hS4⟩; go_simp; try with_reducible rfl
  simp only [Act.put, pt1, pt2, pt3]
  refine zd 5 (v := ?_) ?_ ?_
  rotate_left
  · rintro w ⟨hS1, hS2, hS3, hS4⟩; go_simp; try with_reducible rfl
  simp only [Act.put, pt1, pt2, pt3]
  refine zd 6 (v := ?_) ?_ ?_
  rotate_left
  · rintro w ⟨hS1, hS2, hS3, hS4⟩; go_simp; try with_reducible rfl
  simp only [Act.put, pt1, pt2, pt3]
  refine zd 7 (v := ?_) ?_ ?_
  rotate_left
  · rintro w ⟨hS1, hS2, hS3, hS4⟩; go_simp; try with_reducible rfl
  simp only [Act.put, pt1, pt2, pt3]
  refine zLong 8 94 _ t 19 m.cpu.cells _ rfl rfl (by kernel_rfl) (by kernel_rfl) (by kernel_rfl) (by kernel_rfl) (fun _ _ _ h => h) (by rfl) rfl Tryz.underlying94 rfl HINFO.out (fun _ h => h.2.2.2) (by assumption) ?_
  simp only [Act.put, pt1, pt2, pt3]
  refine zd 9 (v := ?_) ?_ ?_
  rotate_left
  · rintro w ⟨hS1, hS2, hS3, hS4⟩; go_simp; try with_reducible rfl
  simp only [Act.put, pt1, pt2, pt3]
  refine zd 10 (v := ?_) ?_ ?_
  rotate_left
  · rintro w ⟨hS1, hS2, hS3, hS4⟩; go_simp; try with_reducible rfl
  simp only [Act.put, pt1, pt2, pt3]
  refine zd 11 (v := ?_) ?_ ?_
  rotate_left
  · rintro w ⟨hS1, hS2, hS3, hS4⟩; go_simp; try with_reducible rfl
  simp only [Act.put, pt1, pt2, pt3]
  refine zd 12 (v := ?_) ?_ ?_
  rotate_left
  · rintro w ⟨hS1, hS2, hS3, hS4⟩; go_simp; try with_reducible rfl
  simp only [Act.put, pt1, pt2, pt3]
  refine zd 15 (v := ?_) ?_ ?_
  rotate_left
  · rintro w ⟨hS1, hS2, hS3, hS4⟩; go_simp; try with_reducible rfl
  simp only [Act.put, pt1, pt2, pt3]
  refine zd 16 (v := ?_) ?_ ?_
  rotate_left
  · rintro w ⟨hS1, hS2, hS3, hS4⟩; go_simp; try with_reducible rfl
  simp only [Act.put, pt1, pt2, pt3]
  refine zd 17 (v := ?_) ?_ ?_
  rotate_left
  · rintro w ⟨hS1, hS2, hS3, hS4⟩; go_simp; try with_reducible rfl
  simp only [Act.put, pt1, pt2, pt3]
  refine zd 18 (v := ?_) ?_ ?_
  rotate_left
  · rintro w ⟨hS1, hS2, hS3, hS4⟩; go_simp; try with_reducible rfl
  simp only [Act.put, pt1, pt2, pt3]
  refine zcl 13 (fun K' hK => ?_)
  go_simp
  go_wp2_with fail
  refine (C1.out).mono ?_
  rintro en y ⟨v', rfl, hown, hby⟩
  obtain ⟨_, ua, uc, rfl, _⟩ := RowAt.of_owns hown
  have hly : ∀ E, Lim E B W.drew y := fun E => Lim.of_below hby
  have HY := Lib.hid (HH.out.lim (hly (fun _ => false)) rfl rfl)
  have RY := Lib.hid (And.intro (HREC.out.lim (hly (fun _ => false)) (by decide)) (HL0.out.trans (LimH.of_below (t := t) (B := B) hby)))
  have AY := Lib.hid (block_lim HRW.out (hly (fun _ => false)) rfl)
  obtain ⟨x0, x1, x2, -, -, -, -, -, -⟩ := HY.out.cells
  have hHy : (fun w' : World => w'.cell? ⟨t, 0, none⟩ = some (.iface 74 (.pointer (some ⟨r, 0, none⟩))) ∧ w'.cell? ⟨t, 1, none⟩ = some (.slice (some ⟨b, off, none⟩) vn vc) ∧ w'.cell? ⟨t, 18, none⟩ = some (.int .i64 m.fuel) ∧ w'.rangeAt t 19 m.cpu.cells) y := ⟨x0, x1, x2, HY.out.cpuAt⟩
  have HAT := Lib.hid (ops_of_range (Nat.lt_of_lt_of_le HRNG.out.1 hby.size) (fun j v hj => (hby.cell (p := ⟨b, off + j, none⟩) HRNG.out.1).trans (HRNG.out.2 j v hj)))
  have lty := hby.size
  clear hown hby hly HH HREC HL0 HRW x0 x1 x2 HRNG hBW
  go_wp2_with fail
  refine hK.out _ _ ?_ (fun hHeld => ?_)
  · exact hHy
  clear hK K' hHy
  try simp only [Act.put, pt1, pt2, pt3]
  refine zcl 14 (fun K' hK => ?_)
  go_simp
  refine hK.out _ _ (by assumption) (fun hHeld => ?_)
  clear hK K'
  try simp only [Act.put, pt1, pt2, pt3]
  have C2' := Lib.hid (C2.out b off y HAT.out)
  refine zcl 19 (fun K' hK => ?_)
  go_simp
  go_at_call 113
  refine (C2'.out).mono ?_
  rintro en y2 ⟨rfl, hby⟩
  have hly : ∀ E, Lim E B y y2 := fun E => Lim.of_below hby
  have HY2 := Lib.hid (HY.out.lim (hly (fun _ => false)) rfl rfl)
  have RY2 := Lib.hid (And.intro (RY.out.1.lim (hly (fun _ => false)) (by decide)) (RY.out.2.trans (LimH.of_below (t := t) (B := B) hby)))
  have AY2 := Lib.hid (block_lim AY.out (hly (fun _ => false)) rfl)
  obtain ⟨x0, x1, x2, -, -, -, -, -, -⟩ := HY2.out.cells
  have hHy : (fun w' : World => w'.cell? ⟨t, 0, none⟩ = some (.iface 74 (.pointer (some ⟨r, 0, none⟩))) ∧ w'.cell? ⟨t, 1, none⟩ = some (.slice (some ⟨b, off, none⟩) vn vc) ∧ w'.cell? ⟨t, 18, none⟩ = some (.int .i64 m.fuel) ∧ w'.rangeAt t 19 m.cpu.cells) y2 := ⟨x0, x1, x2, HY2.out.cpuAt⟩
  clear hby hly HY RY AY x0 x1 x2 C2' HAT
  go_wp2_with fail
  refine hK.out _ _ ?_ (fun hHeld => ?_)
  · exact hHy
  clear hK K' hHy
  try simp only [Act.put, pt1, pt2, pt3]
  refine zd 20 (v := ?_) ?_ ?_
  rotate_left
  · rintro w ⟨hS1, hS2, hS3, hS4⟩; go_simp; try with_reducible rfl
  simp only [Act.put, pt1, pt2, pt3]
  refine zd 21 (v := ?_) ?_ ?_
  rotate_left
  · rintro w ⟨hS1, hS2, hS3, hS4⟩; go_simp; try with_reducible rfl
  simp only [Act.put, pt1, pt2, pt3]
  refine zp 22 (v := ?_) ?_ ?_
  rotate_left
  · intro w; go_simp; try with_reducible rfl
  simp only [Act.put, pt1, pt2, pt3]
  refine zp 23 (v := ?_) ?_ ?_
  rotate_left
  · intro w; go_simp; try with_reducible rfl
  simp only [Act.put, pt1, pt2, pt3]
  refine zcl 24 (fun K' hK => ?_)
  go_simp
  refine hK.out _ _ (by assumption) (fun hHeld => ?_)
  clear hK K'
  try simp only [Act.put, pt1, pt2, pt3]
  refine zFree 25 rfl (by kernel_rfl) (by kernel_rfl) (fun K' hK => ?_)
  rw [if_pos (by rfl)]
  refine wp_store_mid 94 _ _ rfl t 19 c2.cells.toArray rfl rfl (by rw [show c2.cells.toArray.size = 19 by simpa using CpuM.len hr2]; exact HY2.out.there) (info94a (by simpa using CpuM.len hr2)) (all_of_one c2.all) ?_
  rw [List.toList_toArray]
  have hv := HY2.out.setCpu c2 hr2 hu2
  have hcv : LimT t B y2 (y2.setCells t 19 c2.cells) := thr_chg HY2.out (Chg.setCells (F := fun b => b = t) t (.inl rfl) _ 19 y2 (Chg.refl _ _))
  generalize y2.setCells t 19 c2.cells = V at *
  have TV := Lib.hid hv
  have RV := Lib.hid (And.intro (RY2.out.1.keep hcv) (RY2.out.2.trans (tt_ht hcv)))
  have AV := Lib.hid (block_lim AY2.out hcv.2 rfl)
  clear hv hcv HY2 RY2 AY2 hHeld
  refine hK.out _ _ ?_
  clear hK K'
  simp only [Act.put]
  obtain ⟨a0, a1, a2, a3, a4, a5, a6⟩ : V.cell? ⟨w.heap.size, 0, none⟩ = some (.int .i64 0) ∧ V.cell? ⟨w.heap.size, 1, none⟩ = some (.int .i64 0) ∧ V.cell? ⟨w.heap.size, 2, none⟩ = some (.int .i64 0) ∧ V.cell? ⟨w.heap.size, 3, none⟩ = some (.int .i64 0) ∧ V.cell? ⟨w.heap.size, 4, none⟩ = some (.int .i64 0) ∧ V.cell? ⟨w.heap.size, 5, none⟩ = some (.int .i64 0) ∧ V.cell? ⟨w.heap.size, 6, none⟩ = some (.int .i64 0) := ⟨cell_of_row _ _ 0 _ _ _ AV.out, cell_of_row _ _ 1 _ _ _ AV.out, cell_of_row _ _ 2 _ _ _ AV.out, cell_of_row _ _ 3 _ _ _ AV.out, cell_of_row _ _ 4 _ _ _ AV.out, cell_of_row _ _ 5 _ _ _ AV.out, cell_of_row _ _ 6 _ _ _ AV.out⟩
  have af := fun j => frozen_of_row _ _ j _ _ AV.out
  refine zFree 26 rfl (by kernel_rfl) (by kernel_rfl) (fun K' hK => ?_)
  go_simp
  refine hK.out _ _ ?_
  clear hK K'
  refine zDone (by kernel_rfl) ?_ _
  have hq := setCells_row w.heap.size 217 [.int .i64 5, .int .i64 0, .int .i64 0, .int .i64 0, .int .i64 0, .int .i64 0, .int .i64 0] _ 0 V AV.out
  have hcq : Chg (fun b => b = w.heap.size) V (V.setCells w.heap.size 0 [.int .i64 5, .int .i64 0, .int .i64 0, .int .i64 0, .int .i64 0, .int .i64 0, .int .i64 0]) := Chg.setCells (F := fun b => b = w.heap.size) w.heap.size (.inl rfl) _ 0 V (Chg.refl _ _)
  simp only [World.setCells, setAll, List.set_cons_zero, List.set_cons_succ, Nat.zero_add, Nat.reduceAdd] at hq hcq
  clear a0 a1 a2 a3 a4 a5 a6 af
  generalize (((((((V.setCell ⟨w.heap.size, 0, none⟩ (.int .i64 5)).setCell ⟨w.heap.size, 1, none⟩ (.int .i64 0)).setCell ⟨w.heap.size, 2, none⟩ (.int .i64 0)).setCell ⟨w.heap.size, 3, none⟩ (.int .i64 0)).setCell ⟨w.heap.size, 4, none⟩ (.int .i64 0)).setCell ⟨w.heap.size, 5, none⟩ (.int .i64 0)).setCell ⟨w.heap.size, 6, none⟩ (.int .i64 0)) = X at *
  have hXX := hcq
  have TX := Lib.hid (TV.out.lim (E := fun t => t == 217) (B' := B) (Chg.weak (F := fun b => b = w.heap.size) (G := InT (fun t => t == 217) B V) hcq fun i hi => .inl (by subst hi; exact ⟨hB, _, _, _, AV.out, rfl⟩)) rfl rfl)
  have RX := Lib.hid (And.intro (RV.out.1.lim (E := fun t => t == 217) (B' := B) (Chg.weak (F := fun b => b = w.heap.size) (G := InT (fun t => t == 217) B V) hcq fun i hi => .inl (by subst hi; exact ⟨hB, _, _, _, AV.out, rfl⟩)) (by decide)) (show LimH t B w X from Chg.trans (F := fun i => i = t ∨ InT RT B w i) (G := fun b => b = w.heap.size) RV.out.2 hcq fun i hi => .inr (by omega)))
  have AX := Lib.hid hq
  clear hq hcq hXX TV RV AV
  obtain ⟨a0, a1, a2, a3, a4, a5, a6⟩ : X.cell? ⟨w.heap.size, 0, none⟩ = some (.int .i64 5) ∧ X.cell? ⟨w.heap.size, 1, none⟩ = some (.int .i64 0) ∧ X.cell? ⟨w.heap.size, 2, none⟩ = some (.int .i64 0) ∧ X.cell? ⟨w.heap.size, 3, none⟩ = some (.int .i64 0) ∧ X.cell? ⟨w.heap.size, 4, none⟩ = some (.int .i64 0) ∧ X.cell? ⟨w.heap.size, 5, none⟩ = some (.int .i64 0) ∧ X.cell? ⟨w.heap.size, 6, none⟩ = some (.int .i64 0) := ⟨cell_of_row _ _ 0 _ _ _ AX.out, cell_of_row _ _ 1 _ _ _ AX.out, cell_of_row _ _ 2 _ _ _ AX.out, cell_of_row _ _ 3 _ _ _ AX.out, cell_of_row _ _ 4 _ _ _ AX.out, cell_of_row _ _ 5 _ _ _ AX.out, cell_of_row _ _ 6 _ _ _ AX.out⟩
  have hlX := block_lt AX.out
  have TB := Lib.hid (hT.below hB0 (LimH.to_below RX.out.2 hB TX.out.base))
  have hBX : B ≤ X.heap.size := Nat.le_trans hB RX.out.2.size
  have CO := Lib.hid (thOver0 kd B X t r (m.at c2) e evs st ⟨_, TX.out⟩ RX.out.1 hBX hB0 hf hl hid hfew TB.out)
  go_wp2_with fail
  refine (CO.out).mono ?_
  rintro en y9 ⟨rfl, hp, hq⟩
  have HP := Lib.hid (And.intro hp (RX.out.2.trans hq))
  clear hp hq
  go_wp2_with fail
  refine bodyPost_ret (results_none rfl _ _ _) rfl ⟨rfl, HP.out.1, HP.out.2⟩
set_option maxRecDepth 100000 in
set_option maxHeartbeats 1000000 in
theorem thRunOver1 (kd : Kd) (B : Nat) (w : World) (t r : Nat) (m : ThrM) (e : EngM) (evs : List EvM) (c2 : CpuM) (ht : ThrS B w t r m) (h : RecS kd B w r e evs) (hB : B ≤ w.heap.size) (hstep : stepM m.ops m.cpu (e.vals.length : Int) m.fuel = some (c2, (.over 1))) (hr2 : c2.regs.length = 8) (hu2 : c2.used ≤ 100000) (st : Option StepM) (hrd : m.reads ≠ 0) (hl : e.live = some st) (hfew : e.log.length < 100000) (hB0 : 0 < B) (hf : evs.length < 90000) (hid : m.id = (e.cnt : Int)) (hT : Tab w) :
    Calls Tryz.prog 73 #[.pointer (some ⟨t, 0, none⟩)] w fun en w' => en = .returned (.tuple #[]) ∧ (ThrS B w' t r ((m.at c2).stop 1) ∧ RecS kd B w' r (e.over false st) (evs ++ [⟨4, (e.cnt : Int), 0, 0, 0⟩])) ∧ LimH t B w w' := by
  obtain ⟨ov, ht⟩ := ht
  obtain ⟨W, hW⟩ : ∃ W, W = w.alloc (.cells #[.int .i64 0, .int .i64 0, .int .i64 0, .int .i64 0, .int .i64 0, .int .i64 0, .int .i64 0] 217) := ⟨_, rfl⟩
  have hbW : Below w.heap.size w W := by rw [hW]; exact (Below.refl _ _).alloc (Nat.le_refl _) _
  have hrW : W.heap[w.heap.size]? = some (.cells #[.int .i64 0, .int .i64 0, .int .i64 0, .int .i64 0, .int .i64 0, .int .i64 0, .int .i64 0] 217 (0, 0)) := by rw [hW]; exact Go.heap_alloc_new _ _
  have hlt : w.heap.size < W.heap.size := block_lt hrW
  have hl0 : ∀ E, Lim E B w W.drew := fun E => Lim.of_below hbW.drew
  have hBW : B ≤ W.drew.heap.size := Nat.le_trans hB hbW.size
  have HREC := Lib.hid (h.lim (hl0 (fun _ => false)) (by decide))
  have C1 := Lib.hid (rmValues kd B W.drew r e evs HREC.out)
  have HH := Lib.hid (ht.lim (hl0 (fun _ => false)) rfl rfl)
  have HRW := Lib.hid (show W.drew.heap[w.heap.size]? = some (.cells #[.int .i64 0, .int .i64 0, .int .i64 0, .int .i64 0, .int .i64 0, .int .i64 0, .int .i64 0] 217 (0, 0)) from hrW)
  have HL0 := Lib.hid (LimH.of_below (t := t) (B := B) hbW.drew)
  obtain ⟨_, va, vc, rfl, hva⟩ := RowAt.of_owns HH.out.ops
  have C2 := Lib.hid (fun (b off : Nat) (U : World) (hat : OpsAt U b off m.ops) => step_any b off vc m.ops m.cpu c2 _ (e.vals.length : Int) m.fuel U HH.out.right hat HH.out.regs (Nat.le_trans HH.out.used (by omega)) hstep)
  simp only [AskM.cells, AskM.over, askC] at C2
  obtain ⟨y0, y1, y2, -, -, -, -, -, -⟩ := HH.out.cells
  have hn1 : 0 < m.ops.length := by
    have := HH.out.right
    simp only [rightL, Bool.and_eq_true, decide_eq_true_eq] at this
    exact this.1.1
  obtain ⟨b, off, rfl, hrng⟩ : ∃ b off, va = some ⟨b, off, none⟩ ∧ b < W.drew.heap.size ∧ W.drew.rangeAt b off (opsC m.ops) := by
    obtain ⟨b, off, e1, e2, e3⟩ := hva hn1
    exact ⟨b, off, e1, e2, e3⟩
  have HRNG := Lib.hid hrng
  have hcl : m.cpu.cells.length = 19 := CpuM.len HH.out.regs
  have HCL := Lib.hid hcl
  generalize hvn : m.ops.length = vn at *
  have HVN := Lib.hid hvn
  clear hvn
  have hS0 : (fun w' : World => w'.cell? ⟨t, 0, none⟩ = some (.iface 74 (.pointer (some ⟨r, 0, none⟩))) ∧ w'.cell? ⟨t, 1, none⟩ = some (.slice (some ⟨b, off, none⟩) vn vc) ∧ w'.cell? ⟨t, 18, none⟩ = some (.int .i64 m.fuel) ∧ w'.rangeAt t 19 m.cpu.cells) W.drew := ⟨y0, y1, y2, HH.out.cpuAt⟩
  have HINFO := Lib.hid (info94 hcl)
  clear h ht hl0 hbW hrW y0 y1 y2 hva hn1 hstep hrng hcl
  go_enter Tryz.func73, Tryz.ntmps73
  go_upto_region 1 with fail
  rw [← hW]
  clear hW
  refine zRegion 25 (S := (fun w' : World => w'.cell? ⟨t, 0, none⟩ = some (.iface 74 (.pointer (some ⟨r, 0, none⟩))) ∧ w'.cell? ⟨t, 1, none⟩ = some (.slice (some ⟨b, off, none⟩) vn vc) ∧ w'.cell? ⟨t, 18, none⟩ = some (.int .i64 m.fuel) ∧ w'.rangeAt t 19 m.cpu.cells)) (by kernel_rfl) hS0 (fun hHeld => ?_)
  clear hS0
  refine zd 0 (v := ?_) ?_ ?_
  rotate_left
  · rintro w ⟨hS1, hS2, hS3, hS4⟩; go_simp; try with_reducible rfl
  simp only [Act.put, pt1, pt2, pt3]
  refine zd 1 (v := ?_) ?_ ?_
  rotate_left
  · rintro w ⟨hS1, hS2, hS3, hS4⟩; go_simp; try with_reducible rfl
  simp only [Act.put, pt1, pt2, pt3]
  refine zd 2 (v := ?_) ?_ ?_
  rotate_left
  · rintro w ⟨hS1, hS2, hS3, hS4⟩; go_simp; try with_reducible rfl
  simp only [Act.put, pt1, pt2, pt3]
  refine zd 3 (v := ?_) ?_ ?_
  rotate_left
  · rintro w ⟨hS1, hS2, hS3, hS4⟩; go_simp; try with_reducible rfl
  simp only [Act.put, pt1, pt2, pt3]
  refine zd 4 (v := ?_) ?_ ?_
  rotate_left
  · rintro w ⟨hS1, hS2, hS3, hS4⟩; go_simp; try with_reducible rfl
  simp only [Act.put, pt1, pt2, pt3]
  refine zd 5 (v := ?_) ?_ ?_
  rotate_left
  · rintro w ⟨hS1, hS2, hS3, hS4⟩; go_simp; try with_reducible rfl
  simp only [Act.put, pt1, pt2, pt3]
  refine zd 6 (v := ?_) ?_ ?_
  rotate_left
  · rintro w ⟨hS1, hS2, hS3, hS4⟩; go_simp; try with_reducible rfl
  simp only [Act.put, pt1, pt2, pt3]
  refine zd 7 (v := ?_) ?_ ?_
  rotate_left
  · rintro w ⟨hS1, hS2, hS3, hS4⟩; go_simp; try with_reducible rfl
  simp only [Act.put, pt1, pt2, pt3]
  refine zLong 8 94 _ t 19 m.cpu.cells _ rfl rfl (by kernel_rfl) (by kernel_rfl) (by kernel_rfl) (by kernel_rfl) (fun _ _ _ h => h) (by rfl) rfl Tryz.underlying94 rfl HINFO.out (fun _ h => h.2.2.2) (by assumption) ?_
  simp only [Act.put, pt1, pt2, pt3]
  refine zd 9 (v := ?_) ?_ ?_
  rotate_left
  · rintro w ⟨hS1, hS2, hS3, hS4⟩; go_simp; try with_reducible rfl
  simp only [Act.put, pt1, pt2, pt3]
  refine zd 10 (v := ?_) ?_ ?_
  rotate_left
  · rintro w ⟨hS1, hS2, hS3, hS4⟩; go_simp; try with_reducible rfl
  simp only [Act.put, pt1, pt2, pt3]
  refine zd 11 (v := ?_) ?_ ?_
  rotate_left
  · rintro w ⟨hS1, hS2, hS3, hS4⟩; go_simp; try with_reducible rfl
  simp only [Act.put, pt1, pt2, pt3]
  refine zd 12 (v := ?_) ?_ ?_
  rotate_left
  · rintro w ⟨hS1, hS2, hS3, hS4⟩; go_simp; try with_reducible rfl
  simp only [Act.put, pt1, pt2, pt3]
  refine zd 15 (v := ?_) ?_ ?_
  rotate_left
  · rintro w ⟨hS1, hS2, hS3, hS4⟩; go_simp; try with_reducible rfl
  simp only [Act.put, pt1, pt2, pt3]
  refine zd 16 (v := ?_) ?_ ?_
  rotate_left
  · rintro w ⟨hS1, hS2, hS3, hS4⟩; go_simp; try with_reducible rfl
  simp only [Act.put, pt1, pt2, pt3]
  refine zd 17 (v := ?_) ?_ ?_
  rotate_left
  · rintro w ⟨hS1, hS2, hS3, hS4⟩; go_simp; try with_reducible rfl
  simp only [Act.put, pt1, pt2, pt3]
  refine zd 18 (v := ?_) ?_ ?_
  rotate_left
  · rintro w ⟨hS1, hS2, hS3, hS4⟩; go_simp; try with_reducible rfl
  simp only [Act.put, pt1, pt2, pt3]
  refine zcl 13 (fun K' hK => ?_)
  go_simp
  go_wp2_with fail
  refine (C1.out).mono ?_
  rintro en y ⟨v', rfl, hown, hby⟩
  obtain ⟨_, ua, uc, rfl, _⟩ := RowAt.of_owns hown
  have hly : ∀ E, Lim E B W.drew y := fun E => Lim.of_below hby
  have HY := Lib.hid (HH.out.lim (hly (fun _ => false)) rfl rfl)
  have RY := Lib.hid (And.intro (HREC.out.lim (hly (fun _ => false)) (by decide)) (HL0.out.trans (LimH.of_below (t := t) (B := B) hby)))
  have AY := Lib.hid (block_lim HRW.out (hly (fun _ => false)) rfl)
  obtain ⟨x0, x1, x2, -, -, -, -, -, -⟩ := HY.out.cells
  have hHy : (fun w' : World => w'.cell? ⟨t, 0, none⟩ = some (.iface 74 (.pointer (some ⟨r, 0, none⟩))) ∧ w'.cell? ⟨t, 1, none⟩ = some (.slice (some ⟨b, off, none⟩) vn vc) ∧ w'.cell? ⟨t, 18, none⟩ = some (.int .i64 m.fuel) ∧ w'.rangeAt t 19 m.cpu.cells) y := ⟨x0, x1, x2, HY.out.cpuAt⟩
  have HAT := Lib.hid (ops_of_range (Nat.lt_of_lt_of_le HRNG.out.1 hby.size) (fun j v hj => (hby.cell (p := ⟨b, off + j, none⟩) HRNG.out.1).trans (HRNG.out.2 j v hj)))
  have lty := hby.size
  clear hown hby hly HH HREC HL0 HRW x0 x1 x2 HRNG hBW
  go_wp2_with fail
  refine hK.out _ _ ?_ (fun hHeld => ?_)
  · exact hHy
  clear hK K' hHy
  try simp only [Act.put, pt1, pt2, pt3]
  refine zcl 14 (fun K' hK => ?_)
  go_simp
  refine hK.out _ _ (by assumption) (fun hHeld => ?_)
  clear hK K'
  try simp only [Act.put, pt1, pt2, pt3]
  have C2' := Lib.hid (C2.out b off y HAT.out)
  refine zcl 19 (fun K' hK => ?_)
  go_simp
  go_at_call 113
  refine (C2'.out).mono ?_
  rintro en y2 ⟨rfl, hby⟩
  have hly : ∀ E, Lim E B y y2 := fun E => Lim.of_below hby
  have HY2 := Lib.hid (HY.out.lim (hly (fun _ => false)) rfl rfl)
  have RY2 := Lib.hid (And.intro (RY.out.1.lim (hly (fun _ => false)) (by decide)) (RY.out.2.trans (LimH.of_below (t := t) (B := B) hby)))
  have AY2 := Lib.hid (block_lim AY.out (hly (fun _ => false)) rfl)
  obtain ⟨x0, x1, x2, -, -, -, -, -, -⟩ := HY2.out.cells
  have hHy : (fun w' : World => w'.cell? ⟨t, 0, none⟩ = some (.iface 74 (.pointer (some ⟨r, 0, none⟩))) ∧ w'.cell? ⟨t, 1, none⟩ = some (.slice (some ⟨b, off, none⟩) vn vc) ∧ w'.cell? ⟨t, 18, none⟩ = some (.int .i64 m.fuel) ∧ w'.rangeAt t 19 m.cpu.cells) y2 := ⟨x0, x1, x2, HY2.out.cpuAt⟩
  clear hby hly HY RY AY x0 x1 x2 C2' HAT
  go_wp2_with fail
  refine hK.out _ _ ?_ (fun hHeld => ?_)
  · exact hHy
  clear hK K' hHy
  try simp only [Act.put, pt1, pt2, pt3]
  refine zd 20 (v := ?_) ?_ ?_
  rotate_left
  · rintro w ⟨hS1, hS2, hS3, hS4⟩; go_simp; try with_reducible rfl
  simp only [Act.put, pt1, pt2, pt3]
  refine zd 21 (v := ?_) ?_ ?_
  rotate_left
  · rintro w ⟨hS1, hS2, hS3, hS4⟩; go_simp; try with_reducible rfl
  simp only [Act.put, pt1, pt2, pt3]
  refine zp 22 (v := ?_) ?_ ?_
  rotate_left
  · intro w; go_simp; try with_reducible rfl
  simp only [Act.put, pt1, pt2, pt3]
  refine zp 23 (v := ?_) ?_ ?_
  rotate_left
  · intro w; go_simp; try with_reducible rfl
  simp only [Act.put, pt1, pt2, pt3]
  refine zcl 24 (fun K' hK => ?_)
  go_simp
  refine hK.out _ _ (by assumption) (fun hHeld => ?_)
  clear hK K'
  try simp only [Act.put, pt1, pt2, pt3]
  refine zFree 25 rfl (by kernel_rfl) (by kernel_rfl) (fun K' hK => ?_)
  rw [if_pos (by rfl)]
  refine wp_store_mid 94 _ _ rfl t 19 c2.cells.toArray rfl rfl (by rw [show c2.cells.toArray.size = 19 by simpa using CpuM.len hr2]; exact HY2.out.there) (info94a (by simpa using CpuM.len hr2)) (all_of_one c2.all) ?_
  rw [List.toList_toArray]
  have hv := HY2.out.setCpu c2 hr2 hu2
  have hcv : LimT t B y2 (y2.setCells t 19 c2.cells) := thr_chg HY2.out (Chg.setCells (F := fun b => b = t) t (.inl rfl) _ 19 y2 (Chg.refl _ _))
  generalize y2.setCells t 19 c2.cells = V at *
  have TV := Lib.hid hv
  have RV := Lib.hid (And.intro (RY2.out.1.keep hcv) (RY2.out.2.trans (tt_ht hcv)))
  have AV := Lib.hid (block_lim AY2.out hcv.2 rfl)
  clear hv hcv HY2 RY2 AY2 hHeld
  refine hK.out _ _ ?_
  clear hK K'
  simp only [Act.put]
  obtain ⟨a0, a1, a2, a3, a4, a5, a6⟩ : V.cell? ⟨w.heap.size, 0, none⟩ = some (.int .i64 0) ∧ V.cell? ⟨w.heap.size, 1, none⟩ = some (.int .i64 0) ∧ V.cell? ⟨w.heap.size, 2, none⟩ = some (.int .i64 0) ∧ V.cell? ⟨w.heap.size, 3, none⟩ = some (.int .i64 0) ∧ V.cell? ⟨w.heap.size, 4, none⟩ = some (.int .i64 0) ∧ V.cell? ⟨w.heap.size, 5, none⟩ = some (.int .i64 0) ∧ V.cell? ⟨w.heap.size, 6, none⟩ = some (.int .i64 0) := ⟨cell_of_row _ _ 0 _ _ _ AV.out, cell_of_row _ _ 1 _ _ _ AV.out, cell_of_row _ _ 2 _ _ _ AV.out, cell_of_row _ _ 3 _ _ _ AV.out, cell_of_row _ _ 4 _ _ _ AV.out, cell_of_row _ _ 5 _ _ _ AV.out, cell_of_row _ _ 6 _ _ _ AV.out⟩
  have af := fun j => frozen_of_row _ _ j _ _ AV.out
  refine zFree 26 rfl (by kernel_rfl) (by kernel_rfl) (fun K' hK => ?_)
  go_simp
  refine hK.out _ _ ?_
  clear hK K'
  refine zDone (by kernel_rfl) ?_ _
  have hq := setCells_row w.heap.size 217 [.int .i64 5, .int .i64 0, .int .i64 0, .int .i64 0, .int .i64 0, .int .i64 0, .int .i64 1] _ 0 V AV.out
  have hcq : Chg (fun b => b = w.heap.size) V (V.setCells w.heap.size 0 [.int .i64 5, .int .i64 0, .int .i64 0, .int .i64 0, .int .i64 0, .int .i64 0, .int .i64 1]) := Chg.setCells (F := fun b => b = w.heap.size) w.heap.size (.inl rfl) _ 0 V (Chg.refl _ _)
  simp only [World.setCells, setAll, List.set_cons_zero, List.set_cons_succ, Nat.zero_add, Nat.reduceAdd] at hq hcq
  clear a0 a1 a2 a3 a4 a5 a6 af
  generalize (((((((V.setCell ⟨w.heap.size, 0, none⟩ (.int .i64 5)).setCell ⟨w.heap.size, 1, none⟩ (.int .i64 0)).setCell ⟨w.heap.size, 2, none⟩ (.int .i64 0)).setCell ⟨w.heap.size, 3, none⟩ (.int .i64 0)).setCell ⟨w.heap.size, 4, none⟩ (.int .i64 0)).setCell ⟨w.heap.size, 5, none⟩ (.int .i64 0)).setCell ⟨w.heap.size, 6, none⟩ (.int .i64 1)) = X at *
  have hXX := hcq
  have TX := Lib.hid (TV.out.lim (E := fun t => t == 217) (B' := B) (Chg.weak (F := fun b => b = w.heap.size) (G := InT (fun t => t == 217) B V) hcq fun i hi => .inl (by subst hi; exact ⟨hB, _, _, _, AV.out, rfl⟩)) rfl rfl)
  have RX := Lib.hid (And.intro (RV.out.1.lim (E := fun t => t == 217) (B' := B) (Chg.weak (F := fun b => b = w.heap.size) (G := InT (fun t => t == 217) B V) hcq fun i hi => .inl (by subst hi; exact ⟨hB, _, _, _, AV.out, rfl⟩)) (by decide)) (show LimH t B w X from Chg.trans (F := fun i => i = t ∨ InT RT B w i) (G := fun b => b = w.heap.size) RV.out.2 hcq fun i hi => .inr (by omega)))
  have AX := Lib.hid hq
  clear hq hcq hXX TV RV AV
  obtain ⟨a0, a1, a2, a3, a4, a5, a6⟩ : X.cell? ⟨w.heap.size, 0, none⟩ = some (.int .i64 5) ∧ X.cell? ⟨w.heap.size, 1, none⟩ = some (.int .i64 0) ∧ X.cell? ⟨w.heap.size, 2, none⟩ = some (.int .i64 0) ∧ X.cell? ⟨w.heap.size, 3, none⟩ = some (.int .i64 0) ∧ X.cell? ⟨w.heap.size, 4, none⟩ = some (.int .i64 0) ∧ X.cell? ⟨w.heap.size, 5, none⟩ = some (.int .i64 0) ∧ X.cell? ⟨w.heap.size, 6, none⟩ = some (.int .i64 1) := ⟨cell_of_row _ _ 0 _ _ _ AX.out, cell_of_row _ _ 1 _ _ _ AX.out, cell_of_row _ _ 2 _ _ _ AX.out, cell_of_row _ _ 3 _ _ _ AX.out, cell_of_row _ _ 4 _ _ _ AX.out, cell_of_row _ _ 5 _ _ _ AX.out, cell_of_row _ _ 6 _ _ _ AX.out⟩
  have hlX := block_lt AX.out
  have TB := Lib.hid (hT.below hB0 (LimH.to_below RX.out.2 hB TX.out.base))
  have hBX : B ≤ X.heap.size := Nat.le_trans hB RX.out.2.size
  have CO := Lib.hid (thOver1 kd B X t r (m.at c2) e evs st hrd ⟨_, TX.out⟩ RX.out.1 hBX hB0 hf hl hid hfew TB.out)
  go_wp2_with fail
  refine (CO.out).mono ?_
  rintro en y9 ⟨rfl, hp, hq⟩
  have HP := Lib.hid (And.intro hp (RX.out.2.trans hq))
  clear hp hq
  go_wp2_with fail
  refine bodyPost_ret (results_none rfl _ _ _) rfl ⟨rfl, HP.out.1, HP.out.2⟩
set_option maxRecDepth 100000 in
set_option maxHeartbeats 1000000 in
theorem thRunRead (kd : Kd) (B : Nat) (w : World) (t r : Nat) (m : ThrM) (e : EngM) (evs : List EvM) (c2 : CpuM) (x A : Nat) (k n : Int) (ht : ThrS B w t r m) (h : RecS kd B w r e evs) (hB : B ≤ w.heap.size) (hstep : stepM m.ops m.cpu (e.vals.length : Int) m.fuel = some (c2, ⟨1, (x : Int), (A : Int), 0, 0, 0⟩)) (hr2 : c2.regs.length = 8) (hu2 : c2.used ≤ 100000) (hl : e.live = some none) (hx : e.vals[x]? = some (k, n)) (hA : A < 8) (hr64 : m.reads < 2 ^ 64) (hB0 : 0 < B) (hf : evs.length < 90000) (hid : m.id = (e.cnt : Int)) (hT : Tab w) :
    Calls Tryz.prog 73 #[.pointer (some ⟨t, 0, none⟩)] w fun en w' => en = .returned (.tuple #[]) ∧ (ThrS B w' t r ((m.at c2).told A x k n) ∧ RecS kd B w' r (e.step ⟨x, k, n, false⟩) (evs ++ [⟨1, (e.cnt : Int), (x : Int), k, n⟩])) ∧ LimH t B w w' := by
  obtain ⟨ov, ht⟩ := ht
  obtain ⟨W, hW⟩ : ∃ W, W = w.alloc (.cells #[.int .i64 0, .int .i64 0, .int .i64 0, .int .i64 0, .int .i64 0, .int .i64 0, .int .i64 0] 217) := ⟨_, rfl⟩
  have hbW : Below w.heap.size w W := by rw [hW]; exact (Below.refl _ _).alloc (Nat.le_refl _) _
  have hrW : W.heap[w.heap.size]? = some (.cells #[.int .i64 0, .int .i64 0, .int .i64 0, .int .i64 0, .int .i64 0, .int .i64 0, .int .i64 0] 217 (0, 0)) := by rw [hW]; exact Go.heap_alloc_new _ _
  have hlt : w.heap.size < W.heap.size := block_lt hrW
  have hl0 : ∀ E, Lim E B w W.drew := fun E => Lim.of_below hbW.drew
  have hBW : B ≤ W.drew.heap.size := Nat.le_trans hB hbW.size
  have HREC := Lib.hid (h.lim (hl0 (fun _ => false)) (by decide))
  have C1 := Lib.hid (rmValues kd B W.drew r e evs HREC.out)
  have HH := Lib.hid (ht.lim (hl0 (fun _ => false)) rfl rfl)
  have HRW := Lib.hid (show W.drew.heap[w.heap.size]? = some (.cells #[.int .i64 0, .int .i64 0, .int .i64 0, .int .i64 0, .int .i64 0, .int .i64 0, .int .i64 0] 217 (0, 0)) from hrW)
  have HL0 := Lib.hid (LimH.of_below (t := t) (B := B) hbW.drew)
  obtain ⟨_, va, vc, rfl, hva⟩ := RowAt.of_owns HH.out.ops
  have C2 := Lib.hid (fun (b off : Nat) (U : World) (hat : OpsAt U b off m.ops) => step_any b off vc m.ops m.cpu c2 _ (e.vals.length : Int) m.fuel U HH.out.right hat HH.out.regs (Nat.le_trans HH.out.used (by omega)) hstep)
  simp only [AskM.cells, askC] at C2
  obtain ⟨y0, y1, y2, -, -, -, -, -, -⟩ := HH.out.cells
  have hn1 : 0 < m.ops.length := by
    have := HH.out.right
    simp only [rightL, Bool.and_eq_true, decide_eq_true_eq] at this
    exact this.1.1
  obtain ⟨b, off, rfl, hrng⟩ : ∃ b off, va = some ⟨b, off, none⟩ ∧ b < W.drew.heap.size ∧ W.drew.rangeAt b off (opsC m.ops) := by
    obtain ⟨b, off, e1, e2, e3⟩ := hva hn1
    exact ⟨b, off, e1, e2, e3⟩
  have HRNG := Lib.hid hrng
  have hcl : m.cpu.cells.length = 19 := CpuM.len HH.out.regs
  have HCL := Lib.hid hcl
  generalize hvn : m.ops.length = vn at *
  have HVN := Lib.hid hvn
  clear hvn
  have hS0 : (fun w' : World => w'.cell? ⟨t, 0, none⟩ = some (.iface 74 (.pointer (some ⟨r, 0, none⟩))) ∧ w'.cell? ⟨t, 1, none⟩ = some (.slice (some ⟨b, off, none⟩) vn vc) ∧ w'.cell? ⟨t, 18, none⟩ = some (.int .i64 m.fuel) ∧ w'.rangeAt t 19 m.cpu.cells) W.drew := ⟨y0, y1, y2, HH.out.cpuAt⟩
  have HINFO := Lib.hid (info94 hcl)
  clear h ht hl0 hbW hrW y0 y1 y2 hva hn1 hstep hrng hcl
  go_enter Tryz.func73, Tryz.ntmps73
  go_upto_region 1 with fail
  rw [← hW]
  clear hW
  refine zRegion 25 (S := (fun w' : World => w'.cell? ⟨t, 0, none⟩ = some (.iface 74 (.pointer (some ⟨r, 0, none⟩))) ∧ w'.cell? ⟨t, 1, none⟩ = some (.slice (some ⟨b, off, none⟩) vn vc) ∧ w'.cell? ⟨t, 18, none⟩ = some (.int .i64 m.fuel) ∧ w'.rangeAt t 19 m.cpu.cells)) (by kernel_rfl) hS0 (fun hHeld => ?_)
  clear hS0
  refine zd 0 (v := ?_) ?_ ?_
  rotate_left
  · rintro w ⟨hS1, hS2, hS3, hS4⟩; go_simp; try with_reducible rfl
  simp only [Act.put, pt1, pt2, pt3]
  refine zd 1 (v := ?_) ?_ ?_
  rotate_left
  · rintro w ⟨hS1, hS2, hS3, hS4⟩; go_simp; try with_reducible rfl
  simp only [Act.put, pt1, pt2, pt3]
  refine zd 2 (v := ?_) ?_ ?_
  rotate_left
  · rintro w ⟨hS1, hS2, hS3, hS4⟩; go_simp; try with_reducible rfl
  simp only [Act.put, pt1, pt2, pt3]
  refine zd 3 (v := ?_) ?_ ?_
  rotate_left
  · rintro w ⟨hS1, hS2, hS3, hS4⟩; go_simp; try with_reducible rfl
  simp only [Act.put, pt1, pt2, pt3]
  refine zd 4 (v := ?_) ?_ ?_
  rotate_left
  · rintro w ⟨hS1, hS2, hS3, hS4⟩; go_simp; try with_reducible rfl
  simp only [Act.put, pt1, pt2, pt3]
  refine zd 5 (v := ?_) ?_ ?_
  rotate_left
  · rintro w ⟨hS1, hS2, hS3, hS4⟩; go_simp; try with_reducible rfl
  simp only [Act.put, pt1, pt2, pt3]
  refine zd 6 (v := ?_) ?_ ?_
  rotate_left
  · rintro w ⟨hS1, hS2, hS3, hS4⟩; go_simp; try with_reducible rfl
  simp only [Act.put, pt1, pt2, pt3]
  refine zd 7 (v := ?_) ?_ ?_
  rotate_left
  · rintro w ⟨hS1, hS2, hS3, hS4⟩; go_simp; try with_reducible rfl
  simp only [Act.put, pt1, pt2, pt3]
  refine zLong 8 94 _ t 19 m.cpu.cells _ rfl rfl (by kernel_rfl) (by kernel_rfl) (by kernel_rfl) (by kernel_rfl) (fun _ _ _ h => h) (by rfl) rfl Tryz.underlying94 rfl HINFO.out (fun _ h => h.2.2.2) (by assumption) ?_
  simp only [Act.put, pt1, pt2, pt3]
  refine zd 9 (v := ?_) ?_ ?_
  rotate_left
  · rintro w ⟨hS1, hS2, hS3, hS4⟩; go_simp; try with_reducible rfl
  simp only [Act.put, pt1, pt2, pt3]
  refine zd 10 (v := ?_) ?_ ?_
  rotate_left
  · rintro w ⟨hS1, hS2, hS3, hS4⟩; go_simp; try with_reducible rfl
  simp only [Act.put, pt1, pt2, pt3]
  refine zd 11 (v := ?_) ?_ ?_
  rotate_left
  · rintro w ⟨hS1, hS2, hS3, hS4⟩; go_simp; try with_reducible rfl
  simp only [Act.put, pt1, pt2, pt3]
  refine zd 12 (v := ?_) ?_ ?_
  rotate_left
  · rintro w ⟨hS1, hS2, hS3, hS4⟩; go_simp; try with_reducible rfl
  simp only [Act.put, pt1, pt2, pt3]
  refine zd 15 (v := ?_) ?_ ?_
  rotate_left
  · rintro w ⟨hS1, hS2, hS3, hS4⟩; go_simp; try with_reducible rfl
  simp only [Act.put, pt1, pt2, pt3]
  refine zd 16 (v := ?_) ?_ ?_
  rotate_left
  · rintro w ⟨hS1, hS2, hS3, hS4⟩; go_simp; try with_reducible rfl
  simp only [Act.put, pt1, pt2, pt3]
  refine zd 17 (v := ?_) ?_ ?_
  rotate_left
  · rintro w ⟨hS1, hS2, hS3, hS4⟩; go_simp; try with_reducible rfl
  simp only [Act.put, pt1, pt2, pt3]
  refine zd 18 (v := ?_) ?_ ?_
  rotate_left
  · rintro w ⟨hS1, hS2, hS3, hS4⟩; go_simp; try with_reducible rfl
  simp only [Act.put, pt1, pt2, pt3]
  refine zcl 13 (fun K' hK => ?_)
  go_simp
  go_wp2_with fail
  refine (C1.out).mono ?_
  rintro en y ⟨v', rfl, hown, hby⟩
  obtain ⟨_, ua, uc, rfl, _⟩ := RowAt.of_owns hown
  have hly : ∀ E, Lim E B W.drew y := fun E => Lim.of_below hby
  have HY := Lib.hid (HH.out.lim (hly (fun _ => false)) rfl rfl)
  have RY := Lib.hid (And.intro (HREC.out.lim (hly (fun _ => false)) (by decide)) (HL0.out.trans (LimH.of_below (t := t) (B := B) hby)))
  have AY := Lib.hid (block_lim HRW.out (hly (fun _ => false)) rfl)
  obtain ⟨x0, x1, x2, -, -, -, -, -, -⟩ := HY.out.cells
  have hHy : (fun w' : World => w'.cell? ⟨t, 0, none⟩ = some (.iface 74 (.pointer (some ⟨r, 0, none⟩))) ∧ w'.cell? ⟨t, 1, none⟩ = some (.slice (some ⟨b, off, none⟩) vn vc) ∧ w'.cell? ⟨t, 18, none⟩ = some (.int .i64 m.fuel) ∧ w'.rangeAt t 19 m.cpu.cells) y := ⟨x0, x1, x2, HY.out.cpuAt⟩
  have HAT := Lib.hid (ops_of_range (Nat.lt_of_lt_of_le HRNG.out.1 hby.size) (fun j v hj => (hby.cell (p := ⟨b, off + j, none⟩) HRNG.out.1).trans (HRNG.out.2 j v hj)))
  have lty := hby.size
  clear hown hby hly HH HREC HL0 HRW x0 x1 x2 HRNG hBW
  go_wp2_with fail
  refine hK.out _ _ ?_ (fun hHeld => ?_)
  · exact hHy
  clear hK K' hHy
  try simp only [Act.put, pt1, pt2, pt3]
  refine zcl 14 (fun K' hK => ?_)
  go_simp
  refine hK.out _ _ (by assumption) (fun hHeld => ?_)
  clear hK K'
  try simp only [Act.put, pt1, pt2, pt3]
  have C2' := Lib.hid (C2.out b off y HAT.out)
  refine zcl 19 (fun K' hK => ?_)
  go_simp
  go_at_call 113
  refine (C2'.out).mono ?_
  rintro en y2 ⟨rfl, hby⟩
  have hly : ∀ E, Lim E B y y2 := fun E => Lim.of_below hby
  have HY2 := Lib.hid (HY.out.lim (hly (fun _ => false)) rfl rfl)
  have RY2 := Lib.hid (And.intro (RY.out.1.lim (hly (fun _ => false)) (by decide)) (RY.out.2.trans (LimH.of_below (t := t) (B := B) hby)))
  have AY2 := Lib.hid (block_lim AY.out (hly (fun _ => false)) rfl)
  obtain ⟨x0, x1, x2, -, -, -, -, -, -⟩ := HY2.out.cells
  have hHy : (fun w' : World => w'.cell? ⟨t, 0, none⟩ = some (.iface 74 (.pointer (some ⟨r, 0, none⟩))) ∧ w'.cell? ⟨t, 1, none⟩ = some (.slice (some ⟨b, off, none⟩) vn vc) ∧ w'.cell? ⟨t, 18, none⟩ = some (.int .i64 m.fuel) ∧ w'.rangeAt t 19 m.cpu.cells) y2 := ⟨x0, x1, x2, HY2.out.cpuAt⟩
  clear hby hly HY RY AY x0 x1 x2 C2' HAT
  go_wp2_with fail
  refine hK.out _ _ ?_ (fun hHeld => ?_)
  · exact hHy
  clear hK K' hHy
  try simp only [Act.put, pt1, pt2, pt3]
  refine zd 20 (v := ?_) ?_ ?_
  rotate_left
  · rintro w ⟨hS1, hS2, hS3, hS4⟩; go_simp; try with_reducible rfl
  simp only [Act.put, pt1, pt2, pt3]
  refine zd 21 (v := ?_) ?_ ?_
  rotate_left
  · rintro w ⟨hS1, hS2, hS3, hS4⟩; go_simp; try with_reducible rfl
  simp only [Act.put, pt1, pt2, pt3]
  refine zp 22 (v := ?_) ?_ ?_
  rotate_left
  · intro w; go_simp; try with_reducible rfl
  simp only [Act.put, pt1, pt2, pt3]
  refine zp 23 (v := ?_) ?_ ?_
  rotate_left
  · intro w; go_simp; try with_reducible rfl
  simp only [Act.put, pt1, pt2, pt3]
  refine zcl 24 (fun K' hK => ?_)
  go_simp
  refine hK.out _ _ (by assumption) (fun hHeld => ?_)
  clear hK K'
  try simp only [Act.put, pt1, pt2, pt3]
  refine zFree 25 rfl (by kernel_rfl) (by kernel_rfl) (fun K' hK => ?_)
  rw [if_pos (by rfl)]
  refine wp_store_mid 94 _ _ rfl t 19 c2.cells.toArray rfl rfl (by rw [show c2.cells.toArray.size = 19 by simpa using CpuM.len hr2]; exact HY2.out.there) (info94a (by simpa using CpuM.len hr2)) (all_of_one c2.all) ?_
  rw [List.toList_toArray]
  have hv := HY2.out.setCpu c2 hr2 hu2
  have hcv : LimT t B y2 (y2.setCells t 19 c2.cells) := thr_chg HY2.out (Chg.setCells (F := fun b => b = t) t (.inl rfl) _ 19 y2 (Chg.refl _ _))
  generalize y2.setCells t 19 c2.cells = V at *
  have TV := Lib.hid hv
  have RV := Lib.hid (And.intro (RY2.out.1.keep hcv) (RY2.out.2.trans (tt_ht hcv)))
  have AV := Lib.hid (block_lim AY2.out hcv.2 rfl)
  clear hv hcv HY2 RY2 AY2 hHeld
  refine hK.out _ _ ?_
  clear hK K'
  simp only [Act.put]
  obtain ⟨a0, a1, a2, a3, a4, a5, a6⟩ : V.cell? ⟨w.heap.size, 0, none⟩ = some (.int .i64 0) ∧ V.cell? ⟨w.heap.size, 1, none⟩ = some (.int .i64 0) ∧ V.cell? ⟨w.heap.size, 2, none⟩ = some (.int .i64 0) ∧ V.cell? ⟨w.heap.size, 3, none⟩ = some (.int .i64 0) ∧ V.cell? ⟨w.heap.size, 4, none⟩ = some (.int .i64 0) ∧ V.cell? ⟨w.heap.size, 5, none⟩ = some (.int .i64 0) ∧ V.cell? ⟨w.heap.size, 6, none⟩ = some (.int .i64 0) := ⟨cell_of_row _ _ 0 _ _ _ AV.out, cell_of_row _ _ 1 _ _ _ AV.out, cell_of_row _ _ 2 _ _ _ AV.out, cell_of_row _ _ 3 _ _ _ AV.out, cell_of_row _ _ 4 _ _ _ AV.out, cell_of_row _ _ 5 _ _ _ AV.out, cell_of_row _ _ 6 _ _ _ AV.out⟩
  have af := fun j => frozen_of_row _ _ j _ _ AV.out
  refine zFree 26 rfl (by kernel_rfl) (by kernel_rfl) (fun K' hK => ?_)
  go_simp
  refine hK.out _ _ ?_
  clear hK K'
  refine zDone (by kernel_rfl) ?_ _
  have hq := setCells_row w.heap.size 217 [.int .i64 1, .int .i64 (x : Int), .int .i64 (A : Int), .int .i64 0, .int .i64 0, .int .i64 0, .int .i64 0] _ 0 V AV.out
  have hcq : Chg (fun b => b = w.heap.size) V (V.setCells w.heap.size 0 [.int .i64 1, .int .i64 (x : Int), .int .i64 (A : Int), .int .i64 0, .int .i64 0, .int .i64 0, .int .i64 0]) := Chg.setCells (F := fun b => b = w.heap.size) w.heap.size (.inl rfl) _ 0 V (Chg.refl _ _)
  simp only [World.setCells, setAll, List.set_cons_zero, List.set_cons_succ, Nat.zero_add, Nat.reduceAdd] at hq hcq
  clear a0 a1 a2 a3 a4 a5 a6 af
  generalize (((((((V.setCell ⟨w.heap.size, 0, none⟩ (.int .i64 1)).setCell ⟨w.heap.size, 1, none⟩ (.int .i64 (x : Int))).setCell ⟨w.heap.size, 2, none⟩ (.int .i64 (A : Int))).setCell ⟨w.heap.size, 3, none⟩ (.int .i64 0)).setCell ⟨w.heap.size, 4, none⟩ (.int .i64 0)).setCell ⟨w.heap.size, 5, none⟩ (.int .i64 0)).setCell ⟨w.heap.size, 6, none⟩ (.int .i64 0)) = X at *
  have hXX := hcq
  have TX := Lib.hid (TV.out.lim (E := fun t => t == 217) (B' := B) (Chg.weak (F := fun b => b = w.heap.size) (G := InT (fun t => t == 217) B V) hcq fun i hi => .inl (by subst hi; exact ⟨hB, _, _, _, AV.out, rfl⟩)) rfl rfl)
  have RX := Lib.hid (And.intro (RV.out.1.lim (E := fun t => t == 217) (B' := B) (Chg.weak (F := fun b => b = w.heap.size) (G := InT (fun t => t == 217) B V) hcq fun i hi => .inl (by subst hi; exact ⟨hB, _, _, _, AV.out, rfl⟩)) (by decide)) (show LimH t B w X from Chg.trans (F := fun i => i = t ∨ InT RT B w i) (G := fun b => b = w.heap.size) RV.out.2 hcq fun i hi => .inr (by omega)))
  have AX := Lib.hid hq
  clear hq hcq hXX TV RV AV
  obtain ⟨a0, a1, a2, a3, a4, a5, a6⟩ : X.cell? ⟨w.heap.size, 0, none⟩ = some (.int .i64 1) ∧ X.cell? ⟨w.heap.size, 1, none⟩ = some (.int .i64 (x : Int)) ∧ X.cell? ⟨w.heap.size, 2, none⟩ = some (.int .i64 (A : Int)) ∧ X.cell? ⟨w.heap.size, 3, none⟩ = some (.int .i64 0) ∧ X.cell? ⟨w.heap.size, 4, none⟩ = some (.int .i64 0) ∧ X.cell? ⟨w.heap.size, 5, none⟩ = some (.int .i64 0) ∧ X.cell? ⟨w.heap.size, 6, none⟩ = some (.int .i64 0) := ⟨cell_of_row _ _ 0 _ _ _ AX.out, cell_of_row _ _ 1 _ _ _ AX.out, cell_of_row _ _ 2 _ _ _ AX.out, cell_of_row _ _ 3 _ _ _ AX.out, cell_of_row _ _ 4 _ _ _ AX.out, cell_of_row _ _ 5 _ _ _ AX.out, cell_of_row _ _ 6 _ _ _ AX.out⟩
  have hlX := block_lt AX.out
  have TB := Lib.hid (hT.below hB0 (LimH.to_below RX.out.2 hB TX.out.base))
  have hBX : B ≤ X.heap.size := Nat.le_trans hB RX.out.2.size
  have hmk := makeMap223
  have hp1 := put1
  have hp2 := put2
  have hp3 := put3
  have hp4 := put4
  have hl1 := look1
  have hbM : Below X.heap.size X (X.alloc (.map does4 4)) := (Below.refl _ _).alloc (Nat.le_refl _) _
  have TM := Lib.hid (TX.out.lim (E := fun _ => false) (B' := B) (Lim.of_below hbM) rfl rfl)
  have RM := Lib.hid (And.intro (RX.out.1.lim (E := fun _ => false) (B' := B) (Lim.of_below hbM) (by decide)) (RX.out.2.trans (LimH.of_below (t := t) (B := B) hbM)))
  have TBM := Lib.hid (TB.out.below TB.out.pos hbM)
  have AM := Lib.hid (block_lim (E := fun _ => false) (B := B) AX.out (Lim.of_below hbM) rfl)
  obtain ⟨d0, d1, d2, d3, d4, d5, d6⟩ : (X.alloc (.map does4 4)).cell? ⟨w.heap.size, 0, none⟩ = some (.int .i64 1) ∧ (X.alloc (.map does4 4)).cell? ⟨w.heap.size, 1, none⟩ = some (.int .i64 (x : Int)) ∧ (X.alloc (.map does4 4)).cell? ⟨w.heap.size, 2, none⟩ = some (.int .i64 (A : Int)) ∧ (X.alloc (.map does4 4)).cell? ⟨w.heap.size, 3, none⟩ = some (.int .i64 0) ∧ (X.alloc (.map does4 4)).cell? ⟨w.heap.size, 4, none⟩ = some (.int .i64 0) ∧ (X.alloc (.map does4 4)).cell? ⟨w.heap.size, 5, none⟩ = some (.int .i64 0) ∧ (X.alloc (.map does4 4)).cell? ⟨w.heap.size, 6, none⟩ = some (.int .i64 0) := ⟨cell_of_row _ _ 0 _ _ _ AM.out, cell_of_row _ _ 1 _ _ _ AM.out, cell_of_row _ _ 2 _ _ _ AM.out, cell_of_row _ _ 3 _ _ _ AM.out, cell_of_row _ _ 4 _ _ _ AM.out, cell_of_row _ _ 5 _ _ _ AM.out, cell_of_row _ _ 6 _ _ _ AM.out⟩
  have hBM : B ≤ (X.alloc (.map does4 4)).heap.size := Nat.le_trans hBX hbM.size
  have CR := Lib.hid (thRead kd B (X.alloc (.map does4 4)) t r (m.at c2) e evs x A k n 1 0 0 0 ⟨_, TM.out⟩ RM.out.1 hBM hf hl hx hA hr64 hid TBM.out)
  simp only [askC] at CR
  clear hbM hBM
  go_wp2_with fail
  refine (CR.out).mono ?_
  rintro en y9 ⟨rfl, hp, hq⟩
  have HP := Lib.hid (And.intro hp (RM.out.2.trans hq))
  have CF := Lib.hid (thFail0 t y9)
  clear hp hq
  go_wp2_with fail
  refine (CF.out).mono ?_
  rintro en y10 ⟨rfl, rfl⟩
  go_wp2_with fail
  refine bodyPost_end (results_none rfl _ _ _) rfl ⟨rfl, HP.out.1, HP.out.2⟩
set_option maxRecDepth 100000 in
set_option maxHeartbeats 1000000 in
theorem thRunWrite (kd : Kd) (B : Nat) (w : World) (t r : Nat) (m : ThrM) (e : EngM) (evs : List EvM) (c2 : CpuM) (x : Nat) (k n : Int) (ht : ThrS B w t r m) (h : RecS kd B w r e evs) (hB : B ≤ w.heap.size) (hstep : stepM m.ops m.cpu (e.vals.length : Int) m.fuel = some (c2, ⟨2, (x : Int), 0, k, n, 0⟩)) (hr2 : c2.regs.length = 8) (hu2 : c2.used ≤ 100000) (hl : e.live = some none) (hx : x < e.vals.length) (hrv : rightV k n = true) (hr64 : m.writes < 2 ^ 64) (hB0 : 0 < B) (hf : evs.length < 90000) (hid : m.id = (e.cnt : Int)) (hT : Tab w) :
    Calls Tryz.prog 73 #[.pointer (some ⟨t, 0, none⟩)] w fun en w' => en = .returned (.tuple #[]) ∧ (ThrS B w' t r ((m.at c2).wrote x) ∧ RecS kd B w' r (e.step ⟨x, k, n, true⟩) (evs ++ [⟨2, (e.cnt : Int), (x : Int), k, n⟩])) ∧ LimH t B w w' := by
  obtain ⟨ov, ht⟩ := ht
  obtain ⟨W, hW⟩ : ∃ W, W = w.alloc (.cells #[.int .i64 0, .int .i64 0, .int .i64 0, .int .i64 0, .int .i64 0, .int .i64 0, .int .i64 0] 217) := ⟨_, rfl⟩
  have hbW : Below w.heap.size w W := by rw [hW]; exact (Below.refl _ _).alloc (Nat.le_refl _) _
  have hrW : W.heap[w.heap.size]? = some (.cells #[.int .i64 0, .int .i64 0, .int .i64 0, .int .i64 0, .int .i64 0, .int .i64 0, .int .i64 0] 217 (0, 0)) := by rw [hW]; exact Go.heap_alloc_new _ _
  have hlt : w.heap.size < W.heap.size := block_lt hrW
  have hl0 : ∀ E, Lim E B w W.drew := fun E => Lim.of_below hbW.drew
  have hBW : B ≤ W.drew.heap.size := Nat.le_trans hB hbW.size
  have HREC := Lib.hid (h.lim (hl0 (fun _ => false)) (by decide))
  have C1 := Lib.hid (rmValues kd B W.drew r e evs HREC.out)
  have HH := Lib.hid (ht.lim (hl0 (fun _ => false)) rfl rfl)
  have HRW := Lib.hid (show W.drew.heap[w.heap.size]? = some (.cells #[.int .i64 0, .int .i64 0, .int .i64 0, .int .i64 0, .int .i64 0, .int .i64 0, .int .i64 0] 217 (0, 0)) from hrW)
  have HL0 := Lib.hid (LimH.of_below (t := t) (B := B) hbW.drew)
  obtain ⟨_, va, vc, rfl, hva⟩ := RowAt.of_owns HH.out.ops
  have C2 := Lib.hid (fun (b off : Nat) (U : World) (hat : OpsAt U b off m.ops) => step_any b off vc m.ops m.cpu c2 _ (e.vals.length : Int) m.fuel U HH.out.right hat HH.out.regs (Nat.le_trans HH.out.used (by omega)) hstep)
  simp only [AskM.cells, askC] at C2
  obtain ⟨y0, y1, y2, -, -, -, -, -, -⟩ := HH.out.cells
  have hn1 : 0 < m.ops.length := by
    have := HH.out.right
    simp only [rightL, Bool.and_eq_true, decide_eq_true_eq] at this
    exact this.1.1
  obtain ⟨b, off, rfl, hrng⟩ : ∃ b off, va = some ⟨b, off, none⟩ ∧ b < W.drew.heap.size ∧ W.drew.rangeAt b off (opsC m.ops) := by
    obtain ⟨b, off, e1, e2, e3⟩ := hva hn1
    exact ⟨b, off, e1, e2, e3⟩
  have HRNG := Lib.hid hrng
  have hcl : m.cpu.cells.length = 19 := CpuM.len HH.out.regs
  have HCL := Lib.hid hcl
  generalize hvn : m.ops.length = vn at *
  have HVN := Lib.hid hvn
  clear hvn
  have hS0 : (fun w' : World => w'.cell? ⟨t, 0, none⟩ = some (.iface 74 (.pointer (some ⟨r, 0, none⟩))) ∧ w'.cell? ⟨t, 1, none⟩ = some (.slice (some ⟨b, off, none⟩) vn vc) ∧ w'.cell? ⟨t, 18, none⟩ = some (.int .i64 m.fuel) ∧ w'.rangeAt t 19 m.cpu.cells) W.drew := ⟨y0, y1, y2, HH.out.cpuAt⟩
  have HINFO := Lib.hid (info94 hcl)
  clear h ht hl0 hbW hrW y0 y1 y2 hva hn1 hstep hrng hcl
  go_enter Tryz.func73, Tryz.ntmps73
  go_upto_region 1 with fail
  rw [← hW]
  clear hW
  refine zRegion 25 (S := (fun w' : World => w'.cell? ⟨t, 0, none⟩ = some (.iface 74 (.pointer (some ⟨r, 0, none⟩))) ∧ w'.cell? ⟨t, 1, none⟩ = some (.slice (some ⟨b, off, none⟩) vn vc) ∧ w'.cell? ⟨t, 18, none⟩ = some (.int .i64 m.fuel) ∧ w'.rangeAt t 19 m.cpu.cells)) (by kernel_rfl) hS0 (fun hHeld => ?_)
  clear hS0
  refine zd 0 (v := ?_) ?_ ?_
  rotate_left
  · rintro w ⟨hS1, hS2, hS3, hS4⟩; go_simp; try with_reducible rfl
  simp only [Act.put, pt1, pt2, pt3]
  refine zd 1 (v := ?_) ?_ ?_
  rotate_left
  · rintro w ⟨hS1, hS2, hS3, hS4⟩; go_simp; try with_reducible rfl
  simp only [Act.put, pt1, pt2, pt3]
  refine zd 2 (v := ?_) ?_ ?_
  rotate_left
  · rintro w ⟨hS1, hS2, hS3, hS4⟩; go_simp; try with_reducible rfl
  simp only [Act.put, pt1, pt2, pt3]
  refine zd 3 (v := ?_) ?_ ?_
  rotate_left
  · rintro w ⟨hS1, hS2, hS3, hS4⟩; go_simp; try with_reducible rfl
  simp only [Act.put, pt1, pt2, pt3]
  refine zd 4 (v := ?_) ?_ ?_
  rotate_left
  · rintro w ⟨hS1, hS2, hS3, hS4⟩; go_simp; try with_reducible rfl
  simp only [Act.put, pt1, pt2, pt3]
  refine zd 5 (v := ?_) ?_ ?_
  rotate_left
  · rintro w ⟨hS1, hS2, hS3, hS4⟩; go_simp; try with_reducible rfl
  simp only [Act.put, pt1, pt2, pt3]
  refine zd 6 (v := ?_) ?_ ?_
  rotate_left
  · rintro w ⟨hS1, hS2, hS3, hS4⟩; go_simp; try with_reducible rfl
  simp only [Act.put, pt1, pt2, pt3]
  refine zd 7 (v := ?_) ?_ ?_
  rotate_left
  · rintro w ⟨hS1, hS2, hS3, hS4⟩; go_simp; try with_reducible rfl
  simp only [Act.put, pt1, pt2, pt3]
  refine zLong 8 94 _ t 19 m.cpu.cells _ rfl rfl (by kernel_rfl) (by kernel_rfl) (by kernel_rfl) (by kernel_rfl) (fun _ _ _ h => h) (by rfl) rfl Tryz.underlying94 rfl HINFO.out (fun _ h => h.2.2.2) (by assumption) ?_
  simp only [Act.put, pt1, pt2, pt3]
  refine zd 9 (v := ?_) ?_ ?_
  rotate_left
  · rintro w ⟨hS1, hS2, hS3, hS4⟩; go_simp; try with_reducible rfl
  simp only [Act.put, pt1, pt2, pt3]
  refine zd 10 (v := ?_) ?_ ?_
  rotate_left
  · rintro w ⟨hS1, hS2, hS3, hS4⟩; go_simp; try with_reducible rfl
  simp only [Act.put, pt1, pt2, pt3]
  refine zd 11 (v := ?_) ?_ ?_
  rotate_left
  · rintro w ⟨hS1, hS2, hS3, hS4⟩; go_simp; try with_reducible rfl
  simp only [Act.put, pt1, pt2, pt3]
  refine zd 12 (v := ?_) ?_ ?_
  rotate_left
  · rintro w ⟨hS1, hS2, hS3, hS4⟩; go_simp; try with_reducible rfl
  simp only [Act.put, pt1, pt2, pt3]
  refine zd 15 (v := ?_) ?_ ?_
  rotate_left
  · rintro w ⟨hS1, hS2, hS3, hS4⟩; go_simp; try with_reducible rfl
  simp only [Act.put, pt1, pt2, pt3]
  refine zd 16 (v := ?_) ?_ ?_
  rotate_left
  · rintro w ⟨hS1, hS2, hS3, hS4⟩; go_simp; try with_reducible rfl
  simp only [Act.put, pt1, pt2, pt3]
  refine zd 17 (v := ?_) ?_ ?_
  rotate_left
  · rintro w ⟨hS1, hS2, hS3, hS4⟩; go_simp; try with_reducible rfl
  simp only [Act.put, pt1, pt2, pt3]
  refine zd 18 (v := ?_) ?_ ?_
  rotate_left
  · rintro w ⟨hS1, hS2, hS3, hS4⟩; go_simp; try with_reducible rfl
  simp only [Act.put, pt1, pt2, pt3]
  refine zcl 13 (fun K' hK => ?_)
  go_simp
  go_wp2_with fail
  refine (C1.out).mono ?_
  rintro en y ⟨v', rfl, hown, hby⟩
  obtain ⟨_, ua, uc, rfl, _⟩ := RowAt.of_owns hown
  have hly : ∀ E, Lim E B W.drew y := fun E => Lim.of_below hby
  have HY := Lib.hid (HH.out.lim (hly (fun _ => false)) rfl rfl)
  have RY := Lib.hid (And.intro (HREC.out.lim (hly (fun _ => false)) (by decide)) (HL0.out.trans (LimH.of_below (t := t) (B := B) hby)))
  have AY := Lib.hid (block_lim HRW.out (hly (fun _ => false)) rfl)
  obtain ⟨x0, x1, x2, -, -, -, -, -, -⟩ := HY.out.cells
  have hHy : (fun w' : World => w'.cell? ⟨t, 0, none⟩ = some (.iface 74 (.pointer (some ⟨r, 0, none⟩))) ∧ w'.cell? ⟨t, 1, none⟩ = some (.slice (some ⟨b, off, none⟩) vn vc) ∧ w'.cell? ⟨t, 18, none⟩ = some (.int .i64 m.fuel) ∧ w'.rangeAt t 19 m.cpu.cells) y := ⟨x0, x1, x2, HY.out.cpuAt⟩
  have HAT := Lib.hid (ops_of_range (Nat.lt_of_lt_of_le HRNG.out.1 hby.size) (fun j v hj => (hby.cell (p := ⟨b, off + j, none⟩) HRNG.out.1).trans (HRNG.out.2 j v hj)))
  have lty := hby.size
  clear hown hby hly HH HREC HL0 HRW x0 x1 x2 HRNG hBW
  go_wp2_with fail
  refine hK.out _ _ ?_ (fun hHeld => ?_)
  · exact hHy
  clear hK K' hHy
  try simp only [Act.put, pt1, pt2, pt3]
  refine zcl 14 (fun K' hK => ?_)
  go_simp
  refine hK.out _ _ (by assumption) (fun hHeld => ?_)
  clear hK K'
  try simp only [Act.put, pt1, pt2, pt3]
  have C2' := Lib.hid (C2.out b off y HAT.out)
  refine zcl 19 (fun K' hK => ?_)
  go_simp
  go_at_call 113
  refine (C2'.out).mono ?_
  rintro en y2 ⟨rfl, hby⟩
  have hly : ∀ E, Lim E B y y2 := fun E => Lim.of_below hby
  have HY2 := Lib.hid (HY.out.lim (hly (fun _ => false)) rfl rfl)
  have RY2 := Lib.hid (And.intro (RY.out.1.lim (hly (fun _ => false)) (by decide)) (RY.out.2.trans (LimH.of_below (t := t) (B := B) hby)))
  have AY2 := Lib.hid (block_lim AY.out (hly (fun _ => false)) rfl)
  obtain ⟨x0, x1, x2, -, -, -, -, -, -⟩ := HY2.out.cells
  have hHy : (fun w' : World => w'.cell? ⟨t, 0, none⟩ = some (.iface 74 (.pointer (some ⟨r, 0, none⟩))) ∧ w'.cell? ⟨t, 1, none⟩ = some (.slice (some ⟨b, off, none⟩) vn vc) ∧ w'.cell? ⟨t, 18, none⟩ = some (.int .i64 m.fuel) ∧ w'.rangeAt t 19 m.cpu.cells) y2 := ⟨x0, x1, x2, HY2.out.cpuAt⟩
  clear hby hly HY RY AY x0 x1 x2 C2' HAT
  go_wp2_with fail
  refine hK.out _ _ ?_ (fun hHeld => ?_)
  · exact hHy
  clear hK K' hHy
  try simp only [Act.put, pt1, pt2, pt3]
  refine zd 20 (v := ?_) ?_ ?_
  rotate_left
  · rintro w ⟨hS1, hS2, hS3, hS4⟩; go_simp; try with_reducible rfl
  simp only [Act.put, pt1, pt2, pt3]
  refine zd 21 (v := ?_) ?_ ?_
  rotate_left
  · rintro w ⟨hS1, hS2, hS3, hS4⟩; go_simp; try with_reducible rfl
  simp only [Act.put, pt1, pt2, pt3]
  refine zp 22 (v := ?_) ?_ ?_
  rotate_left
  · intro w; go_simp; try with_reducible rfl
  simp only [Act.put, pt1, pt2, pt3]
  refine zp 23 (v := ?_) ?_ ?_
  rotate_left
  · intro w; go_simp; try with_reducible rfl
  simp only [Act.put, pt1, pt2, pt3]
  refine zcl 24 (fun K' hK => ?_)
  go_simp
  refine hK.out _ _ (by assumption) (fun hHeld => ?_)
  clear hK K'
  try simp only [Act.put, pt1, pt2, pt3]
  refine zFree 25 rfl (by kernel_rfl) (by kernel_rfl) (fun K' hK => ?_)
  rw [if_pos (by rfl)]
  refine wp_store_mid 94 _ _ rfl t 19 c2.cells.toArray rfl rfl (by rw [show c2.cells.toArray.size = 19 by simpa using CpuM.len hr2]; exact HY2.out.there) (info94a (by simpa using CpuM.len hr2)) (all_of_one c2.all) ?_
  rw [List.toList_toArray]
  have hv := HY2.out.setCpu c2 hr2 hu2
  have hcv : LimT t B y2 (y2.setCells t 19 c2.cells) := thr_chg HY2.out (Chg.setCells (F := fun b => b = t) t (.inl rfl) _ 19 y2 (Chg.refl _ _))
  generalize y2.setCells t 19 c2.cells = V at *
  have TV := Lib.hid hv
  have RV := Lib.hid (And.intro (RY2.out.1.keep hcv) (RY2.out.2.trans (tt_ht hcv)))
  have AV := Lib.hid (block_lim AY2.out hcv.2 rfl)
  clear hv hcv HY2 RY2 AY2 hHeld
  refine hK.out _ _ ?_
  clear hK K'
  simp only [Act.put]
  obtain ⟨a0, a1, a2, a3, a4, a5, a6⟩ : V.cell? ⟨w.heap.size, 0, none⟩ = some (.int .i64 0) ∧ V.cell? ⟨w.heap.size, 1, none⟩ = some (.int .i64 0) ∧ V.cell? ⟨w.heap.size, 2, none⟩ = some (.int .i64 0) ∧ V.cell? ⟨w.heap.size, 3, none⟩ = some (.int .i64 0) ∧ V.cell? ⟨w.heap.size, 4, none⟩ = some (.int .i64 0) ∧ V.cell? ⟨w.heap.size, 5, none⟩ = some (.int .i64 0) ∧ V.cell? ⟨w.heap.size, 6, none⟩ = some (.int .i64 0) := ⟨cell_of_row _ _ 0 _ _ _ AV.out, cell_of_row _ _ 1 _ _ _ AV.out, cell_of_row _ _ 2 _ _ _ AV.out, cell_of_row _ _ 3 _ _ _ AV.out, cell_of_row _ _ 4 _ _ _ AV.out, cell_of_row _ _ 5 _ _ _ AV.out, cell_of_row _ _ 6 _ _ _ AV.out⟩
  have af := fun j => frozen_of_row _ _ j _ _ AV.out
  refine zFree 26 rfl (by kernel_rfl) (by kernel_rfl) (fun K' hK => ?_)
  go_simp
  refine hK.out _ _ ?_
  clear hK K'
  refine zDone (by kernel_rfl) ?_ _
  have hq := setCells_row w.heap.size 217 [.int .i64 2, .int .i64 (x : Int), .int .i64 0, .int .i64 0, .int .i64 k, .int .i64 n, .int .i64 0] _ 0 V AV.out
  have hcq : Chg (fun b => b = w.heap.size) V (V.setCells w.heap.size 0 [.int .i64 2, .int .i64 (x : Int), .int .i64 0, .int .i64 0, .int .i64 k, .int .i64 n, .int .i64 0]) := Chg.setCells (F := fun b => b = w.heap.size) w.heap.size (.inl rfl) _ 0 V (Chg.refl _ _)
  simp only [World.setCells, setAll, List.set_cons_zero, List.set_cons_succ, Nat.zero_add, Nat.reduceAdd] at hq hcq
  clear a0 a1 a2 a3 a4 a5 a6 af
  generalize (((((((V.setCell ⟨w.heap.size, 0, none⟩ (.int .i64 2)).setCell ⟨w.heap.size, 1, none⟩ (.int .i64 (x : Int))).setCell ⟨w.heap.size, 2, none⟩ (.int .i64 0)).setCell ⟨w.heap.size, 3, none⟩ (.int .i64 0)).setCell ⟨w.heap.size, 4, none⟩ (.int .i64 k)).setCell ⟨w.heap.size, 5, none⟩ (.int .i64 n)).setCell ⟨w.heap.size, 6, none⟩ (.int .i64 0)) = X at *
  have hXX := hcq
  have TX := Lib.hid (TV.out.lim (E := fun t => t == 217) (B' := B) (Chg.weak (F := fun b => b = w.heap.size) (G := InT (fun t => t == 217) B V) hcq fun i hi => .inl (by subst hi; exact ⟨hB, _, _, _, AV.out, rfl⟩)) rfl rfl)
  have RX := Lib.hid (And.intro (RV.out.1.lim (E := fun t => t == 217) (B' := B) (Chg.weak (F := fun b => b = w.heap.size) (G := InT (fun t => t == 217) B V) hcq fun i hi => .inl (by subst hi; exact ⟨hB, _, _, _, AV.out, rfl⟩)) (by decide)) (show LimH t B w X from Chg.trans (F := fun i => i = t ∨ InT RT B w i) (G := fun b => b = w.heap.size) RV.out.2 hcq fun i hi => .inr (by omega)))
  have AX := Lib.hid hq
  clear hq hcq hXX TV RV AV
  obtain ⟨a0, a1, a2, a3, a4, a5, a6⟩ : X.cell? ⟨w.heap.size, 0, none⟩ = some (.int .i64 2) ∧ X.cell? ⟨w.heap.size, 1, none⟩ = some (.int .i64 (x : Int)) ∧ X.cell? ⟨w.heap.size, 2, none⟩ = some (.int .i64 0) ∧ X.cell? ⟨w.heap.size, 3, none⟩ = some (.int .i64 0) ∧ X.cell? ⟨w.heap.size, 4, none⟩ = some (.int .i64 k) ∧ X.cell? ⟨w.heap.size, 5, none⟩ = some (.int .i64 n) ∧ X.cell? ⟨w.heap.size, 6, none⟩ = some (.int .i64 0) := ⟨cell_of_row _ _ 0 _ _ _ AX.out, cell_of_row _ _ 1 _ _ _ AX.out, cell_of_row _ _ 2 _ _ _ AX.out, cell_of_row _ _ 3 _ _ _ AX.out, cell_of_row _ _ 4 _ _ _ AX.out, cell_of_row _ _ 5 _ _ _ AX.out, cell_of_row _ _ 6 _ _ _ AX.out⟩
  have hlX := block_lt AX.out
  have TB := Lib.hid (hT.below hB0 (LimH.to_below RX.out.2 hB TX.out.base))
  have hBX : B ≤ X.heap.size := Nat.le_trans hB RX.out.2.size
  have hmk := makeMap223
  have hp1 := put1
  have hp2 := put2
  have hp3 := put3
  have hp4 := put4
  have hl2 := look2
  have hbM : Below X.heap.size X (X.alloc (.map does4 4)) := (Below.refl _ _).alloc (Nat.le_refl _) _
  have TM := Lib.hid (TX.out.lim (E := fun _ => false) (B' := B) (Lim.of_below hbM) rfl rfl)
  have RM := Lib.hid (And.intro (RX.out.1.lim (E := fun _ => false) (B' := B) (Lim.of_below hbM) (by decide)) (RX.out.2.trans (LimH.of_below (t := t) (B := B) hbM)))
  have TBM := Lib.hid (TB.out.below TB.out.pos hbM)
  have AM := Lib.hid (block_lim (E := fun _ => false) (B := B) AX.out (Lim.of_below hbM) rfl)
  obtain ⟨d0, d1, d2, d3, d4, d5, d6⟩ : (X.alloc (.map does4 4)).cell? ⟨w.heap.size, 0, none⟩ = some (.int .i64 2) ∧ (X.alloc (.map does4 4)).cell? ⟨w.heap.size, 1, none⟩ = some (.int .i64 (x : Int)) ∧ (X.alloc (.map does4 4)).cell? ⟨w.heap.size, 2, none⟩ = some (.int .i64 0) ∧ (X.alloc (.map does4 4)).cell? ⟨w.heap.size, 3, none⟩ = some (.int .i64 0) ∧ (X.alloc (.map does4 4)).cell? ⟨w.heap.size, 4, none⟩ = some (.int .i64 k) ∧ (X.alloc (.map does4 4)).cell? ⟨w.heap.size, 5, none⟩ = some (.int .i64 n) ∧ (X.alloc (.map does4 4)).cell? ⟨w.heap.size, 6, none⟩ = some (.int .i64 0) := ⟨cell_of_row _ _ 0 _ _ _ AM.out, cell_of_row _ _ 1 _ _ _ AM.out, cell_of_row _ _ 2 _ _ _ AM.out, cell_of_row _ _ 3 _ _ _ AM.out, cell_of_row _ _ 4 _ _ _ AM.out, cell_of_row _ _ 5 _ _ _ AM.out, cell_of_row _ _ 6 _ _ _ AM.out⟩
  have hBM : B ≤ (X.alloc (.map does4 4)).heap.size := Nat.le_trans hBX hbM.size
  have CR := Lib.hid (thWrite kd B (X.alloc (.map does4 4)) t r (m.at c2) e evs x k n 2 0 0 ⟨_, TM.out⟩ RM.out.1 hBM hf hl hx hrv hr64 hid TBM.out)
  simp only [askC] at CR
  clear hbM hBM
  go_wp2_with fail
  refine (CR.out).mono ?_
  rintro en y9 ⟨rfl, hp, hq⟩
  have HP := Lib.hid (And.intro hp (RM.out.2.trans hq))
  have CF := Lib.hid (thFail0 t y9)
  clear hp hq
  go_wp2_with fail
  refine (CF.out).mono ?_
  rintro en y10 ⟨rfl, rfl⟩
  go_wp2_with fail
  refine bodyPost_end (results_none rfl _ _ _) rfl ⟨rfl, HP.out.1, HP.out.2⟩
end Go.Proofs.YteflpdhgojcmcaaGreatDoor
