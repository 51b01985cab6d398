/- The recorder's Read and Write, as a model. The recorder's Commit, Abort, Values and History, as a model. The walks of the thread's State and some. The walks of the thread's Id, Failed, Reads and Writes. No conditions but those that each theorem names. -/
import Derived.Test.YteflpdhgojcmcaaGreatDoorU01
import Derived.Test.YteflpdhgojcmcaaGreatDoorU24
import Derived.Test.YteflpdhgojcmcaaGreatDoorU12
namespace Go.Proofs.YteflpdhgojcmcaaGreatDoor
open Go.RowKit PSet PMat
theorem two_lim (B : Nat) (w y : World) (hB : B ≤ w.heap.size) (a b : Value) {cs : Array Value} (h : y.heap[w.heap.size]? = some (.cells cs 53 (0, 0))) :
    Lim (fun t => t == 53) B y ((y.setCell ⟨w.heap.size, 0, none⟩ a).setCell ⟨w.heap.size, 1, none⟩ b) ∧ ∀ E, Lim E B w y → Lim E B w ((y.setCell ⟨w.heap.size, 0, none⟩ a).setCell ⟨w.heap.size, 1, none⟩ b) := by
  have h1 : Chg (fun b => b = w.heap.size) y ((y.setCell ⟨w.heap.size, 0, none⟩ a).setCell ⟨w.heap.size, 1, none⟩ b) := (Chg.setCell (F := fun b => b = w.heap.size) (Chg.refl _ _) (.inl rfl) _).setCell (.inl rfl) _
  refine ⟨Chg.weak (F := fun b => b = w.heap.size) h1 fun i hi => .inl (by subst hi; exact ⟨hB, _, _, _, h, rfl⟩), fun E hl => ?_⟩
  exact Chg.trans (F := InT E B w) (G := fun b => b = w.heap.size) hl h1 fun i hi => .inr (by omega)
set_option maxRecDepth 100000 in
theorem rmWrite (kd : Kd) (B : Nat) (w : World) (r : Nat) (e : EngM) (evs : List EvM) (x : Nat) (k n : Int) (h : RecS kd B w r e evs) (hB : B ≤ w.heap.size) (hf : evs.length < 90000) (hl : e.live = some none) (hx : x < e.vals.length) (hrv : rightV k n = true) (hT : Tab w) :
    Calls Tryz.prog 305 #[.pointer (some ⟨r, 0, none⟩), .int .i64 (e.cnt : Int), .int .i64 (x : Int), .agg #[.int .i64 k, .int .i64 n]] w fun en w' => en = .returned (.int .i64 0) ∧ RecS kd B w' r (e.step ⟨x, k, n, true⟩) (evs ++ [⟨2, (e.cnt : Int), (x : Int), k, n⟩]) ∧ Lim RT B w w' := by
  obtain ⟨kd, g⟩ := kd
  obtain ⟨hv, h⟩ := h
  have h : RecI kd B w r g hv e evs := h
  obtain ⟨W, hW⟩ : ∃ W, W = w.alloc (.cells #[.int .i64 k, .int .i64 n] 53) := ⟨_, rfl⟩
  have hbW : Below w.heap.size w W := by rw [hW]; exact (Below.refl _ _).alloc (Nat.le_refl _) _
  have hrW : W.heap[w.heap.size]? = some (.cells #[.int .i64 k, .int .i64 n] 53 (0, 0)) := by rw [hW]; exact Go.heap_alloc_new _ _
  have hl0 : Lim ET B w W.drew := (Lim.of_below hbW).trans (Lim.of_below (Below.refl _ _).drew)
  have h' : RecI kd B W.drew r g hv e evs := rec_eng h (h.eng.lim (Lim.of_below (E := fun _ => false) (B := B) (hbW.drew)) (by decide)) hl0
  have h0 := rec_cell h'
  have hBW : B ≤ W.drew.heap.size := Nat.le_trans hB hbW.size
  have C1 := Lib.hid (fun (U : World) (hU : U.cell? ⟨r, 0, none⟩ = some (.iface (engT kd) (.pointer (some ⟨g, 0, none⟩)))) => reGood r (engT kd) _ U hU)
  have C2 := Lib.hid (enWrite kd B W.drew g e x k n h'.eng hBW hl hx hrv (hT.below hT.pos hbW.drew))
  have HH := Lib.hid h'
  have HR := Lib.hid h'.rec_
  have C3 := Lib.hid (fun (U : World) (hE : EngS kd B U g (e.step ⟨x, k, n, true⟩)) (hl : Lim ET B W.drew U) => keepM kd B U r g hv _ evs ⟨2, (e.cnt : Int), (x : Int), k, n⟩ (rec_eng HH.out hE hl) (Nat.le_trans hBW hl.size) hf)
  have HRW := Lib.hid hrW
  have HL0 := Lib.hid hl0
  have b0 := cell_of_row _ _ 0 _ _ _ hrW
  have b1 := cell_of_row _ _ 1 _ _ _ hrW
  have hS0 : (fun w' : World => w'.cell? ⟨r, 0, none⟩ = some (.iface (engT kd) (.pointer (some ⟨g, 0, none⟩))) ∧ w'.cell? ⟨w.heap.size, 0, none⟩ = some (.int .i64 k) ∧ w'.cell? ⟨w.heap.size, 1, none⟩ = some (.int .i64 n)) W.drew := ⟨h0, b0, b1⟩
  have g0 : W.cell? ⟨r, 0, none⟩ = some (.iface (engT kd) (.pointer (some ⟨g, 0, none⟩))) := h0
  clear h h' hl hT hbW hrW hl0 h0 b0 b1
  generalize e.step ⟨x, k, n, true⟩ = e2 at *
  generalize (e.cnt : Int) = c at *
  cases kd
  · simp only [engT, fWrite] at g0 hS0 C1 C2
    go_enter Tryz.func305, Tryz.ntmps305
    go_wp2_with fail
    rw [← hW]
    clear hW
    have C1' := Lib.hid (C1.out W g0)
    clear g0
    refine (C1'.out).mono ?_
    rintro en y ⟨rfl, rfl⟩
    clear C1'
    go_wp2_with fail
    refine zRegion 8 (S := fun w' : World => w'.cell? ⟨r, 0, none⟩ = some (.iface 101 (.pointer (some ⟨g, 0, none⟩))) ∧ w'.cell? ⟨w.heap.size, 0, none⟩ = some (.int .i64 k) ∧ w'.cell? ⟨w.heap.size, 1, none⟩ = some (.int .i64 n)) (by kernel_rfl) hS0 (fun hHeld => ?_)
    clear hS0
    refine zd 0 (v := ?_) ?_ ?_
    rotate_left
    · rintro w ⟨hS1, hS2, hS3⟩; go_simp; try with_reducible rfl
    simp only [Act.put, pt1, pt2, pt3]
    refine zd 1 (v := ?_) ?_ ?_
    rotate_left
    · rintro w ⟨hS1, hS2, hS3⟩; go_simp; try with_reducible rfl
    simp only [Act.put, pt1, pt2, pt3]
    refine zd 2 (v := ?_) ?_ ?_
    rotate_left
    · rintro w ⟨hS1, hS2, hS3⟩; go_simp; try with_reducible rfl
    simp only [Act.put, pt1, pt2, pt3]
    refine zd 3 (v := ?_) ?_ ?_
    rotate_left
    · rintro w ⟨hS1, hS2, hS3⟩; go_simp; try with_reducible rfl
    simp only [Act.put, pt1, pt2, pt3]
    refine zd 4 (v := ?_) ?_ ?_
    rotate_left
    · rintro w ⟨hS1, hS2, hS3⟩; go_simp; try with_reducible rfl
    simp only [Act.put, pt1, pt2, pt3]
    refine zd 5 (v := ?_) ?_ ?_
    rotate_left
    · rintro w ⟨hS1, hS2, hS3⟩; go_simp; try with_reducible rfl
    simp only [Act.put, pt1, pt2, pt3]
    refine zd 6 (v := ?_) ?_ ?_
    rotate_left
    · rintro w ⟨hS1, hS2, hS3⟩; go_simp; try with_reducible rfl
    simp only [Act.put, pt1, pt2, pt3]
    refine zcl 7 (fun K' hK => ?_)
    go_simp
    go_wp2_with fail
    refine (C2.out).mono ?_
    rintro en y6 ⟨rfl, hE, hli⟩
    have q0 := rec_cell (rec_eng HH.out hE hli)
    have q1 := block_lim (show W.drew.heap[w.heap.size]? = some (.cells #[.int .i64 k, .int .i64 n] 53 (0, 0)) from HRW.out) hli rfl
    simp only [engT] at q0
    have hS6 : (fun w' : World => w'.cell? ⟨r, 0, none⟩ = some (.iface 101 (.pointer (some ⟨g, 0, none⟩))) ∧ w'.cell? ⟨w.heap.size, 0, none⟩ = some (.int .i64 k) ∧ w'.cell? ⟨w.heap.size, 1, none⟩ = some (.int .i64 n)) y6 := ⟨q0, cell_of_row _ _ 0 _ _ _ q1, cell_of_row _ _ 1 _ _ _ q1⟩
    have C3' := Lib.hid (C3.out y6 hE hli)
    have HL6 := Lib.hid (HL0.out.trans hli)
    clear hE hli q0 q1
    go_wp2_with fail
    refine hK.out _ _ ?_ (fun hHeld => ?_)
    · exact hS6
    clear hK K'
    try simp only [Act.put, pt1, pt2, pt3]
    refine zla (fun K' hK => ?_)
    go_simp
    refine hK.out _ _ ?_
    clear hK K'
    try simp only [Act.put, pt1, pt2, pt3]
    obtain ⟨_, s1, s2⟩ := hS6
    simp only [EvM.cells] at C3'
    go_wp2_with fail
    refine (C3'.out).mono ?_
    rintro en y2 ⟨rfl, p1, p2⟩
    have HF := Lib.hid (And.intro p1 ((et_rt HL6.out).trans p2))
    clear p1 p2
    go_wp2_with fail
    go_ret
    exact ⟨rfl, HF.out.1, HF.out.2⟩
  · simp only [engT, fWrite] at g0 hS0 C1 C2
    go_enter Tryz.func305, Tryz.ntmps305
    go_wp2_with fail
    rw [← hW]
    clear hW
    have C1' := Lib.hid (C1.out W g0)
    clear g0
    refine (C1'.out).mono ?_
    rintro en y ⟨rfl, rfl⟩
    clear C1'
    go_wp2_with fail
    refine zRegion 8 (S := fun w' : World => w'.cell? ⟨r, 0, none⟩ = some (.iface 98 (.pointer (some ⟨g, 0, none⟩))) ∧ w'.cell? ⟨w.heap.size, 0, none⟩ = some (.int .i64 k) ∧ w'.cell? ⟨w.heap.size, 1, none⟩ = some (.int .i64 n)) (by kernel_rfl) hS0 (fun hHeld => ?_)
    clear hS0
    refine zd 0 (v := ?_) ?_ ?_
    rotate_left
    · rintro w ⟨hS1, hS2, hS3⟩; go_simp; try with_reducible rfl
    simp only [Act.put, pt1, pt2, pt3]
    refine zd 1 (v := ?_) ?_ ?_
    rotate_left
    · rintro w ⟨hS1, hS2, hS3⟩; go_simp; try with_reducible rfl
    simp only [Act.put, pt1, pt2, pt3]
    refine zd 2 (v := ?_) ?_ ?_
    rotate_left
    · rintro w ⟨hS1, hS2, hS3⟩; go_simp; try with_reducible rfl
    simp only [Act.put, pt1, pt2, pt3]
    refine zd 3 (v := ?_) ?_ ?_
    rotate_left
    · rintro w ⟨hS1, hS2, hS3⟩; go_simp; try with_reducible rfl
    simp only [Act.put, pt1, pt2, pt3]
    refine zd 4 (v := ?_) ?_ ?_
    rotate_left
    · rintro w ⟨hS1, hS2, hS3⟩; go_simp; try with_reducible rfl
    simp only [Act.put, pt1, pt2, pt3]
    refine zd 5 (v := ?_) ?_ ?_
    rotate_left
    · rintro w ⟨hS1, hS2, hS3⟩; go_simp; try with_reducible rfl
    simp only [Act.put, pt1, pt2, pt3]
    refine zd 6 (v := ?_) ?_ ?_
    rotate_left
    · rintro w ⟨hS1, hS2, hS3⟩; go_simp; try with_reducible rfl
    simp only [Act.put, pt1, pt2, pt3]
    refine zcl 7 (fun K' hK => ?_)
    go_simp
    go_wp2_with fail
    refine (C2.out).mono ?_
    rintro en y6 ⟨rfl, hE, hli⟩
    have q0 := rec_cell (rec_eng HH.out hE hli)
    have q1 := block_lim (show W.drew.heap[w.heap.size]? = some (.cells #[.int .i64 k, .int .i64 n] 53 (0, 0)) from HRW.out) hli rfl
    simp only [engT] at q0
    have hS6 : (fun w' : World => w'.cell? ⟨r, 0, none⟩ = some (.iface 98 (.pointer (some ⟨g, 0, none⟩))) ∧ w'.cell? ⟨w.heap.size, 0, none⟩ = some (.int .i64 k) ∧ w'.cell? ⟨w.heap.size, 1, none⟩ = some (.int .i64 n)) y6 := ⟨q0, cell_of_row _ _ 0 _ _ _ q1, cell_of_row _ _ 1 _ _ _ q1⟩
    have C3' := Lib.hid (C3.out y6 hE hli)
    have HL6 := Lib.hid (HL0.out.trans hli)
    clear hE hli q0 q1
    go_wp2_with fail
    refine hK.out _ _ ?_ (fun hHeld => ?_)
    · exact hS6
    clear hK K'
    try simp only [Act.put, pt1, pt2, pt3]
    refine zla (fun K' hK => ?_)
    go_simp
    refine hK.out _ _ ?_
    clear hK K'
    try simp only [Act.put, pt1, pt2, pt3]
    obtain ⟨_, s1, s2⟩ := hS6
    simp only [EvM.cells] at C3'
    go_wp2_with fail
    refine (C3'.out).mono ?_
    rintro en y2 ⟨rfl, p1, p2⟩
    have HF := Lib.hid (And.intro p1 ((et_rt HL6.out).trans p2))
    clear p1 p2
    go_wp2_with fail
    go_ret
    exact ⟨rfl, HF.out.1, HF.out.2⟩
set_option maxRecDepth 100000 in
theorem rmRead (kd : Kd) (B : Nat) (w : World) (r : Nat) (e : EngM) (evs : List EvM) (x : Nat) (k n : Int) (h : RecS kd B w r e evs) (hB : B ≤ w.heap.size) (hf : evs.length < 90000) (hl : e.live = some none) (hx : e.vals[x]? = some (k, n)) (hT : Tab w) :
    Calls Tryz.prog 303 #[.pointer (some ⟨r, 0, none⟩), .int .i64 (e.cnt : Int), .int .i64 (x : Int)] w fun en w' => en = .returned (.tuple #[.agg #[.int .i64 k, .int .i64 n], .int .i64 0]) ∧ RecS kd B w' r (e.step ⟨x, k, n, false⟩) (evs ++ [⟨1, (e.cnt : Int), (x : Int), k, n⟩]) ∧ Lim RT B w w' := by
  obtain ⟨kd, g⟩ := kd
  obtain ⟨hv, h⟩ := h
  have h : RecI kd B w r g hv e evs := h
  obtain ⟨W, hW⟩ : ∃ W, W = w.alloc (.cells #[.int .i64 0, .int .i64 0] 53) := ⟨_, rfl⟩
  have hbW : Below w.heap.size w W := by rw [hW]; exact (Below.refl _ _).alloc (Nat.le_refl _) _
  have hrW : W.heap[w.heap.size]? = some (.cells #[.int .i64 0, .int .i64 0] 53 (0, 0)) := by rw [hW]; exact Go.heap_alloc_new _ _
  have hl0 : Lim ET B w W := (Lim.of_below hbW)
  have h' : RecI kd B W r g hv e evs := rec_eng h (h.eng.lim (Lim.of_below (E := fun _ => false) (B := B) hbW) (by decide)) hl0
  have h0 := rec_cell h'
  have hBW : B ≤ W.heap.size := Nat.le_trans hB hbW.size
  have C1 := Lib.hid (fun (U : World) (hU : U.cell? ⟨r, 0, none⟩ = some (.iface (engT kd) (.pointer (some ⟨g, 0, none⟩)))) => reGood r (engT kd) _ U hU)
  have C2 := Lib.hid (enRead kd B W g e x k n h'.eng hBW hl hx (hT.below hT.pos hbW))
  have HH := Lib.hid h'
  have C3 := Lib.hid (fun (U : World) (hE : EngS kd B U g (e.step ⟨x, k, n, false⟩)) (hl : Lim ET B W U) => keepM kd B U r g hv _ evs ⟨1, (e.cnt : Int), (x : Int), k, n⟩ (rec_eng HH.out hE hl) (Nat.le_trans hBW hl.size) hf)
  have HRW := Lib.hid hrW
  have HL0 := Lib.hid hl0
  clear h h' hl hT hbW hrW hl0
  generalize e.step ⟨x, k, n, false⟩ = e2 at *
  generalize (e.cnt : Int) = c at *
  cases kd
  all_goals
    simp only [engT, fRead] at h0 C1 C2
    go_enter Tryz.func303, Tryz.ntmps303
    go_wp2_with fail
    rw [← hW]
    clear hW
    have C1' := Lib.hid (C1.out W h0)
    refine (C1'.out).mono ?_
    rintro en y ⟨rfl, rfl⟩
    clear C1'
    go_wp2_with fail
    refine (C2.out).mono ?_
    rintro en y1 ⟨rfl, hE, hli⟩
    obtain ⟨U, hU⟩ : ∃ U, U = y1.alloc (.cells #[.int .i64 k, .int .i64 n] 53) := ⟨_, rfl⟩
    have hbU : Below y1.heap.size y1 U := by rw [hU]; exact (Below.refl _ _).alloc (Nat.le_refl _) _
    have hrU : U.heap[y1.heap.size]? = some (.cells #[.int .i64 k, .int .i64 n] 53 (0, 0)) := by rw [hU]; exact Go.heap_alloc_new _ _
    have hl1 : Lim ET B W U := hli.trans (Lim.of_below hbU)
    have C3' := Lib.hid (C3.out U (hE.lim (Lim.of_below (E := fun _ => false) (B := B) hbU) (by decide)) hl1)
    have HL1 := Lib.hid (HL0.out.trans hl1)
    have HRU := Lib.hid hrU
    have s0 := cell_of_row _ _ 0 _ _ _ hrU
    have s1 := cell_of_row _ _ 1 _ _ _ hrU
    have q1 := Lib.hid (block_lim HRW.out hl1 rfl)
    have hlw : w.heap.size < y1.heap.size := Nat.lt_of_lt_of_le (block_lt HRW.out) hli.size
    clear hE hli hbU hrU hl1
    go_upto_region 4 with fail
    rw [← hU]
    clear hU
    simp only [EvM.cells] at C3'
    go_wp2_with fail
    refine (C3'.out).mono ?_
    rintro en y2 ⟨rfl, p1, p2⟩
    have HP := Lib.hid (block_lim HRU.out p2 rfl)
    have HQ := Lib.hid (block_lim q1.out p2 rfl)
    have HF := Lib.hid (And.intro p1 ((et_rt HL1.out).trans p2))
    have s2 := cell_of_row _ _ 0 _ _ _ HP.out
    have s3 := cell_of_row _ _ 1 _ _ _ HP.out
    have hlt := block_lt HQ.out
    have s4 := cell_of_row _ _ 0 _ _ _ HQ.out
    have s5 := cell_of_row _ _ 1 _ _ _ HQ.out
    have sf := fun j => frozen_of_row _ _ j _ _ HQ.out
    clear p1 p2
    go_wp2_with fail
    have hch := two_lim B w y2 hB (.int .i64 k) (.int .i64 n) HQ.out
    have e9 : ((y2.setCell ⟨w.heap.size, 0, none⟩ (.int .i64 k)).setCell ⟨w.heap.size, 1, none⟩ (.int .i64 n)).heap[w.heap.size]? = some (.cells #[.int .i64 k, .int .i64 n] 53 (0, 0)) := setCells_row w.heap.size 53 [.int .i64 k, .int .i64 n] _ 0 y2 HQ.out
    refine bodyPost_ret (results_cell_tmp rfl _ _ w.heap.size 53 #[.int .i64 k, .int .i64 n] (0, 0) _ rfl e9 Tryz.underlying53 rfl (by kernel_rfl)) rfl ⟨rfl, HF.out.1.lim hch.1 (by decide), hch.2 RT HF.out.2⟩
end Go.Proofs.YteflpdhgojcmcaaGreatDoor
namespace Go.Proofs.YteflpdhgojcmcaaGreatDoor
open Go.RowKit PSet PMat
/-- A method by its name, as a value. -/
def byName (m : String) : Value := .func (.methodOf 91 m) #[] #[]
set_option maxRecDepth 100000 in
theorem rmEndsC (kd : Kd) (B : Nat) (w : World) (r : Nat) (e : EngM) (evs : List EvM) (t : Option StepM) (h : RecS kd B w r e evs) (hB : B ≤ w.heap.size) (hB0 : 0 < B) (hf : evs.length < 90000) (hl : e.live = some t) (hfew : e.log.length < 100000) (hT : Tab w) :
    Calls Tryz.prog 306 #[.pointer (some ⟨r, 0, none⟩), .int .i64 (e.cnt : Int), .int .i64 3, byName "Commit"] w fun en w' => en = .returned (.int .i64 0) ∧ RecS kd B w' r (e.commit t) (evs ++ [⟨3, (e.cnt : Int), 0, 0, 0⟩]) ∧ Lim RT B w w' := by
  obtain ⟨kd, g⟩ := kd
  obtain ⟨hv, h⟩ := h
  have h : RecI kd B w r g hv e evs := h
  have h0 := rec_cell h
  have C1 := Lib.hid (reGood r (engT kd) _ w h0)
  have C2 := Lib.hid (enCommit kd B w g e t h.eng hB hB0 hl hfew hT)
  have HH := Lib.hid h
  have C3 := Lib.hid (fun (W : World) (hE : EngS kd B W g (e.commit t)) (hl : Lim ET B w W) => keepM kd B W r g hv _ evs ⟨3, (e.cnt : Int), 0, 0, 0⟩ (rec_eng HH.out hE hl) (Nat.le_trans hB hl.size) hf)
  clear h hl hT
  generalize (e.commit t) = e2 at *
  generalize (e.cnt : Int) = c at *
  unfold byName
  cases kd
  all_goals
    simp only [engT, fCommit] at h0 C1 C2
    go_enter Tryz.func306, Tryz.ntmps306
    go_wp2_with fail
    refine (C1.out).mono ?_
    rintro en y ⟨rfl, rfl⟩
    go_wp2_with fail
    refine (C2.out).mono ?_
    rintro en y ⟨rfl, hE, hli⟩
    have C3' := Lib.hid (C3.out y hE hli)
    have HL := Lib.hid hli
    clear hE hli
    simp only [EvM.cells] at C3'
    go_wp2_with fail
    refine (C3'.out).mono ?_
    rintro en y2 ⟨rfl, p1, p2⟩
    have HF := Lib.hid (And.intro p1 ((et_rt HL.out).trans p2))
    clear p1 p2
    go_wp2_with fail
    go_ret
    exact ⟨rfl, HF.out.1, HF.out.2⟩
set_option maxRecDepth 100000 in
theorem rmCommit (kd : Kd) (B : Nat) (w : World) (r : Nat) (e : EngM) (evs : List EvM) (t : Option StepM) (h : RecS kd B w r e evs) (hB : B ≤ w.heap.size) (hB0 : 0 < B) (hf : evs.length < 90000) (hl : e.live = some t) (hfew : e.log.length < 100000) (hT : Tab w) :
    Calls Tryz.prog 302 #[.pointer (some ⟨r, 0, none⟩), .int .i64 (e.cnt : Int)] w fun en w' => en = .returned (.int .i64 0) ∧ RecS kd B w' r (e.commit t) (evs ++ [⟨3, (e.cnt : Int), 0, 0, 0⟩]) ∧ Lim RT B w w' := by
  have C1 := Lib.hid (rmEndsC kd B w r e evs t h hB hB0 hf hl hfew hT)
  unfold byName at C1
  clear h hl hT
  generalize (e.commit t) = e2 at *
  generalize (e.cnt : Int) = c at *
  go_enter Tryz.func302, Tryz.ntmps302
  go_wp2_with fail
  refine (C1.out).mono ?_
  rintro en y ⟨rfl, hE, hli⟩
  have HL := Lib.hid (And.intro hE hli)
  clear hE hli
  go_wp2_with fail
  go_ret
  exact ⟨rfl, HL.out.1, HL.out.2⟩
set_option maxRecDepth 100000 in
theorem rmEndsA (kd : Kd) (B : Nat) (w : World) (r : Nat) (e : EngM) (evs : List EvM) (t : Option StepM) (h : RecS kd B w r e evs) (hB : B ≤ w.heap.size) (hB0 : 0 < B) (hf : evs.length < 90000) (hl : e.live = some t) (hfew : e.log.length < 100000) (hT : Tab w) :
    Calls Tryz.prog 306 #[.pointer (some ⟨r, 0, none⟩), .int .i64 (e.cnt : Int), .int .i64 4, byName "Abort"] w fun en w' => en = .returned (.int .i64 0) ∧ RecS kd B w' r (e.over false t) (evs ++ [⟨4, (e.cnt : Int), 0, 0, 0⟩]) ∧ Lim RT B w w' := by
  obtain ⟨kd, g⟩ := kd
  obtain ⟨hv, h⟩ := h
  have h : RecI kd B w r g hv e evs := h
  have h0 := rec_cell h
  have C1 := Lib.hid (reGood r (engT kd) _ w h0)
  have C2 := Lib.hid (enAbort kd B w g e t h.eng hB hB0 hl hfew hT)
  have HH := Lib.hid h
  have C3 := Lib.hid (fun (W : World) (hE : EngS kd B W g (e.over false t)) (hl : Lim ET B w W) => keepM kd B W r g hv _ evs ⟨4, (e.cnt : Int), 0, 0, 0⟩ (rec_eng HH.out hE hl) (Nat.le_trans hB hl.size) hf)
  clear h hl hT
  generalize (e.over false t) = e2 at *
  generalize (e.cnt : Int) = c at *
  unfold byName
  cases kd
  all_goals
    simp only [engT, fAbort] at h0 C1 C2
    go_enter Tryz.func306, Tryz.ntmps306
    go_wp2_with fail
    refine (C1.out).mono ?_
    rintro en y ⟨rfl, rfl⟩
    go_wp2_with fail
    refine (C2.out).mono ?_
    rintro en y ⟨rfl, hE, hli⟩
    have C3' := Lib.hid (C3.out y hE hli)
    have HL := Lib.hid hli
    clear hE hli
    simp only [EvM.cells] at C3'
    go_wp2_with fail
    refine (C3'.out).mono ?_
    rintro en y2 ⟨rfl, p1, p2⟩
    have HF := Lib.hid (And.intro p1 ((et_rt HL.out).trans p2))
    clear p1 p2
    go_wp2_with fail
    go_ret
    exact ⟨rfl, HF.out.1, HF.out.2⟩
set_option maxRecDepth 100000 in
theorem rmAbort (kd : Kd) (B : Nat) (w : World) (r : Nat) (e : EngM) (evs : List EvM) (t : Option StepM) (h : RecS kd B w r e evs) (hB : B ≤ w.heap.size) (hB0 : 0 < B) (hf : evs.length < 90000) (hl : e.live = some t) (hfew : e.log.length < 100000) (hT : Tab w) :
    Calls Tryz.prog 299 #[.pointer (some ⟨r, 0, none⟩), .int .i64 (e.cnt : Int)] w fun en w' => en = .returned (.int .i64 0) ∧ RecS kd B w' r (e.over false t) (evs ++ [⟨4, (e.cnt : Int), 0, 0, 0⟩]) ∧ Lim RT B w w' := by
  have C1 := Lib.hid (rmEndsA kd B w r e evs t h hB hB0 hf hl hfew hT)
  unfold byName at C1
  clear h hl hT
  generalize (e.over false t) = e2 at *
  generalize (e.cnt : Int) = c at *
  go_enter Tryz.func299, Tryz.ntmps299
  go_wp2_with fail
  refine (C1.out).mono ?_
  rintro en y ⟨rfl, hE, hli⟩
  have HL := Lib.hid (And.intro hE hli)
  clear hE hli
  go_wp2_with fail
  go_ret
  exact ⟨rfl, HL.out.1, HL.out.2⟩
theorem rmValues (kd : Kd) (B : Nat) (w : World) (r : Nat) (e : EngM) (evs : List EvM) (h : RecS kd B w r e evs) :
    Calls Tryz.prog 41 #[.pointer (some ⟨r, 0, none⟩)] w fun en w' => ∃ v', en = .returned v' ∧ w'.ownsRow w.heap.size 53 2 v' e.vals.length (regsC e.vals) ∧ Below w.heap.size w w' := by
  obtain ⟨kd, g⟩ := kd
  obtain ⟨hv, h⟩ := h
  have h : RecI kd B w r g hv e evs := h
  exact (reValues r (engT kd) g (fValues kd) (fun v' w' => w'.ownsRow w.heap.size 53 2 v' e.vals.length (regsC e.vals) ∧ Below w.heap.size w w') w (rec_cell h) (by cases kd <;> simp [engT, fValues]) (enValues kd B w g e h.eng))
theorem evsC_one (l : List EvM) : AllOne (evsC l) := by
  intro v hv
  obtain ⟨e, _, he⟩ := List.mem_flatMap.1 hv
  simp [EvM.cells] at he
  rcases he with rfl | rfl | rfl | rfl | rfl <;> rfl
set_option maxRecDepth 100000 in
theorem rmHistory (kd : Kd) (B : Nat) (w : World) (r : Nat) (e : EngM) (evs : List EvM) (h : RecS kd B w r e evs) :
    Calls Tryz.prog 49 #[.pointer (some ⟨r, 0, none⟩)] w fun en w' => ∃ v', en = .returned v' ∧ w'.ownsRow w.heap.size 193 5 v' evs.length (evsC evs) ∧ Below w.heap.size w w' := by
  obtain ⟨kd, g⟩ := kd
  obtain ⟨hv, h⟩ := h
  have h : RecI kd B w r g hv e evs := h
  have h0 := rec_cell h
  have h1 : w.cell? ⟨r, 1, none⟩ = some hv := cell_of_row _ _ 1 _ _ _ h.rec_
  have C1 := Lib.hid (reGood r (engT kd) _ w h0)
  have C2 := Lib.hid (clone99 hv evs.length (evsC evs) w (RowAt.of_owns h.row) (evsC_one _) (Nat.le_trans h.few (by omega)))
  obtain ⟨_, ha, hc, rfl, _⟩ := RowAt.of_owns h.row
  clear h
  go_enter Tryz.func49, Tryz.ntmps49
  go_wp2_with fail
  refine (C1.out).mono ?_
  rintro en y ⟨rfl, rfl⟩
  go_wp2_with fail
  refine (C2.out).mono ?_
  rintro en y ⟨v', rfl, q1, q2⟩
  have HL := Lib.hid (And.intro q1 q2)
  clear q1 q2
  go_wp2_with fail
  go_ret
  exact ⟨v', rfl, HL.out.1, HL.out.2⟩
end Go.Proofs.YteflpdhgojcmcaaGreatDoor
namespace Go.Proofs.YteflpdhgojcmcaaGreatDoor
open Go.RowKit PSet PMat
theorem thState (t : Nat) (s : Int) (w : World) (h : w.cell? ⟨t, 38, none⟩ = some (.int .i64 s)) : Calls Tryz.prog 11 #[.pointer (some ⟨t, 0, none⟩)] w fun e w' => e = .returned (.int .i64 s) ∧ w = w' := by
  go_enter Tryz.func11, Tryz.ntmps11
  go_wp2_with fail
  go_ret
  exact ⟨rfl, rfl⟩
structure ThrAt (w : World) (t : Nat) (T : List Value) : Prop where
  at0 : w.heap[t]? = some (.cells T.toArray 96 (0, 0))
  len : T.length = 44
  one : T.toArray.all (·.oneCell') = true
theorem size96 : (Tryz.prog.info? 96).map (·.size) = some 44 := by kernel_rfl
theorem info96 {T : List Value} (h : T.length = 44) : (Tryz.prog.info? 96).map (·.size) = some T.toArray.size := by rw [List.size_toArray, h]; exact size96
def zeroThr : Array Value := #[Value.nilIface, Value.slice none 0 0, Value.int .i64 0, Value.int .i64 0, Value.int .i64 0, Value.int .i64 0, Value.int .i64 0, Value.int .i64 0, Value.int .i64 0, Value.int .i64 0, Value.int .i64 0, Value.int .i64 0, Value.int .i64 0, Value.int .i64 0, Value.int .i64 0, Value.int .i64 0, Value.int .i64 0, Value.int .i64 0, Value.int .i64 0, Value.int .i64 0, Value.int .i64 0, Value.int .i64 0, Value.int .i64 0, Value.int .i64 0, Value.int .i64 0, Value.int .i64 0, Value.int .i64 0, Value.int .i64 0, Value.int .i64 0, Value.int .i64 0, Value.int .i64 0, Value.int .i64 0, Value.int .i64 0, Value.int .i64 0, Value.int .i64 0, Value.int .i64 0, Value.int .i64 0, Value.slice none 0 0, Value.int .i64 0, Value.int .i64 0, Value.int .i64 0, Value.int .i64 0, Value.int .u64 0, Value.int .u64 0]
set_option maxRecDepth 100000 in
theorem thSome (t : Nat) (T : List Value) (w : World) (h : ThrAt w t T) : Calls Tryz.prog 27 #[.pointer (some ⟨t, 0, none⟩)] w fun e w' => e = .returned (.agg T.toArray) ∧ Below w.heap.size w w' := by
  have hz := Go.heap_alloc_new w (.cells zeroThr 96)
  have hb0 : Below w.heap.size w (w.alloc (.cells zeroThr 96)) := (Below.refl _ _).alloc (Nat.le_refl _) _
  have h1 := (hb0.block _ (block_lt h.at0)).trans h.at0
  have HZ := Lib.hid hz
  have HB := Lib.hid hb0
  have H1 := Lib.hid h1
  have HT := Lib.hid h
  have hzs : zeroThr.size = 44 := by rfl
  have HZS := Lib.hid hzs
  clear hz hb0 h1 h hzs
  go_enter Tryz.func27, Tryz.ntmps27
  go_wp2_with (first
    | (refine wpList_load_row rfl 96 _ rfl t rfl 96 T.toArray (0, 0) _ H1.out Tryz.underlying96 rfl (info96 HT.out.len) ?_)
    | (refine wpList_store_row rfl 96 _ _ rfl w.heap.size T.toArray rfl rfl 96 zeroThr HZ.out (info96 HT.out.len) (by rw [HZS.out, List.size_toArray, HT.out.len]) HT.out.one ?_))
  refine bodyPost_ret (results_cell_row rfl _ _ w.heap.size 96 T.toArray (0, 0) _ rfl (block_setRow_same HZ.out) Tryz.underlying96 rfl (info96 HT.out.len)) rfl ⟨rfl, ?_⟩
  exact below_setRow' HB.out (Nat.le_refl _) _
end Go.Proofs.YteflpdhgojcmcaaGreatDoor
namespace Go.Proofs.YteflpdhgojcmcaaGreatDoor
open Go.RowKit PSet PMat
theorem agg3 (w : World) : (isAgg 3).run Tryz.prog w = .ok false w := by kernel_rfl
theorem agg84 (w : World) : (isAgg 84).run Tryz.prog w = .ok false w := by kernel_rfl
theorem part_cell (t off : Nat) (T : List Value) (v : Value) (w : World) (ht : ∀ w, (isAgg t).run Tryz.prog w = .ok false w) (h : T[off]? = some v) : (part t T.toArray off).run Tryz.prog w = .ok v w := by
  unfold part
  simp [Sem.run_bind, ht, h]
theorem field96_6 (T : List Value) (v : Value) (w : World) (h : T[39]? = some v) : (Instr.field 96 (.agg T.toArray) 6).run Tryz.prog w = .ok v w := by
  unfold Instr.field
  simp [run_underlying Tryz.underlying96, asAgg, part_cell 3 39 T v w agg3 h]
theorem field96_9 (T : List Value) (v : Value) (w : World) (h : T[42]? = some v) : (Instr.field 96 (.agg T.toArray) 9).run Tryz.prog w = .ok v w := by
  unfold Instr.field
  simp [run_underlying Tryz.underlying96, asAgg, part_cell 84 42 T v w agg84 h]
theorem field96_10 (T : List Value) (v : Value) (w : World) (h : T[43]? = some v) : (Instr.field 96 (.agg T.toArray) 10).run Tryz.prog w = .ok v w := by
  unfold Instr.field
  simp [run_underlying Tryz.underlying96, asAgg, part_cell 84 43 T v w agg84 h]
theorem thId (t : Nat) (T : List Value) (v : Value) (w : World) (h : ThrAt w t T) (hv : T[39]? = some v) : Calls Tryz.prog 12 #[.pointer (some ⟨t, 0, none⟩)] w fun e w' => e = .returned v ∧ Below w.heap.size w w' := by
  have C := Lib.hid (thSome t T w h)
  have F := fun w => field96_6 T v w hv
  clear h hv
  go_enter Tryz.func12, Tryz.ntmps12
  go_wp2_with fail
  refine (C.out).mono ?_
  rintro e y ⟨rfl, hb⟩
  have HB := Lib.hid hb
  clear hb
  go_wp2_with fail
  go_ret
  exact ⟨rfl, HB.out⟩
theorem thReads (t : Nat) (T : List Value) (v : Value) (w : World) (h : ThrAt w t T) (hv : T[42]? = some v) : Calls Tryz.prog 127 #[.pointer (some ⟨t, 0, none⟩)] w fun e w' => e = .returned v ∧ Below w.heap.size w w' := by
  have C := Lib.hid (thSome t T w h)
  have F := fun w => field96_9 T v w hv
  clear h hv
  go_enter Tryz.func127, Tryz.ntmps127
  go_wp2_with fail
  refine (C.out).mono ?_
  rintro e y ⟨rfl, hb⟩
  have HB := Lib.hid hb
  clear hb
  go_wp2_with fail
  go_ret
  exact ⟨rfl, HB.out⟩
theorem thWrites (t : Nat) (T : List Value) (v : Value) (w : World) (h : ThrAt w t T) (hv : T[43]? = some v) : Calls Tryz.prog 124 #[.pointer (some ⟨t, 0, none⟩)] w fun e w' => e = .returned v ∧ Below w.heap.size w w' := by
  have C := Lib.hid (thSome t T w h)
  have F := fun w => field96_10 T v w hv
  clear h hv
  go_enter Tryz.func124, Tryz.ntmps124
  go_wp2_with fail
  refine (C.out).mono ?_
  rintro e y ⟨rfl, hb⟩
  have HB := Lib.hid hb
  clear hb
  go_wp2_with fail
  go_ret
  exact ⟨rfl, HB.out⟩
end Go.Proofs.YteflpdhgojcmcaaGreatDoor
