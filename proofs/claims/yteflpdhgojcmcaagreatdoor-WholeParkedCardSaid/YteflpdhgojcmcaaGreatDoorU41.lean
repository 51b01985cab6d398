/- The plain law of WholeParked, whole: the worlds that come up, for all variables and all numbers. The walk of WholeParked, over what works answers. The walk of topo's Right, of the order that a new pool has. The walk of topo's Row, of the order that a new pool has. No conditions but those that each theorem names. -/
import Derived.Test.YteflpdhgojcmcaaGreatDoorU01
import Derived.Test.YteflpdhgojcmcaaGreatDoorU37
import Derived.Test.YteflpdhgojcmcaaGreatDoorU38
import Derived.Test.YteflpdhgojcmcaaGreatDoorU39
import Derived.Test.YteflpdhgojcmcaaGreatDoorU40
import Derived.Test.YteflpdhgojcmcaaGreatDoorU09
import Derived.Test.YteflpdhgojcmcaaGreatDoorU03
import Derived.LoopN
namespace Go.Proofs.YteflpdhgojcmcaaGreatDoor
open Go.RowKit PSet PMat
theorem fine_all (k o : Nat) (hk : k < 4) (ho : o < 4) (hne : o ≠ k) : fineAll k o = true := by
  rcases (show k = 0 ∨ k = 1 ∨ k = 2 ∨ k = 3 by omega) with rfl | rfl | rfl | rfl
  · rcases (show o = 0 ∨ o = 1 ∨ o = 2 ∨ o = 3 by omega) with rfl | rfl | rfl | rfl
    · exact absurd rfl hne
    · exact fine01
    · exact fine02
    · exact fine03
  · rcases (show o = 0 ∨ o = 1 ∨ o = 2 ∨ o = 3 by omega) with rfl | rfl | rfl | rfl
    · exact fine10
    · exact absurd rfl hne
    · exact fine12
    · exact fine13
  · rcases (show o = 0 ∨ o = 1 ∨ o = 2 ∨ o = 3 by omega) with rfl | rfl | rfl | rfl
    · exact fine20
    · exact fine21
    · exact absurd rfl hne
    · exact fine23
  · rcases (show o = 0 ∨ o = 1 ∨ o = 2 ∨ o = 3 by omega) with rfl | rfl | rfl | rfl
    · exact fine30
    · exact fine31
    · exact fine32
    · exact absurd rfl hne
theorem fineAll_says {k o : Nat} (h : fineAll k o = true) : ∃ P, parkedM (k : Int) = some P ∧ states P = [(2, 0)] ∧ ∀ n, n < 256 → fine2 P k o n = true := by
  unfold fineAll at h
  split at h
  · cases h
  rename_i P hP
  simp only [Bool.and_eq_true, decide_eq_true_eq] at h
  exact ⟨P, hP, h.1.2, fun n hn => List.all_eq_true.1 h.2 n (List.mem_range.2 hn)⟩
theorem states1 {M : WorM} {a : Int × Int} (h : states M = [a]) : ∃ m, M.seats = [m] ∧ m.thr.state = a.1 := by
  unfold states at h
  match hs : M.seats, h with
  | [m], h => simp at h; exact ⟨m, rfl, by rw [← h]⟩
theorem states2 {M : WorM} {a b : Int × Int} (h : states M = [a, b]) : ∃ m m', M.seats = [m, m'] ∧ m.thr.state = a.1 ∧ m'.thr.state = b.1 := by
  unfold states at h
  match hs : M.seats, h with
  | [m, m'], h => simp at h; exact ⟨m, m', rfl, by rw [← h.1], by rw [← h.2]⟩
theorem states3 {M : WorM} {a b c : Int × Int} (h : states M = [a, b, c]) : ∃ m m' m2, M.seats = [m, m', m2] ∧ m.thr.state = a.1 ∧ m2.thr.state = c.1 ∧ (m.thr.cpu.regs.getD 1 (0, 0)).2 = a.2 := by
  unfold states at h
  match hs : M.seats, h with
  | [m, m', m2], h => simp only [List.map_cons, List.map_nil, List.cons.injEq, and_true] at h; exact ⟨m, m', m2, rfl, by rw [← h.1], by rw [← h.2.2], by rw [← h.1]⟩
theorem right_reader : ∀ k < 4, rightL (readerOps ((k : Nat) : Int)) = true := by decide
theorem right_writer : ∀ o < 4, ∀ n < 256, rightL (writerOps ((o : Nat) : Int) ((n : Nat) : Int)) = true := by decide +kernel
/-- The worlds that come up. -/
structure LawS (k o n : Nat) (P E F : WorM) : Prop where
  park : ((WorM.new 4 3).add (readerOps (k : Int)) 20).rounds 10 = some P
  one : ∃ m, P.seats = [m] ∧ m.thr.state = 2
  pick : ∀ (j : Nat) (M : WorM) (i : Nat), j ≤ 5 → i < 2 → (P.add (writerOps (o : Int) (n : Int)) 20).rounds j = some M → ∃ j' M', j' ≤ 5 ∧ (P.add (writerOps (o : Int) (n : Int)) 20).rounds j' = some M' ∧ M.step i = some M'
  rest : ∀ (j : Nat) (M : WorM), j ≤ 5 → (P.add (writerOps (o : Int) (n : Int)) 20).rounds j = some M → M.rounds 20 = some E
  two : ∃ m m', E.seats = [m, m'] ∧ m.thr.state = 2 ∧ m'.thr.state = 3
  last : (E.add (writerOps (k : Int) (n : Int)) 20).rounds 30 = some F
  three : ∃ m m' m2, F.seats = [m, m', m2] ∧ m.thr.state = 3 ∧ m2.thr.state = 3 ∧ (m.thr.cpu.regs.getD 1 (0, 0)).2 = 1 + (n : Int)
theorem law_says (k o n : Nat) (hk : k < 4) (ho : o < 4) (hne : o ≠ k) (hn : n < 256) : ∃ P E F, LawS k o n P E F := by
  obtain ⟨P, h1, h2, h3⟩ := fineAll_says (fine_all k o hk ho hne)
  have h4 := h3 n hn
  obtain ⟨E, F, h5, h6, h7, h8⟩ := picks_end h4
  exact ⟨P, E, F, h1, states1 h2, fun j M i hj hi hM => pick_next h4 hj hM i hi, h5, states2 h7, h6, states3 h8⟩
end Go.Proofs.YteflpdhgojcmcaaGreatDoor
namespace Go.Proofs.YteflpdhgojcmcaaGreatDoor
open Go.RowKit PSet PMat
theorem WorS.below {kd : Kd} {B : Nat} {w w' : World} {q : Nat} {M : WorM} (h : WorS kd B w q M) (hc : Below w.heap.size w w') : WorS kd B w' q M := by
  obtain ⟨r, ent, sv, pv, ss, ts, h⟩ := h
  exact ⟨r, ent, sv, pv, ss, ts, h.below hc⟩
theorem scNew (c : Bool) (w : World) : Calls Tryz.prog 14 #[.bool c, .int .i64 4, .int .i64 4, .int .i64 3] w fun en w' => ∃ q g, en = .returned (.pointer (some ⟨q, 0, none⟩)) ∧ WorS ⟨c, g⟩ w.heap.size w' q (WorM.new 4 3) ∧ Below w.heap.size w w' := by
  cases c with
  | true => exact scNewClock 4 4 3 w (by decide) (by decide) (by decide)
  | false => exact scNewGraph 4 4 3 w (by decide) (by decide) (by decide)
/-- The world behind the law's first lines. -/
structure At4 (kd : Kd) (B nb n : Nat) (w0 w : World) (q : Nat) (M : WorM) : Prop where
  wor : WorS kd B w q M
  below : Below B w0 w
  big : B = w0.heap.size
  cell : w0.cell? ⟨nb, 0, none⟩ = some (.int .u8 (n : Int))
  tab : Tab w0
theorem At4.nb {kd : Kd} {B nb n : Nat} {w0 w : World} {q : Nat} {M : WorM} (h : At4 kd B nb n w0 w q M) : w.cell? ⟨nb, 0, none⟩ = some (.int .u8 (n : Int)) :=
  (h.below.cell (p := ⟨nb, 0, none⟩) (by rw [h.big]; exact block_lt_of_cell h.cell)).trans h.cell
theorem At4.le {kd : Kd} {B nb n : Nat} {w0 w : World} {q : Nat} {M : WorM} (h : At4 kd B nb n w0 w q M) : B ≤ w.heap.size := by
  have := h.below.size
  have := h.big
  omega
theorem At4.pos {kd : Kd} {B nb n : Nat} {w0 w : World} {q : Nat} {M : WorM} (h : At4 kd B nb n w0 w q M) : 0 < B := by
  have := block_lt_of_cell h.cell
  have := h.big
  omega
theorem At4.tab' {kd : Kd} {B nb n : Nat} {w0 w : World} {q : Nat} {M : WorM} (h : At4 kd B nb n w0 w q M) : Tab w := h.tab.below h.pos h.below
theorem At4.next {kd : Kd} {B nb n : Nat} {w0 w w' : World} {q : Nat} {M M' : WorM} (h : At4 kd B nb n w0 w q M) (hw : WorS kd B w' q M') (hl : Lim WT B w w') : At4 kd B nb n w0 w' q M' :=
  ⟨hw, h.below.trans (Lim.to_below (E := WT) hl h.le), h.big, h.cell, h.tab⟩
theorem At4.same {kd : Kd} {B nb n : Nat} {w0 w w' : World} {q : Nat} {M : WorM} (h : At4 kd B nb n w0 w q M) (hb : Below w.heap.size w w') : At4 kd B nb n w0 w' q M :=
  ⟨h.wor.below hb, h.below.trans (hb.mono h.le), h.big, h.cell, h.tab⟩
theorem At4.rounds {kd : Kd} {B nb n : Nat} {w0 w : World} {q : Nat} {M M' : WorM} (h : At4 kd B nb n w0 w q M) (k : Nat) (hk : k ≤ 1000) (hr : M.rounds k = some M') :
    Calls Tryz.prog 8 #[.pointer (some ⟨q, 0, none⟩), .int .i64 (k : Int)] w fun en w' => en = .returned (.int .i64 0) ∧ At4 kd B nb n w0 w' q M' :=
  (scRounds kd B w q M M' k h.wor h.le h.pos h.tab' hk hr).mono fun _ _ h' => ⟨h'.1, h.next h'.2.1 h'.2.2⟩
theorem At4.stepped {kd : Kd} {B nb n : Nat} {w0 w : World} {q : Nat} {M M' : WorM} (h : At4 kd B nb n w0 w q M) (i : Nat) (hi : i < M.seats.length) (hs : M.step i = some M') :
    Calls Tryz.prog 17 #[.pointer (some ⟨q, 0, none⟩), .int .i64 ((i + 1 : Nat) : Int)] w fun en w' => (∃ v, en = .returned v) ∧ At4 kd B nb n w0 w' q M' :=
  (scStep kd B w q M M' i h.wor h.le h.pos h.tab' hi hs).mono fun _ _ h' => ⟨h'.1, h.next h'.2.1 h'.2.2⟩
theorem At4.added {kd : Kd} {B nb n : Nat} {w0 w : World} {q : Nat} {M : WorM} (h : At4 kd B nb n w0 w q M) (ops : List OpM) (b c : Nat) (hb : b < w.heap.size) (hr : w.rangeAt b 0 (opsC ops)) (hright : rightL ops = true) (hf : M.seats.length < 16) :
    Calls Tryz.prog 15 #[.pointer (some ⟨q, 0, none⟩), .agg #[.slice (some ⟨b, 0, none⟩) ops.length c, .int .i64 0, .int .i64 0, .int .i64 0, .int .i64 0, .int .i64 0, .int .i64 0, .int .i64 0, .int .i64 0, .int .i64 0, .int .i64 0, .int .i64 0, .int .i64 0, .int .i64 0, .int .i64 0, .int .i64 0, .int .i64 0, .int .i64 20]] w fun en w' => (∃ v, en = .returned v) ∧ At4 kd B nb n w0 w' q (M.add ops 20) :=
  (scAdd kd B w q M ops 20 b 0 c h.wor h.le hb hr hright hf).mono fun _ _ h' => ⟨⟨_, h'.1⟩, h.next h'.2.1 h'.2.2⟩
theorem At4.thread {kd : Kd} {B nb n : Nat} {w0 w : World} {q : Nat} {M : WorM} (h : At4 kd B nb n w0 w q M) (i : Nat) (m : SeatM) (hm : M.seats[i]? = some m) :
    ∃ t r, ThrS B w t r m.thr ∧ (Calls Tryz.prog 10 #[.pointer (some ⟨q, 0, none⟩), .int .i64 ((i + 1 : Nat) : Int)] w fun e w' => e = .returned (.pointer (some ⟨t, 0, none⟩)) ∧ w = w') ∧ Calls Tryz.prog 11 #[.pointer (some ⟨t, 0, none⟩)] w fun e w' => e = .returned (.int .i64 m.thr.state) ∧ w = w' := by
  obtain ⟨t, r, h1, h2, h3⟩ := scThreadM h.wor i m hm
  exact ⟨t, r, h1, h3, thState t _ w h2⟩
theorem k_of (x : Nat) (hx : x < 256) : (IntKind.i64.wrap (x : Int)).tmod 4 = ((x % 4 : Nat) : Int) := by
  have e : IntKind.i64.wrap (x : Int) = x := by rw [IntKind.wrap_i64]; omega
  rw [e]
  exact (Int.ofNat_tmod x 4).symm
theorem o_of (x n : Nat) (hx : x < 256) (hn : n < 256) : (IntKind.i64.wrap (IntKind.i64.wrap (IntKind.i64.wrap (x : Int) + 1) + (IntKind.i64.wrap (n : Int)).tmod 3)).tmod 4 = (((x + 1 + n % 3) % 4 : Nat) : Int) := by
  have e1 : IntKind.i64.wrap (x : Int) = x := by rw [IntKind.wrap_i64]; omega
  have e2 : IntKind.i64.wrap (n : Int) = n := by rw [IntKind.wrap_i64]; omega
  have e3 : IntKind.i64.wrap ((x : Int) + 1) = ((x + 1 : Nat) : Int) := by rw [IntKind.wrap_i64]; omega
  have e4 : (n : Int).tmod 3 = ((n % 3 : Nat) : Int) := (Int.ofNat_tmod n 3).symm
  have e5 : IntKind.i64.wrap (((x + 1 : Nat) : Int) + ((n % 3 : Nat) : Int)) = ((x + 1 + n % 3 : Nat) : Int) := by rw [IntKind.wrap_i64]; omega
  rw [e1, e2, e3, e4, e5]
  exact (Int.ofNat_tmod _ 4).symm
theorem w_of (n : Nat) (hn : n < 256) : IntKind.i64.wrap (n : Int) = n := by rw [IntKind.wrap_i64]; omega
theorem w1_of (n : Nat) (hn : n < 256) : IntKind.i64.wrap (1 + (n : Int)) = 1 + n := by rw [IntKind.wrap_i64]; omega
theorem list8 {l : List Reg} (h : l.length = 8) : ∃ k0 n0 k1 n1 k2 n2 k3 n3 k4 n4 k5 n5 k6 n6 k7 n7, l = [(k0, n0), (k1, n1), (k2, n2), (k3, n3), (k4, n4), (k5, n5), (k6, n6), (k7, n7)] := by
  match l, h with
  | [(k0, n0), (k1, n1), (k2, n2), (k3, n3), (k4, n4), (k5, n5), (k6, n6), (k7, n7)], _ => exact ⟨k0, n0, k1, n1, k2, n2, k3, n3, k4, n4, k5, n5, k6, n6, k7, n7, rfl⟩
theorem ThrS.regs8 {B : Nat} {w : World} {t r : Nat} {m : ThrM} (h : ThrS B w t r m) : m.cpu.regs.length = 8 := by
  obtain ⟨ov, h⟩ := h
  exact h.regs
theorem p_of (p : Nat) : 1 + (p : Int) % 2 = ((p % 2 + 1 : Nat) : Int) := by omega
set_option maxRecDepth 100000 in
set_option maxHeartbeats 2000000 in
theorem whole4 (HW : ∀ w, Tab w → Calls Tryz.prog 5 #[] w fun e w' => e = .returned (.bool true) ∧ Below w.heap.size w w')
    (c : Bool) (x n : Nat) (hx : x < 256) (hn : n < 256) (a : Option Addr) (len cap : Nat) (ps : List Value) (w : World) (hT : Tab w) (hP : RowAt w (.slice a len cap) len 1 ps) (hps : ∀ v ∈ ps, ∃ m : Nat, m < 256 ∧ v = .int .u8 (m : Int)) :
    Calls Tryz.prog 4 #[.agg #[.bool c, .int .u8 (x : Int), .int .u8 (n : Int), .slice a len cap]] w fun e w' => e = .returned (.bool true) ∧ Below w.heap.size w w' := by
  obtain ⟨W, hW⟩ : ∃ W, W = w.alloc (.cells #[.bool c, .int .u8 (x : Int), .int .u8 (n : Int), .slice a len cap] 45) := ⟨_, rfl⟩
  have hbW : Below w.heap.size w W := by rw [hW]; exact (Below.refl _ _).alloc (Nat.le_refl _) _
  have hrW : W.heap[w.heap.size]? = some (.cells #[.bool c, .int .u8 (x : Int), .int .u8 (n : Int), .slice a len cap] 45 (0, 0)) := by rw [hW]; exact Go.heap_alloc_new _ _
  have hTp : 0 < w.heap.size := hT.pos
  have C5 := Lib.hid (HW W (hT.below hTp hbW))
  have HRW := Lib.hid hrW
  have HBW := Lib.hid hbW
  have HT := Lib.hid hT
  have HP := Lib.hid (And.intro hP hps)
  clear hT hP hps hbW hrW HW
  go_enter Tryz.func4, Tryz.ntmps4
  go_upto_region 1 with fail
  rw [← hW]
  clear hW
  go_wp2_with fail
  refine (C5.out).mono ?_
  rintro en y ⟨rfl, hby⟩
  have HBY := Lib.hid (HBW.out.trans (hby.mono HBW.out.size))
  have HRY := Lib.hid ((hby.block _ (block_lt HRW.out)).trans HRW.out)
  have hlt := block_lt HRY.out
  clear hby C5
  go_upto_region 3 with fail
  have hS0 : (fun w' : World => w'.cell? ⟨w.heap.size, 0, none⟩ = some (.bool c) ∧ w'.cell? ⟨w.heap.size, 1, none⟩ = some (.int .u8 (x : Int)) ∧ w'.cell? ⟨w.heap.size, 2, none⟩ = some (.int .u8 (n : Int)) ∧ w'.cell? ⟨w.heap.size, 3, none⟩ = some (.slice a len cap)) y.drew := ⟨cell_of_row _ _ 0 _ _ _ HRY.out, cell_of_row _ _ 1 _ _ _ HRY.out, cell_of_row _ _ 2 _ _ _ HRY.out, cell_of_row _ _ 3 _ _ _ HRY.out⟩
  refine hregion (fun w' : World => w'.cell? ⟨w.heap.size, 0, none⟩ = some (.bool c) ∧ w'.cell? ⟨w.heap.size, 1, none⟩ = some (.int .u8 (x : Int)) ∧ w'.cell? ⟨w.heap.size, 2, none⟩ = some (.int .u8 (n : Int)) ∧ w'.cell? ⟨w.heap.size, 3, none⟩ = some (.slice a len cap)) hS0 (fun hHeld => ?_)
  clear hS0
  refine hd 0 (v := ?_) ?_ ?_; rotate_left; · rintro w ⟨hS1, hS2, hS3, hS4⟩; go_simp; try with_reducible rfl
  simp only [Act.put, pt1, pt2, pt3]
  refine hd 1 (v := ?_) ?_ ?_; rotate_left; · rintro w ⟨hS1, hS2, hS3, hS4⟩; go_simp; try with_reducible rfl
  simp only [Act.put, pt1, pt2, pt3]
  refine hd 2 (v := ?_) ?_ ?_; rotate_left; · rintro w ⟨hS1, hS2, hS3, hS4⟩; go_simp; try with_reducible rfl
  simp only [Act.put, pt1, pt2, pt3]
  refine hd 3 (v := ?_) ?_ ?_; rotate_left; · rintro w ⟨hS1, hS2, hS3, hS4⟩; go_simp; try with_reducible rfl
  simp only [Act.put, pt1, pt2, pt3]
  refine hd 4 (v := ?_) ?_ ?_; rotate_left; · rintro w ⟨hS1, hS2, hS3, hS4⟩; go_simp; try with_reducible rfl
  simp only [Act.put, pt1, pt2, pt3]
  refine hd 5 (v := ?_) ?_ ?_; rotate_left; · rintro w ⟨hS1, hS2, hS3, hS4⟩; go_simp; try with_reducible rfl
  simp only [Act.put, pt1, pt2, pt3]
  refine hd 6 (v := ?_) ?_ ?_; rotate_left; · rintro w ⟨hS1, hS2, hS3, hS4⟩; go_simp; try with_reducible rfl
  simp only [Act.put, pt1, pt2, pt3]
  refine hd 7 (v := ?_) ?_ ?_; rotate_left; · rintro w ⟨hS1, hS2, hS3, hS4⟩; go_simp; try with_reducible rfl
  simp only [Act.put, pt1, pt2, pt3]
  refine hcl 8 (fun K' hK => ?_)
  go_simp
  have hbU : Below y.heap.size y ((y.alloc (.cells #[.int .u8 0] 5)).drew) := ((Below.refl _ y).alloc (Nat.le_refl _) _).drew
  have hnU : ((y.alloc (.cells #[.int .u8 0] 5)).drew).heap[y.heap.size]? = some (.cells #[.int .u8 0] 5 (0, 0)) := Go.heap_alloc_new y _
  generalize (y.alloc (.cells #[.int .u8 0] 5)).drew = U at *
  have hrU := (hbU.block _ (block_lt HRY.out)).trans HRY.out
  have HU := Lib.hid (And.intro hnU (And.intro hrU (HBY.out.trans (hbU.mono HBY.out.size))))
  generalize hnb : y.heap.size = nb at *
  clear hnU hrU hbU
  refine hK.out _ _ ?_ (fun hHeld => ?_)
  · exact ⟨(cell_of_row _ _ 0 _ _ _ HU.out.2.1), (cell_of_row _ _ 1 _ _ _ HU.out.2.1), (cell_of_row _ _ 2 _ _ _ HU.out.2.1), (cell_of_row _ _ 3 _ _ _ HU.out.2.1)⟩
  clear hK K'
  try simp only [Act.put, pt1, pt2, pt3]
  refine hd 9 (v := ?_) ?_ ?_; rotate_left; · rintro w ⟨hS1, hS2, hS3, hS4⟩; go_simp; try with_reducible rfl
  simp only [Act.put, pt1, pt2, pt3]
  refine hd 10 (v := ?_) ?_ ?_; rotate_left; · rintro w ⟨hS1, hS2, hS3, hS4⟩; go_simp; try with_reducible rfl
  simp only [Act.put, pt1, pt2, pt3]
  refine hcl 11 (fun K' hK => ?_)
  have c0 := cell_of_row _ _ 0 _ _ _ HU.out.1
  have f0 := frozen_of_row _ _ 0 _ _ HU.out.1
  go_simp
  have hV0 := heap_setCell_same U nb 0 _ _ (.int .u8 (n : Int)) HU.out.1
  have hwnb : w.heap.size ≠ nb := by rw [← hnb]; omega
  have hV1 := (heap_setCell_other U ⟨nb, 0, none⟩ w.heap.size (.int .u8 (n : Int)) hwnb).trans HU.out.2.1
  have hV2 : Below w.heap.size w (U.setCell ⟨nb, 0, none⟩ (.int .u8 (n : Int))) := HU.out.2.2.setCell (p := ⟨nb, 0, none⟩) (by rw [← hnb]; exact HBY.out.size) _
  generalize U.setCell ⟨nb, 0, none⟩ (.int .u8 (n : Int)) = V at *
  have HV := Lib.hid (And.intro hV0 (And.intro hV1 hV2))
  clear hV0 hV1 hV2 c0 f0
  refine hK.out _ _ ?_ (fun hHeld => ?_)
  · exact ⟨(cell_of_row _ _ 0 _ _ _ HV.out.2.1), (cell_of_row _ _ 1 _ _ _ HV.out.2.1), (cell_of_row _ _ 2 _ _ _ HV.out.2.1), (cell_of_row _ _ 3 _ _ _ HV.out.2.1)⟩
  clear hK K'
  try simp only [Act.put, pt1, pt2, pt3]
  refine hd 12 (v := ?_) ?_ ?_; rotate_left; · rintro w ⟨hS1, hS2, hS3, hS4⟩; go_simp; try with_reducible rfl
  simp only [Act.put, pt1, pt2, pt3]
  refine hend ?_
  clear hHeld
  by_cases hlen : ¬ len ≤ 400
  · have h400 : (400 : Int) < (len : Int) := by omega
    go_wp2_with fail
    go_ret
    exact ⟨rfl, HV.out.2.2⟩
  have hlen : len ≤ 400 := Decidable.not_not.1 hlen
  have h400 : ¬ (400 : Int) < (len : Int) := by omega
  have gx0 : (0 : Int) ≤ (x : Int) := by omega
  have gx1 : (x : Int) < 256 := by omega
  have gn0 : (0 : Int) ≤ (n : Int) := by omega
  have gn1 : (n : Int) < 256 := by omega
  go_upto_region 6 with fail
  have hS0 : (fun w' : World => w'.cell? ⟨nb, 0, none⟩ = some (.int .u8 (n : Int))) V.drew := cell_of_row _ _ 0 _ _ _ HV.out.1
  refine hregion (fun w' : World => w'.cell? ⟨nb, 0, none⟩ = some (.int .u8 (n : Int))) hS0 (fun hHeld => ?_)
  clear hS0
  refine hd 0 (v := ?_) ?_ ?_; rotate_left; · rintro w hS; go_simp; try with_reducible rfl
  simp only [Act.put, pt1, pt2, pt3]
  refine hd 1 (v := ?_) ?_ ?_; rotate_left; · rintro w hS; go_simp; try with_reducible rfl
  simp only [Act.put, pt1, pt2, pt3]
  refine hd 2 (v := ?_) ?_ ?_; rotate_left; · rintro w hS; go_simp; try with_reducible rfl
  simp only [Act.put, pt1, pt2, pt3]
  refine hd 3 (v := ?_) ?_ ?_; rotate_left; · rintro w hS; go_simp; try with_reducible rfl
  simp only [Act.put, pt1, pt2, pt3]
  refine hd 4 (v := ?_) ?_ ?_; rotate_left; · rintro w hS; go_simp; try with_reducible rfl
  simp only [Act.put, pt1, pt2, pt3]
  refine hd 5 (v := ?_) ?_ ?_; rotate_left; · rintro w hS; go_simp; try with_reducible rfl
  simp only [Act.put, pt1, pt2, pt3]
  refine hd 6 (v := ?_) ?_ ?_; rotate_left; · rintro w hS; go_simp; try with_reducible rfl
  simp only [Act.put, pt1, pt2, pt3]
  refine hd 7 (v := ?_) ?_ ?_; rotate_left; · rintro w hS; go_simp; try with_reducible rfl
  simp only [Act.put, pt1, pt2, pt3]
  refine hd 8 (v := ?_) ?_ ?_; rotate_left; · rintro w hS; go_simp; try with_reducible rfl
  simp only [Act.put, pt1, pt2, pt3]
  refine hd 9 (v := ?_) ?_ ?_; rotate_left; · rintro w hS; go_simp; try with_reducible rfl
  simp only [Act.put, pt1, pt2, pt3]
  refine hd 10 (v := ?_) ?_ ?_; rotate_left; · rintro w hS; go_simp; try with_reducible rfl
  simp only [Act.put, pt1, pt2, pt3]
  refine hd 11 (v := ?_) ?_ ?_; rotate_left; · rintro w hS; go_simp; try with_reducible rfl
  simp only [Act.put, pt1, pt2, pt3]
  refine hd 12 (v := ?_) ?_ ?_; rotate_left; · rintro w hS; go_simp; try with_reducible rfl
  simp only [Act.put, pt1, pt2, pt3]
  rw [k_of x hx, o_of x n hx hn]
  obtain ⟨P, E, F, HL⟩ := law_says (x % 4) ((x + 1 + n % 3) % 4) n (by omega) (by omega) (by omega) hn
  have hk4 : x % 4 < 4 := by omega
  have ho4 : (x + 1 + n % 3) % 4 < 4 := by omega
  have HR := Lib.hid (right_reader (x % 4) hk4)
  have HRK := Lib.hid (right_writer _ hk4 n hn)
  have HRO := Lib.hid (right_writer _ ho4 n hn)
  generalize x % 4 = k at *
  generalize (x + 1 + n % 3) % 4 = o at *
  have HL := Lib.hid HL
  refine hend ?_
  clear hHeld
  have hTV : Tab V := HT.out.below hTp HV.out.2.2
  have C14 := Lib.hid (scNew c V.drew)
  have HTV := Lib.hid hTV
  clear hTV
  go_wp2_with fail
  refine (C14.out).mono ?_
  rintro en y2 ⟨q, gg, rfl, hw, hby⟩
  have H0 : At4 ⟨c, gg⟩ V.heap.size nb n V y2 q (WorM.new 4 3) := ⟨hw, ((Below.refl _ V).drew).trans hby, rfl, cell_of_row _ _ 0 _ _ _ HV.out.1, HTV.out⟩
  clear hw hby C14
  have H0 := Lib.hid H0
  go_wp2_with fail
  have hbY : Below y2.heap.size y2 (y2.alloc (.cells (opsC (readerOps (k : Int))).toArray 50)) := (Below.refl _ _).alloc (Nat.le_refl _) _
  have hnY := Go.heap_alloc_new y2 (.cells (opsC (readerOps (k : Int))).toArray 50)
  refine ((H0.out.same hbY).added (readerOps (k : Int)) y2.heap.size 5 (block_lt hnY) (range_of_block hnY) HR.out (by decide)).mono ?_
  rintro en y3 ⟨⟨v, rfl⟩, h3⟩
  have H3 := Lib.hid h3
  clear h3 H0 hbY hnY
  go_wp2_with fail
  refine (H3.out.rounds 10 (by decide) HL.out.park).mono ?_
  rintro en y4 ⟨rfl, h4⟩
  have H4 := Lib.hid h4
  clear h4 H3
  obtain ⟨mP, hP, hPs⟩ := HL.out.one
  obtain ⟨tP, rP, -, hC10, hC11⟩ := H4.out.thread 0 mP (by rw [hP]; rfl)
  rw [hPs] at hC11
  have C10 := Lib.hid hC10
  have C11 := Lib.hid hC11
  clear hC10 hC11 hPs
  go_wp2_with fail
  refine (C10.out).mono ?_
  rintro en y5 ⟨rfl, rfl⟩
  go_wp2_with fail
  refine (C11.out).mono ?_
  rintro en y5 ⟨rfl, rfl⟩
  have C16 := Lib.hid (writer16 (o : Int) n nb y4 hn H4.out.nb)
  have hP1 : P.seats.length < 16 := by rw [hP]; simp
  have hS2 : (P.add (writerOps (o : Int) (n : Int)) 20).seats.length = 2 := by simp [WorM.add, hP]
  have HP1 := Lib.hid (And.intro hP1 hS2)
  clear C10 C11 hP hP1 hS2
  go_wp2_with fail
  refine (C16.out).mono ?_
  rintro en y5 ⟨b5, rfl, hb5, hr5, hby5⟩
  have C15 := Lib.hid ((H4.out.same hby5).added (writerOps (o : Int) (n : Int)) b5 3 hb5 hr5 HRO.out HP1.out.1)
  clear C16 hb5 hr5 hby5 H4
  go_wp2_with fail
  refine (C15.out).mono ?_
  rintro en y6 ⟨⟨v6, rfl⟩, h6⟩
  have H6 := Lib.hid h6
  clear C15 h6
  go_wp2_with fail
  go_loopw [65, 12] (fun i _ U => ∃ j : Nat, j ≤ len ∧ i = .int .i64 j ∧ Hid (∃ d M, d ≤ 5 ∧ (P.add (writerOps (o : Int) (n : Int)) 20).rounds d = some M ∧ At4 ⟨c, gg⟩ V.heap.size nb n V U q M)) (fun i _ _ => len - (intOf i).toNat)
  case atStart => exact ⟨0, Nat.zero_le _, rfl, Lib.hid ⟨0, _, Nat.zero_le _, rfl, H6.out⟩⟩
  case round =>
    obtain ⟨j, hj, rfl, hr⟩ := hrel
    by_cases hjl : j < len
    · have hj0 : (0 : Int) ≤ (j : Int) := by omega
      have hjl' : (j : Int) < (len : Int) := by omega
      obtain ⟨hPr, hPv⟩ := HP.out
      obtain ⟨hpl, pa, pc, e, hpx⟩ := hPr
      cases e
      obtain ⟨pb, po, rfl, hpb, hpr⟩ := hpx (by omega)
      obtain ⟨u, hu⟩ : ∃ u, ps[j]? = some u := ⟨_, List.getElem?_eq_getElem (by omega)⟩
      obtain ⟨p, hp, rfl⟩ := hPv _ (List.mem_of_getElem? hu)
      obtain ⟨d, M, hd, hM, hA⟩ := hr.out
      obtain ⟨d', M', hd', hM', hst⟩ := HL.out.pick d M (p % 2) hd (by omega) hM
      have hAb : Below w.heap.size w wr := HV.out.2.2.trans (hA.below.mono HV.out.2.2.size)
      have hcp : wr.cell? ⟨pb, po + j, none⟩ = some (.int .u8 (p : Int)) := (hAb.cell (p := ⟨pb, po + j, none⟩) hpb).trans (hpr j _ hu)
      have C17 := Lib.hid (hA.stepped (p % 2) (by rw [WorM.rounds_len hM, HP1.out.2]; omega) hst)
      have HM := Lib.hid (And.intro hd' hM')
      clear hPv hpx hpr hu hr hd hM hA hst hAb hd' hM'
      go_wp2_with fail
      rw [p_of p]
      refine (C17.out).mono ?_
      rintro en y7 ⟨⟨v7, rfl⟩, h7⟩
      have H7 := Lib.hid h7
      clear C17 h7
      go_wp2_with fail
      go_roundw
      case rel => exact ⟨j + 1, by omega, by go_num, Lib.hid ⟨d', M', HM.out.1, HM.out.2, H7.out⟩⟩
      case measure => simp [intOf]; omega
    · have e : j = len := by omega
      subst e
      obtain ⟨d, M, hd, hM, hA⟩ := hr.out
      have C8 := Lib.hid (hA.rounds 20 (by decide) (HL.out.rest d M hd hM))
      obtain ⟨mE, mE2, hE, hE1, hE2⟩ := HL.out.two
      have HE := Lib.hid (And.intro hE (And.intro hE1 hE2))
      clear hr hd hM hA hE hE1 hE2
      go_wp2_with fail
      refine (C8.out).mono ?_
      rintro en y8 ⟨rfl, h8⟩
      have H8 := Lib.hid h8
      clear h8 C8
      obtain ⟨t1, r1, -, hC1, hC2⟩ := H8.out.thread 0 mE (by rw [HE.out.1]; rfl)
      obtain ⟨t2, r2, -, hC3, hC4⟩ := H8.out.thread 1 mE2 (by rw [HE.out.1]; rfl)
      rw [HE.out.2.1] at hC2
      rw [HE.out.2.2] at hC4
      have C1 := Lib.hid hC1
      have C2 := Lib.hid hC2
      have C3 := Lib.hid hC3
      have C4 := Lib.hid hC4
      clear hC1 hC2 hC3 hC4
      go_wp2_with fail
      refine (C1.out).mono ?_
      rintro en y9 ⟨rfl, rfl⟩
      go_wp2_with fail
      refine (C2.out).mono ?_
      rintro en y9 ⟨rfl, rfl⟩
      go_wp2_with fail
      refine (C3.out).mono ?_
      rintro en y9 ⟨rfl, rfl⟩
      go_wp2_with fail
      refine (C4.out).mono ?_
      rintro en y9 ⟨rfl, rfl⟩
      have C16 := Lib.hid (writer16 (k : Int) n nb y8 hn H8.out.nb)
      clear C1 C2 C3 C4
      go_wp2_with fail
      refine (C16.out).mono ?_
      rintro en y9 ⟨b9, rfl, hb9, hr9, hby9⟩
      have C15 := Lib.hid ((H8.out.same hby9).added (writerOps (k : Int) (n : Int)) b9 3 hb9 hr9 HRK.out (by rw [HE.out.1]; simp))
      clear C16 hb9 hr9 hby9 H8
      go_wp2_with fail
      refine (C15.out).mono ?_
      rintro en z0 ⟨⟨v9, rfl⟩, h9⟩
      have C8 := Lib.hid (h9.rounds 30 (by decide) HL.out.last)
      clear C15 h9
      go_wp2_with fail
      refine (C8.out).mono ?_
      rintro en z1 ⟨rfl, h1⟩
      have H1 := Lib.hid h1
      clear h1 C8
      go_upto_region 26 with fail
      have H1 := Lib.hid (H1.out.same ((Below.refl _ z1).drew))
      obtain ⟨mF, mF2, mF3, hF, hF1, hF3, hFn⟩ := HL.out.three
      obtain ⟨t1, r1, hT1, hC1, hC2⟩ := H1.out.thread 0 mF (by rw [hF]; rfl)
      obtain ⟨t3, r3, -, hC3, hC4⟩ := H1.out.thread 2 mF3 (by rw [hF]; rfl)
      rw [hF1] at hC2
      rw [hF3] at hC4
      obtain ⟨k0, n0, k1, n1, k2, n2, k3, n3, k4, n4, k5, n5, k6, n6, k7, n7, hregs⟩ := list8 hT1.regs8
      have hn1 : n1 = 1 + (n : Int) := by
        rw [hregs] at hFn
        exact hFn
      subst hn1
      have C5 := Lib.hid (thRegs _ z1.drew t1 r1 mF.thr k0 n0 k1 _ k2 n2 k3 n3 k4 n4 k5 n5 k6 n6 k7 n7 hT1 hregs)
      have C1 := Lib.hid hC1
      have C2 := Lib.hid hC2
      have C3 := Lib.hid hC3
      have C4 := Lib.hid hC4
      have hS0 : (fun w' : World => w'.cell? ⟨nb, 0, none⟩ = some (.int .u8 (n : Int))) z1.drew := H1.out.nb
      clear hC1 hC2 hC3 hC4 hT1 hregs hFn hF hF1 hF3
      refine hregion (fun w' : World => w'.cell? ⟨nb, 0, none⟩ = some (.int .u8 (n : Int))) hS0 (fun hHeld => ?_)
      clear hS0
      refine hd 0 (v := ?_) ?_ ?_; rotate_left; · rintro w hS; go_simp; try with_reducible rfl
      simp only [Act.put, pt1, pt2, pt3]
      refine hcl 1 (fun K' hK => ?_)
      go_simp
      go_at_call 10
      refine (C1.out).mono ?_
      rintro en y1 ⟨rfl, rfl⟩
      go_wp2_with fail
      refine hK.out _ _ ?_ (fun hHeld => ?_)
      · exact hHeld
      clear hK K'
      try simp only [Act.put, pt1, pt2, pt3]
      refine hcl 2 (fun K' hK => ?_)
      go_simp
      go_at_call 11
      refine (C2.out).mono ?_
      rintro en y1 ⟨rfl, rfl⟩
      go_wp2_with fail
      refine hK.out _ _ ?_ (fun hHeld => ?_)
      · exact hHeld
      clear hK K'
      try simp only [Act.put, pt1, pt2, pt3]
      refine hd 3 (v := ?_) ?_ ?_; rotate_left; · rintro w hS; go_simp; try with_reducible rfl
      simp only [Act.put, pt1, pt2, pt3]
      refine hd 4 (v := ?_) ?_ ?_; rotate_left; · rintro w hS; go_simp; try with_reducible rfl
      simp only [Act.put, pt1, pt2, pt3]
      refine hd 5 (v := ?_) ?_ ?_; rotate_left; · rintro w hS; go_simp; try with_reducible rfl
      simp only [Act.put, pt1, pt2, pt3]
      refine hcl 6 (fun K' hK => ?_)
      go_simp
      go_at_call 10
      refine (C3.out).mono ?_
      rintro en y1 ⟨rfl, rfl⟩
      go_wp2_with fail
      refine hK.out _ _ ?_ (fun hHeld => ?_)
      · exact hHeld
      clear hK K'
      try simp only [Act.put, pt1, pt2, pt3]
      refine hcl 7 (fun K' hK => ?_)
      go_simp
      go_at_call 11
      refine (C4.out).mono ?_
      rintro en y1 ⟨rfl, rfl⟩
      go_wp2_with fail
      refine hK.out _ _ ?_ (fun hHeld => ?_)
      · exact hHeld
      clear hK K'
      try simp only [Act.put, pt1, pt2, pt3]
      refine hd 8 (v := ?_) ?_ ?_; rotate_left; · rintro w hS; go_simp; try with_reducible rfl
      simp only [Act.put, pt1, pt2, pt3]
      refine hd 9 (v := ?_) ?_ ?_; rotate_left; · rintro w hS; go_simp; try with_reducible rfl
      simp only [Act.put, pt1, pt2, pt3]
      refine hd 10 (v := ?_) ?_ ?_; rotate_left; · rintro w hS; go_simp; try with_reducible rfl
      simp only [Act.put, pt1, pt2, pt3]
      refine hd 11 (v := ?_) ?_ ?_; rotate_left; · rintro w hS; go_simp; try with_reducible rfl
      simp only [Act.put, pt1, pt2, pt3]
      refine hd 16 (v := ?_) ?_ ?_; rotate_left; · rintro w hS; go_simp; try with_reducible rfl
      simp only [Act.put, pt1, pt2, pt3]
      refine hd 17 (v := .int .i64 (n : Int)) ?_ ?_; · rintro w hS; go_simp; rw [w_of n hn]
      simp only [Act.put, pt1, pt2, pt3]
      refine hd 18 (v := .int .i64 (1 + (n : Int))) ?_ ?_; · rintro w hS; go_simp; rw [w1_of n hn]
      simp only [Act.put, pt1, pt2, pt3]
      refine hcl 12 (fun K' hK => ?_)
      go_simp
      go_at_call 10
      refine (C1.out).mono ?_
      rintro en y1 ⟨rfl, rfl⟩
      go_wp2_with fail
      refine hK.out _ _ ?_ (fun hHeld => ?_)
      · exact hHeld
      clear hK K'
      try simp only [Act.put, pt1, pt2, pt3]
      refine hcl 13 (fun K' hK => ?_)
      go_simp
      go_at_call 18
      refine (C5.out).mono ?_
      rintro en y5 ⟨rfl, hby⟩
      have H5 := Lib.hid (H1.out.same hby)
      clear hby
      go_wp2_with fail
      refine hK.out _ _ ?_ (fun hHeld => ?_)
      · exact H5.out.nb
      clear hK K'
      try simp only [Act.put, pt1, pt2, pt3]
      refine hd 14 (v := .agg #[.int .i64 k1, .int .i64 (1 + (n : Int))]) ?_ ?_; · rintro w hS; kernel_rfl
      simp only [Act.put, pt1, pt2, pt3]
      refine hd 15 (v := .int .i64 (1 + (n : Int))) ?_ ?_; · rintro w hS; kernel_rfl
      simp only [Act.put, pt1, pt2, pt3]
      refine hd 19 (v := ?_) ?_ ?_; rotate_left; · rintro w hS; go_simp; try with_reducible rfl
      simp only [Act.put, pt1, pt2, pt3]
      refine hd 20 (v := ?_) ?_ ?_; rotate_left; · rintro w hS; go_simp; try with_reducible rfl
      simp only [Act.put, pt1, pt2, pt3]
      refine hd 21 (v := ?_) ?_ ?_; rotate_left; · rintro w hS; go_simp; try with_reducible rfl
      simp only [Act.put, pt1, pt2, pt3]
      refine hend ?_
      clear hHeld
      go_wp2_with fail
      go_ret
      exact ⟨rfl, HV.out.2.2.trans (H5.out.below.mono HV.out.2.2.size)⟩
end Go.Proofs.YteflpdhgojcmcaaGreatDoor
namespace Go.Proofs.YteflpdhgojcmcaaGreatDoor
open Go.RowKit PSet PMat
def rowN : List Int := (List.range 32).map fun (i : Nat) => (i : Int)
set_option maxRecDepth 100000 in
theorem topoRight (w : World) : Calls Tryz.prog 105 #[.agg (ordL 32).toArray] w fun e w' => e = .returned (.bool true) ∧ Below w.heap.size w w' := by
  have e0 : (w.alloc (.cells (ordL 32).toArray 142)).heap[w.heap.size]? = some (.cells (ordL 32).toArray 142) := Go.heap_alloc_new _ _
  have hb0 : Below w.heap.size w (w.alloc (.cells (ordL 32).toArray 142)) := (Below.refl _ _).alloc (Nat.le_refl _) _
  obtain ⟨W0, hW0⟩ : ∃ W0, W0 = w.alloc (.cells (ordL 32).toArray 142) := ⟨_, rfl⟩
  rw [← hW0] at e0 hb0
  have C1 := Lib.hid (of_at w.heap.size 0 32 rowN W0 (by decide) (fun k hk => by
    have hk' : k < 32 := hk
    rw [Nat.zero_add, cell_of_row _ _ k _ _ _ e0]
    rw [List.getElem?_toArray, ordL_get 32 k hk', if_pos hk']
    simp [rowN, hk']))
  have E0 := Lib.hid e0
  have HB0 := Lib.hid hb0
  have hof : ofN rowN = 4294967295 := by decide +kernel
  rw [hof] at C1
  generalize hOA : (ordL 32).toArray = OA at *
  clear e0 hb0 hof
  go_enter Tryz.func105, Tryz.ntmps105
  go_upto_region 1 with (fail)
  rw [← hW0]
  clear hW0
  go_wp2_with fail
  refine (C1.out).mono ?_
  rintro en y ⟨rfl, rfl⟩
  go_wp2_with fail
  go_ret
  exact ⟨rfl, HB0.out⟩
end Go.Proofs.YteflpdhgojcmcaaGreatDoor
namespace Go.Proofs.YteflpdhgojcmcaaGreatDoor
open Go.RowKit PSet PMat
theorem size142 : (Tryz.prog.info? 142).map (·.size) = some 32 := by kernel_rfl
theorem info142 : (Tryz.prog.info? 142).map (·.size) = some (ordL 32).toArray.size := by rw [List.size_toArray, ordL_length]; exact size142
theorem make_row (y : World) : (Instr.makeSlice 77 (.int .i64 32) (.int .i64 32)).run Tryz.prog y = .ok (.slice (some ⟨y.heap.size, 0, none⟩) 32 32) (y.alloc (.cells (ordL 0).toArray 3)) := by kernel_rfl
theorem index_row (k : Nat) (hk : k < 32) (y : World) : (Instr.index 142 (.agg (ordL 32).toArray) (.int .i64 (k : Int))).run Tryz.prog y = .ok (.int .i64 (k : Int)) y := by
  iterate 32 (rcases k with _ | k; · kernel_rfl)
  omega
set_option maxRecDepth 100000 in
theorem topoRow (w : World) : Calls Tryz.prog 64 #[.agg (ordL 32).toArray] w fun e w' => ∃ b, e = .returned (.slice (some ⟨b, 0, none⟩) 32 32) ∧ w'.heap[b]? = some (.cells (ordL 32).toArray 3 (0, 0)) ∧ Below w.heap.size w w' := by
  have e0 : (w.alloc (.cells (ordL 32).toArray 142)).heap[w.heap.size]? = some (.cells (ordL 32).toArray 142) := Go.heap_alloc_new _ _
  have hb0 : Below w.heap.size w (w.alloc (.cells (ordL 32).toArray 142)) := (Below.refl _ _).alloc (Nat.le_refl _) _
  obtain ⟨W0, hW0⟩ : ∃ W0, W0 = w.alloc (.cells (ordL 32).toArray 142) := ⟨_, rfl⟩
  rw [← hW0] at e0 hb0
  have C1 := Lib.hid (topoRight W0)
  have E0 := Lib.hid e0
  have HB0 := Lib.hid hb0
  have HI := Lib.hid info142
  have HG := Lib.hid index_row
  obtain ⟨OA, hOA⟩ : ∃ OA, OA = (ordL 32).toArray := ⟨_, rfl⟩
  rw [← hOA] at C1 E0 HI HG hW0 ⊢
  clear e0 hb0
  have HOA := Lib.hid hOA
  clear hOA
  go_enter Tryz.func64, Tryz.ntmps64
  go_upto_region 1 with (fail)
  rw [← hW0]
  clear hW0
  go_wp2_with (first
    | (refine wpList_load_row rfl 142 _ rfl w.heap.size rfl 142 OA (0, 0) _ E0.out Tryz.underlying142 rfl HI.out ?_)
    | fail)
  refine (C1.out).mono ?_
  rintro en y ⟨rfl, hby⟩
  have EY := Lib.hid ((hby.block _ (block_lt E0.out)).trans E0.out)
  have HBY := Lib.hid (HB0.out.trans (hby.mono HB0.out.size))
  clear hby C1
  have hms := make_row y
  generalize hZ : (ordL 0).toArray = Z at hms
  go_upto_region 4 with (fail)
  clear hms
  have hbz : Below w.heap.size w (y.alloc (.cells Z 3)) := HBY.out.alloc HBY.out.size _
  have hrz : (y.alloc (.cells Z 3)).heap[y.heap.size]? = some (.cells Z 3 (0, 0)) := Go.heap_alloc_new _ _
  have hry := (heap_alloc_old y (.cells Z 3) (block_lt EY.out)).trans EY.out
  generalize y.alloc (.cells Z 3) = U at *
  have hwy : w.heap.size < y.heap.size := block_lt EY.out
  generalize y.heap.size = b at *
  have HRZ := Lib.hid (hZ ▸ hrz)
  have HBZ := Lib.hid hbz
  have EU := Lib.hid hry
  clear hbz hrz hry hZ
  go_upto_region 5 with (first
    | (refine wpList_load_row rfl 142 _ rfl w.heap.size rfl 142 OA (0, 0) _ EU.out Tryz.underlying142 rfl HI.out ?_)
    | fail)
  go_loopw [11, 4, 5] (fun i _ _ wr => ∃ k : Nat, k ≤ 32 ∧ i = .int .i64 k ∧ Hid (wr.heap[b]? = some (.cells (ordL k).toArray 3 (0, 0))) ∧ Hid (Below w.heap.size w wr)) (fun i _ _ _ => 32 - (intOf i).toNat)
  case atStart => exact ⟨0, by omega, rfl, HRZ, HBZ⟩
  case round =>
    obtain ⟨k, hk, rfl, hr, hb⟩ := hrel
    by_cases hlt : k < 32
    · have h0 : (0 : Int) ≤ (k : Int) := by omega
      have h2 : (k : Int) < 32 := by omega
      have g0 := HG.out k hlt wr
      have f0 := frozen_of_row _ _ k _ _ hr.out
      have c0 : wr.cell? ⟨b, k, none⟩ = some (.int .i64 0) := by
        rw [cell_of_row _ _ _ _ _ _ hr.out]
        simpa using ordL_get k k hlt
      go_wp2_with fail
      go_roundw
      case rel =>
        refine ⟨k + 1, by omega, by go_num, Lib.hid ?_, Lib.hid (hb.out.setCell (p := ⟨b, k, none⟩) (Nat.le_of_lt hwy) _)⟩
        have := heap_setCell_same wr b k _ _ (.int .i64 k) hr.out
        rw [List.setIfInBounds_toArray, ordL_set] at this
        exact this
      case measure => simp [intOf]; omega
    · have e : k = 32 := by omega
      subst e
      have h2 : ¬ ((32 : Nat) : Int) < 32 := by omega
      go_wp2_with fail
      go_ret
      exact ⟨b, rfl, by rw [HOA.out]; exact hr.out, hb.out⟩
end Go.Proofs.YteflpdhgojcmcaaGreatDoor
