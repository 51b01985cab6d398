/- The walk of choice's Wake, the whole. A world of threads as a model, and as it lies in memory. No conditions but those that each theorem names. -/
import Derived.Test.YteflpdhgojcmcaaGreatDoorU01
import Derived.Test.YteflpdhgojcmcaaGreatDoorU29
import Derived.Test.YteflpdhgojcmcaaGreatDoorU08
namespace Go.Proofs.YteflpdhgojcmcaaGreatDoor
open Go.RowKit
def hitB (r s : Int) : Bool := bits .and .u64 r s != 0
/-- Who waits on, and who is woken. -/
def wakeM (o : Option (Int × Int)) (s : Int) : Option (Int × Int) × Option Int :=
  match o with
  | none => (none, none)
  | some (i, r) => if hitB r s then (none, some i) else (some (i, r), none)
def wokN : Option Int → Nat | none => 0 | some _ => 1
def wokC : Option Int → List Value | none => [] | some i => [.int .i64 i]
def spotN : Option (Int × Int) → Nat | none => 0 | some _ => 1
def spotC : Option (Int × Int) → List Value | none => [] | some (i, r) => [.int .i64 i, .int .u64 r]
theorem ParkedAt.row {w : World} {v : Value} {o : Option (Int × Int)} (h : ParkedAt w v o) : RowAt w v (spotN o) 2 (spotC o) := by
  cases o with
  | none => obtain ⟨a, c, rfl⟩ := h; exact RowAt.empty _ _ _ _
  | some y =>
    obtain ⟨i, r⟩ := y
    obtain ⟨b, off, c, rfl, hb, hr⟩ := h
    exact ⟨rfl, _, c, rfl, fun _ => ⟨b, off, rfl, hb, hr⟩⟩
theorem wake_del (B : Nat) (o : Option (Int × Int)) (s : Int) (g u : Nat) (v1 : Value) (W : World) (hown : W.ownsRow B 213 2 v1 (spotN o) (spotC o)) (hg : W.cell? ⟨g, 0, none⟩ = some (.int .u64 s))
    (hu : W.heap[u]? = some (.cells #[.slice none 0 0] 77)) (huB : B ≤ u) (hne : v1.ownBlock ≠ some u) (hBW : B ≤ W.heap.size) :
    Calls Tryz.prog 158 #[v1, .func (.func 160) #[] #[.pointer (some ⟨g, 0, none⟩), .pointer (some ⟨u, 0, none⟩)]] W fun e w' => ∃ v' v'', e = .returned v' ∧ w'.heap[u]? = some (.cells #[v''] 77) ∧ w'.ownsRow B 213 2 v' (spotN (wakeM o s).1) (spotC (wakeM o s).1) ∧ w'.ownsRow B 3 1 v'' (wokN (wakeM o s).2) (wokC (wakeM o s).2) ∧ Below B W w' := by
  cases o with
  | none =>
    obtain ⟨_, a, c, e1, _⟩ := RowAt.of_owns hown
    rw [e1] at hown ⊢
    refine (delete158_empty _ a c W).mono ?_
    rintro e w' ⟨rfl, hb⟩
    exact ⟨_, .slice none 0 0, rfl, (hb.block u (block_lt hu)).trans hu, owns_keep hown (fun g _ h => hb.block g h), World.ownsRow_nil _ _ _ _, hb.mono hBW⟩
  | some y =>
    obtain ⟨i, r⟩ := y
    have hown0 := hown
    obtain ⟨hl, h⟩ := hown
    rcases h with ⟨rfl, h0⟩ | ⟨b, c, cur, rfl, hB, hb, hc, hcc, hsz, htk⟩
    · cases h0
    have hr : W.rangeAt b 0 [.int .i64 i, .int .u64 r] := by
      intro j v hj
      rw [cell_of_row _ _ _ _ _ _ hb]
      have hjl := (List.getElem?_eq_some_iff.1 hj).1
      have : cur.toList[j]? = some v := by
        rw [← hj]
        simp only [spotC] at htk
        rw [← htk, List.getElem?_take_of_lt (by simp at hjl; simp [spotN]; omega)]
      simpa using this
    have hub : b ≠ u := by
      intro e
      exact hne (by simp [Value.ownBlock, e])
    have hlu := block_lt hu
    have hlb := block_lt hb
    cases hh : hitB r s
    · have e1 : wakeM (some (i, r)) s = (some (i, r), none) := by simp [wakeM, hh]
      rw [e1]
      refine (delete158_no 160 _ _ b 0 c i r (fun w' => Below W.heap.size W w') W hr call160 (wake1_no i r s g u W hg hh)).mono ?_
      rintro e w' ⟨rfl, hbw⟩
      exact ⟨_, .slice none 0 0, rfl, (hbw.block u hlu).trans hu, owns_keep hown0 (fun g _ h => hbw.block g h), World.ownsRow_nil _ _ _ _, hbw.mono hBW⟩
    · have e1 : wakeM (some (i, r)) s = (none, some i) := by simp [wakeM, hh]
      rw [e1]
      refine (delete158_yes 160 _ _ b 0 c i r (fun w' => ∃ v', w'.heap[u]? = some (.cells #[v'] 77) ∧ w'.ownsRow W.heap.size 3 1 v' 1 [.int .i64 i] ∧ Chg (fun b => b = u) W w') W hr hc call160 ?_ (wake1_yes i r s g u W hg hh hu)).mono ?_
      · rintro W1 ⟨v', _, _, hch⟩
        have hb1 := (hch.block b hlb hub).trans hb
        refine ⟨?_, ?_, frozen_of_row _ _ _ _ _ hb1, frozen_of_row _ _ _ _ _ hb1⟩
        · exact (hch.cell (p := ⟨b, 0, none⟩) hlb hub).trans (hr 0 _ rfl)
        · exact (hch.cell (p := ⟨b, 0 + 1, none⟩) hlb hub).trans (hr 1 _ rfl)
      · rintro e w' ⟨rfl, W1, ⟨v', hu1, hown, hch⟩, rfl⟩
        obtain ⟨_, av, cv, rfl, _⟩ := RowAt.of_owns hown
        have hb1 := (hch.block b hlb hub).trans hb
        refine ⟨_, .slice av 1 cv, rfl, ?_, ?_, ?_, ?_⟩
        · exact (heap_setCell_other _ _ _ _ (by simp; omega)).trans ((heap_setCell_other _ _ _ _ (by simp; omega)).trans hu1)
        · refine ⟨rfl, .inr ⟨b, c, _, rfl, hB, heap_setCell_same _ _ (0 + 1) _ _ _ (heap_setCell_same _ _ 0 _ _ _ hb1), Nat.zero_le _, hcc, by simp [hsz], by simp [spotN, spotC]⟩⟩
        · refine owns_mono (owns_keep hown fun k hk _ => ?_) hBW
          exact (heap_setCell_other _ _ _ _ (by simp; omega)).trans (heap_setCell_other _ _ _ _ (by simp; omega))
        · exact ((hch.to_below hBW (fun k hk => by subst hk; exact huB)).setCell (p := ⟨b, 0, none⟩) hB _).setCell (p := ⟨b, 0 + 1, none⟩) hB _
theorem owns_apart {w : World} {B : Nat} {e : TypeId} {k : Nat} {v : Value} {n : Nat} {xs : List Value} (h : w.ownsRow B e k v n xs) {u : Nat} (hu : u < B) : v.ownBlock ≠ some u := by
  obtain ⟨_, h⟩ := h
  rcases h with ⟨rfl, _⟩ | ⟨g, cap, cur, rfl, hg, _⟩
  · simp [Value.ownBlock]
  · simp [Value.ownBlock]
    omega
set_option maxRecDepth 100000 in
theorem wake_any (v : Value) (a : Option Addr) (c : Nat) (o : Option (Int × Int)) (s : Int) (w : World) (hv : ParkedAt w v o) (_hv1 : v.oneCell' = true) :
    Calls Tryz.prog 125 #[.agg #[v, .slice a 0 c], .int .u64 s] w fun e w' => ∃ v' v'', e = .returned (.tuple #[.agg #[v', .slice a 0 c], v'']) ∧ w'.ownsRow w.heap.size 213 2 v' (spotN (wakeM o s).1) (spotC (wakeM o s).1) ∧ w'.ownsRow w.heap.size 3 1 v'' (wokN (wakeM o s).2) (wokC (wakeM o s).2) ∧ Below w.heap.size w w' := by
  have hmf : ∀ (fn : Fn) (first cap : Array Value) (w : World), (Instr.makeFunc fn first cap).run Tryz.prog w = .ok (.func fn first cap) w := fun _ _ _ _ => rfl
  obtain ⟨w0, hw0⟩ : ∃ w0, w0 = (((w.alloc (.cells #[v, .slice a 0 c] 79)).alloc (.cells #[.int .u64 s] 84)).alloc (.cells #[.slice none 0 0, .slice none 0 0] 79)).alloc (.cells #[.slice none 0 0] 77) := ⟨_, rfl⟩
  have hb0 : Below w.heap.size w w0 := by rw [hw0]; exact ((((Below.refl _ _).alloc (Nat.le_refl _) _).alloc (by simp) _).alloc (by simp; omega) _).alloc (by simp; omega) _
  have s0 : w0.heap.size = w.heap.size + 1 + 1 + 1 + 1 := by rw [hw0]; simp
  have r0 : w0.heap[w.heap.size]? = some (.cells #[v, .slice a 0 c] 79) := by
    rw [hw0]
    exact (heap_alloc_old _ _ (by simp; omega)).trans ((heap_alloc_old _ _ (by simp; omega)).trans ((heap_alloc_old _ _ (by simp)).trans (Go.heap_alloc_new _ _)))
  have r1 : w0.heap[w.heap.size + 1]? = some (.cells #[.int .u64 s] 84) := by
    rw [hw0]
    refine (heap_alloc_old _ _ (by simp)).trans ((heap_alloc_old _ _ (by simp)).trans ?_)
    have := Go.heap_alloc_new (w.alloc (.cells #[v, .slice a 0 c] 79)) (.cells #[.int .u64 s] 84)
    simpa only [World.size_alloc] using this
  have r2 : w0.heap[w.heap.size + 1 + 1]? = some (.cells #[.slice none 0 0, .slice none 0 0] 79) := by
    rw [hw0]
    refine (heap_alloc_old _ _ (by simp)).trans ?_
    have := Go.heap_alloc_new ((w.alloc (.cells #[v, .slice a 0 c] 79)).alloc (.cells #[.int .u64 s] 84)) (.cells #[.slice none 0 0, .slice none 0 0] 79)
    simpa only [World.size_alloc] using this
  have r3 : w0.heap[w.heap.size + 1 + 1 + 1]? = some (.cells #[.slice none 0 0] 77) := by
    rw [hw0]
    have := Go.heap_alloc_new (((w.alloc (.cells #[v, .slice a 0 c] 79)).alloc (.cells #[.int .u64 s] 84)).alloc (.cells #[.slice none 0 0, .slice none 0 0] 79)) (.cells #[.slice none 0 0] 77)
    simpa only [World.size_alloc] using this
  have C1 := Lib.hid (clone159 v (spotN o) (spotC o) w0 (hv.below hb0).row (by cases o with | none => intro u hu; cases hu | some y => exact spot_one y.1 y.2) (by cases o <;> simp [spotN]))
  have R0 := Lib.hid r0
  have R1 := Lib.hid r1
  have R2 := Lib.hid r2
  have R3 := Lib.hid r3
  have HB0 := Lib.hid hb0
  have S0 := Lib.hid s0
  have k0 := cell_of_row _ _ 0 _ _ _ r0
  clear r0 r1 r2 r3 hb0 s0 hv
  go_enter Tryz.func125, Tryz.ntmps125
  go_wp2_with (gi_at_call 159)
  rw [← hw0]
  refine (C1.out).mono ?_
  rintro e w1 ⟨v1, rfl, hown, hb1⟩
  have t0 := (hb1.block _ (block_lt R0.out)).trans R0.out
  have t1 := (hb1.block _ (block_lt R1.out)).trans R1.out
  have t2 := (hb1.block _ (block_lt R2.out)).trans R2.out
  have t3 := (hb1.block _ (block_lt R3.out)).trans R3.out
  have hbW : Below w.heap.size w w1 := HB0.out.trans (hb1.mono HB0.out.size)
  obtain ⟨_, a1, c1, e1, _⟩ := RowAt.of_owns hown
  have D := Lib.hid (wake_del (w.heap.size + 1 + 1 + 1) o s (w.heap.size + 1) (w.heap.size + 1 + 1 + 1) v1 w1 (owns_mono hown (by rw [S0.out]; omega)) (cell_of_row _ _ 0 _ _ _ t1) t3 (Nat.le_refl _) (owns_apart hown (by rw [S0.out]; omega)) (Nat.le_of_lt (block_lt t3)))
  have T0 := Lib.hid t0
  have T2 := Lib.hid t2
  have HBW := Lib.hid hbW
  subst e1
  clear hown hb1 t0 t1 t2 t3 hbW
  go_wp2_with (gi_at_call 158)
  refine (D.out).mono ?_
  rintro e w2 ⟨v', v'', rfl, q3, hp, hwk, hb2⟩
  have q0 := (hb2.block w.heap.size (by omega)).trans T0.out
  have q2 := (hb2.block (w.heap.size + 1 + 1) (by omega)).trans T2.out
  have c0 := cell_of_row _ _ 0 _ _ _ q0
  have c1 := cell_of_row _ _ 1 _ _ _ q0
  have f0 := fun j => frozen_of_row _ _ j _ _ q0
  have d0 := cell_of_row _ _ 0 _ _ _ q2
  have d1 := cell_of_row _ _ 1 _ _ _ q2
  have f2 := fun j => frozen_of_row _ _ j _ _ q2
  have x0 := cell_of_row _ _ 0 _ _ _ q3
  obtain ⟨_, vs, vc, rfl, _⟩ := RowAt.of_owns hp
  obtain ⟨_, us, uc, rfl, _⟩ := RowAt.of_owns hwk
  have HB2 := Lib.hid (HBW.out.trans (hb2.mono (B' := w.heap.size) (by omega)))
  have Q0 := Lib.hid q0
  have Q2 := Lib.hid q2
  have Q3 := Lib.hid q3
  have HP := Lib.hid hp
  have HK := Lib.hid hwk
  generalize hsn : spotN (wakeM o s).1 = vn at *
  generalize hun : wokN (wakeM o s).2 = un at *
  clear hb2 q0 q2 q3 hp hwk
  have rf : ∀ W3, W3 = (((w2.setCell ⟨w.heap.size, 0, none⟩ (.slice vs vn vc)).setCell ⟨w.heap.size + 1 + 1, 0, none⟩ (.slice vs vn vc)).setCell ⟨w.heap.size + 1 + 1, 1, none⟩ (.slice a 0 c)).drew →
      W3.heap[w.heap.size + 1 + 1]? = some (.cells #[.slice vs vn vc, .slice a 0 c] 79) ∧ W3.ownsRow w.heap.size 213 2 (.slice vs vn vc) vn (spotC (wakeM o s).1) ∧ W3.ownsRow w.heap.size 3 1 (.slice us un uc) un (wokC (wakeM o s).2) ∧ Below w.heap.size w W3 := by
    rintro W3 rfl
    have hch : Chg (fun b => b = w.heap.size ∨ b = w.heap.size + 1 + 1) w2 (((w2.setCell ⟨w.heap.size, 0, none⟩ (.slice vs vn vc)).setCell ⟨w.heap.size + 1 + 1, 0, none⟩ (.slice vs vn vc)).setCell ⟨w.heap.size + 1 + 1, 1, none⟩ (.slice a 0 c)).drew :=
      ((((Chg.refl _ w2).setCell (p := ⟨w.heap.size, 0, none⟩) (.inl (.inl rfl)) _).setCell (p := ⟨w.heap.size + 1 + 1, 0, none⟩) (.inl (.inr rfl)) _).setCell (p := ⟨w.heap.size + 1 + 1, 1, none⟩) (.inl (.inr rfl)) _).drew
    refine ⟨?_, ?_, ?_, ?_⟩
    · rw [heap_drew]
      exact heap_setCell_same _ _ 1 _ _ _ (heap_setCell_same _ _ 0 _ _ _ ((heap_setCell_other _ _ _ _ (by simp; omega)).trans Q2.out))
    · exact owns_mono (owns_keep HP.out fun g hg hl => hch.block g hl (by omega)) (by omega)
    · exact owns_mono (owns_keep HK.out fun g hg hl => hch.block g hl (by omega)) (by omega)
    · exact (((HB2.out.setCell (p := ⟨w.heap.size, 0, none⟩) (by simp) _).setCell (p := ⟨w.heap.size + 1 + 1, 0, none⟩) (by simp; omega) _).setCell (p := ⟨w.heap.size + 1 + 1, 1, none⟩) (by simp; omega) _).drew
  have RF := Lib.hid rf
  clear rf
  go_wp2_with fail
  go_region
  all_goals (rename_i hKr; refine hKr _ _ ?_; go_wp2_with fail)
  all_goals
    revert RF
    generalize (((w2.setCell ⟨w.heap.size, 0, none⟩ (.slice vs vn vc)).setCell ⟨w.heap.size + 1 + 1, 0, none⟩ (.slice vs vn vc)).setCell ⟨w.heap.size + 1 + 1, 1, none⟩ (.slice a 0 c)).drew = W3
    intro RF
    obtain ⟨z1, z2, z3, z4⟩ := RF.out W3 rfl
    exact bodyPost_ret (results_cell_tmp rfl _ _ (w.heap.size + 1 + 1) 79 #[.slice vs vn vc, .slice a 0 c] (0, 0) _ rfl z1 Tryz.underlying79 rfl (by kernel_rfl)) rfl ⟨_, _, rfl, by rw [hsn]; exact z2, by rw [hun]; exact z3, z4⟩
end Go.Proofs.YteflpdhgojcmcaaGreatDoor
namespace Go.Proofs.YteflpdhgojcmcaaGreatDoor
open Go.RowKit PSet PMat
structure SeatM where
  thr : ThrM
  stale : Nat
structure WorM where
  eng : EngM
  evs : List EvM
  seats : List SeatM
  parked : Option (Int × Int)
  /-- Nobody waited yet. -/
  fresh : Bool
  tries : Int
def seatC (t : Nat) (lv : Value) (fuel : Int) (stale : Nat) : Array Value := #[.pointer (some ⟨t, 0, none⟩), lv, .int .i64 0, .int .i64 0, .int .i64 0, .int .i64 0, .int .i64 0, .int .i64 0, .int .i64 0, .int .i64 0, .int .i64 0, .int .i64 0, .int .i64 0, .int .i64 0, .int .i64 0, .int .i64 0, .int .i64 0, .int .i64 0, .int .i64 fuel, .int .u64 (stale : Int)]
/-- A seat in memory, and its thread. -/
structure SeatI (B : Nat) (w : World) (s t r : Nat) (m : SeatM) : Prop where
  base : B ≤ s
  row : ∃ lv, w.heap[s]? = some (.cells (seatC t lv m.thr.fuel m.stale) 86 (0, 0)) ∧ w.ownsRow B 50 5 lv m.thr.ops.length (opsC m.thr.ops)
  thr : ThrS B w t r m.thr
/-- What tells a world's entries: a method of the clock's engine, or a closure over the graph's. -/
def EntAt (kd : Kd) (w : World) (ent : Value) : Prop := ent.oneCell' = true ∧ match kd.b with
  | true => ent = .func (.func 30) #[.pointer (some ⟨kd.g, 0, none⟩)] #[]
  | false => ∃ cn, ent = .func (.func 32) #[] #[.pointer (some ⟨cn, 0, none⟩)] ∧ w.heap[cn]? = some (.cells #[.pointer (some ⟨kd.g, 0, none⟩)] 101 (0, 0))
theorem EntAt.keep {kd : Kd} {w w' : World} {ent : Value} (h : EntAt kd w ent) (hk : ∀ (b : Nat) (cs : Array Value), w.heap[b]? = some (Obj.cells cs 101 (0, 0)) → w'.heap[b]? = some (Obj.cells cs 101 (0, 0))) : EntAt kd w' ent := by
  obtain ⟨h1, h2⟩ := h
  refine ⟨h1, ?_⟩
  obtain ⟨b, g⟩ := kd
  cases b with
  | true => exact h2
  | false =>
    obtain ⟨cn, h3, h4⟩ := h2
    exact ⟨cn, h3, hk _ _ h4⟩
/-- A world in memory: its recorder, the row of its seats, its seats' blocks, its threads' blocks. -/
structure WorI (kd : Kd) (B : Nat) (w : World) (q r : Nat) (ent sv pv : Value) (ss ts : List Nat) (M : WorM) : Prop where
  blk : w.heap[q]? = some (.cells #[.pointer (some ⟨r, 0, none⟩), ent, sv, pv, .slice none 0 0, .int .i64 M.tries] 81 (0, 0))
  base : B ≤ q
  ent1 : EntAt kd w ent
  rec_ : RecS kd B w r M.eng M.evs
  seats : w.ownsRow B 82 1 sv ss.length (ptrsC ss)
  len : ss.length = M.seats.length
  len2 : ts.length = M.seats.length
  nod : ss.Nodup
  nod2 : ts.Nodup
  each : ∀ (i s t : Nat) (m : SeatM), ss[i]? = some s → ts[i]? = some t → M.seats[i]? = some m → SeatI B w s t r m
  park : w.ownsRow B 213 2 pv (spotN M.parked) (spotC M.parked)
  fresh : M.fresh = true → pv = .slice none 0 0
  few : M.seats.length ≤ 16
def WorS (kd : Kd) (B : Nat) (w : World) (q : Nat) (M : WorM) : Prop := ∃ r ent sv pv ss ts, WorI kd B w q r ent sv pv ss ts M
/-- The types of the blocks that a world changes. -/
def WT (t : Nat) : Bool := RT t || TT t || t == 81 || t == 82 || t == 86 || t == 213
theorem SeatI.lim {E : Nat → Bool} {B B' : Nat} {w w' : World} {s t r : Nat} {m : SeatM} (h : SeatI B w s t r m) (hc : Lim E B' w w') (h1 : E 86 = false) (h2 : E 50 = false) (h3 : E 96 = false) : SeatI B w' s t r m := by
  obtain ⟨lv, h4, h5⟩ := h.row
  exact ⟨h.base, ⟨lv, block_lim h4 hc h1, owns_lim h5 hc h2⟩, h.thr.lim hc h3 h2⟩
theorem WorI.lim {E : Nat → Bool} {kd : Kd} {B B' : Nat} {w w' : World} {q r : Nat} {ent sv pv : Value} {ss ts : List Nat} {M : WorM} (h : WorI kd B w q r ent sv pv ss ts M) (hc : Lim E B' w w')
    (hE : ∀ t ∈ [151, 42, 155, 197, 126, 129, 136, 128, 193, 81, 82, 86, 50, 96, 213, 101], E t = false) : WorI kd B w' q r ent sv pv ss ts M where
  blk := block_lim h.blk hc (hE _ (by simp))
  base := h.base
  ent1 := h.ent1.keep fun _ _ hb => block_lim hb hc (hE _ (by simp))
  rec_ := h.rec_.lim hc (fun t ht => hE t (by simp at ht ⊢; omega))
  seats := owns_lim h.seats hc (hE _ (by simp))
  len := h.len
  len2 := h.len2
  nod := h.nod
  nod2 := h.nod2
  each := fun i s t m h1 h2 h3 => (h.each i s t m h1 h2 h3).lim hc (hE _ (by simp)) (hE _ (by simp)) (hE _ (by simp))
  park := owns_lim h.park hc (hE _ (by simp))
  fresh := h.fresh
  few := h.few
theorem WorI.below {kd : Kd} {B : Nat} {w w' : World} {q r : Nat} {ent sv pv : Value} {ss ts : List Nat} {M : WorM} (h : WorI kd B w q r ent sv pv ss ts M) (hc : Below w.heap.size w w') : WorI kd B w' q r ent sv pv ss ts M :=
  h.lim (E := fun _ => false) (B' := B) (Lim.of_below hc) (by decide)
theorem block_limH {w w' : World} {B t b ty : Nat} {cs : Array Value} (h : w.heap[b]? = some (.cells cs ty (0, 0))) (hc : LimH t B w w') (he : RT ty = false) (hb : b ≠ t) : w'.heap[b]? = some (.cells cs ty (0, 0)) :=
  (Chg.block (F := fun i => i = t ∨ InT RT B w i) hc b (block_lt h) (fun hf => by
    rcases hf with hf | ⟨_, cs', t', fr, h1, h2⟩
    · exact hb hf
    · rw [h] at h1
      cases h1
      rw [he] at h2
      cases h2)).trans h
theorem owns_limH {w w' : World} {B B' e k n t : Nat} {v : Value} {xs : List Value} {cs : Array Value} (h : w.ownsRow B e k v n xs) (hc : LimH t B' w w') (ht : w.heap[t]? = some (.cells cs 96 (0, 0))) (he : RT e = false) (hne : e ≠ 96) : w'.ownsRow B e k v n xs :=
  owns_chg (F := fun i => i = t ∨ InT RT B' w i) h hc fun b cs' hf hb => by
    rcases hf with rfl | ⟨_, cs', t', fr, h1, h2⟩
    · rw [ht] at hb
      cases hb
      exact hne rfl
    · rw [hb] at h1
      cases h1
      rw [he] at h2
      cases h2
theorem get_ne {α : Type} {l : List α} (hn : l.Nodup) {i j : Nat} {a b : α} (hi : l[i]? = some a) (hj : l[j]? = some b) (h : i ≠ j) : a ≠ b := by
  rintro rfl
  obtain ⟨li, ei⟩ := List.getElem?_eq_some_iff.1 hi
  obtain ⟨lj, ej⟩ := List.getElem?_eq_some_iff.1 hj
  rcases Nat.lt_or_gt_of_ne h with hlt | hgt
  · exact List.pairwise_iff_getElem.1 hn i j li lj hlt (ei.trans ej.symm)
  · exact List.pairwise_iff_getElem.1 hn j i lj li hgt (ej.trans ei.symm)
/-- A thread has gone a step. -/
theorem WorI.thread {kd : Kd} {B : Nat} {w w' : World} {q r : Nat} {ent sv pv : Value} {ss ts : List Nat} {M : WorM} (h : WorI kd B w q r ent sv pv ss ts M) {i t : Nat} {m : SeatM} {m' : ThrM} {e' : EngM} {evs' : List EvM} (ht : ts[i]? = some t) (hm : M.seats[i]? = some m)
    (hth : ThrS B w' t r m') (hrec : RecS kd B w' r e' evs') (hc : LimH t B w w') (ho : m'.ops = m.thr.ops) (hf : m'.fuel = m.thr.fuel) :
    WorI kd B w' q r ent sv pv ss ts { M with eng := e', evs := evs', seats := M.seats.set i { m with thr := m' } } := by
  have hi : i < M.seats.length := (List.getElem?_eq_some_iff.1 hm).1
  obtain ⟨s, hs⟩ : ∃ s, ss[i]? = some s := ⟨_, List.getElem?_eq_getElem (by rw [h.len]; exact hi)⟩
  have hseat := h.each i s t m hs ht hm
  obtain ⟨ov, hov⟩ := hseat.thr
  have htw := hov.row
  have hblk : ∀ {b ty : Nat} {cs : Array Value}, w.heap[b]? = some (.cells cs ty (0, 0)) → RT ty = false → ty ≠ 96 → w'.heap[b]? = some (.cells cs ty (0, 0)) := fun hb he hne => block_limH hb hc he (fun e => by
    subst e
    rw [htw] at hb
    cases hb
    exact hne rfl)
  exact {
    blk := hblk h.blk rfl (by decide)
    base := h.base
    ent1 := h.ent1.keep fun _ _ hb => hblk hb rfl (by decide)
    rec_ := hrec
    seats := owns_limH h.seats hc htw rfl (by decide)
    len := by simpa using h.len
    len2 := by simpa using h.len2
    nod := h.nod
    nod2 := h.nod2
    each := fun j s' t' m2 hs' ht' hm' => by
      by_cases hji : i = j
      · subst hji
        rw [List.getElem?_set_self hi] at hm'
        cases hm'
        rw [ht] at ht'
        cases ht'
        rw [hs] at hs'
        cases hs'
        obtain ⟨lv, h4, h5⟩ := hseat.row
        refine ⟨hseat.base, ⟨lv, ?_, ?_⟩, hth⟩
        · show w'.heap[s]? = some (.cells (seatC t lv m'.fuel m.stale) 86 (0, 0))
          rw [hf]
          exact hblk h4 rfl (by decide)
        · show w'.ownsRow B 50 5 lv m'.ops.length (opsC m'.ops)
          rw [ho]
          exact owns_limH h5 hc htw rfl (by decide)
      · simp only [List.getElem?_set_ne hji] at hm'
        have hse := h.each j s' t' m2 hs' ht' hm'
        obtain ⟨lv, h4, h5⟩ := hse.row
        obtain ⟨ov2, h6⟩ := hse.thr
        exact ⟨hse.base, ⟨lv, hblk h4 rfl (by decide), owns_limH h5 hc htw rfl (by decide)⟩, ov2, block_limH h6.row hc rfl (get_ne h.nod2 ht' ht (fun e => hji e.symm)), h6.base, owns_limH h6.ops hc htw rfl (by decide), h6.regs, h6.used, h6.right⟩
    park := owns_limH h.park hc htw rfl (by decide)
    fresh := h.fresh
    few := by simpa using h.few }
theorem WorI.cells {kd : Kd} {B : Nat} {w : World} {q r : Nat} {ent sv pv : Value} {ss ts : List Nat} {M : WorM} (h : WorI kd B w q r ent sv pv ss ts M) :
    w.cell? ⟨q, 0, none⟩ = some (.pointer (some ⟨r, 0, none⟩)) ∧ w.cell? ⟨q, 1, none⟩ = some ent ∧ w.cell? ⟨q, 2, none⟩ = some sv ∧ w.cell? ⟨q, 3, none⟩ = some pv ∧ w.cell? ⟨q, 4, none⟩ = some (.slice none 0 0) ∧ w.cell? ⟨q, 5, none⟩ = some (.int .i64 M.tries) :=
  ⟨cell_of_row _ _ 0 _ _ _ h.blk, cell_of_row _ _ 1 _ _ _ h.blk, cell_of_row _ _ 2 _ _ _ h.blk, cell_of_row _ _ 3 _ _ _ h.blk, cell_of_row _ _ 4 _ _ _ h.blk, cell_of_row _ _ 5 _ _ _ h.blk⟩
theorem SeatI.cells {B : Nat} {w : World} {s t r : Nat} {m : SeatM} (h : SeatI B w s t r m) : w.cell? ⟨s, 0, none⟩ = some (.pointer (some ⟨t, 0, none⟩)) ∧ w.cell? ⟨s, 19, none⟩ = some (.int .u64 (m.stale : Int)) ∧ ∀ j, w.frozen? ⟨s, j, none⟩ = false := by
  obtain ⟨lv, h1, _⟩ := h.row
  exact ⟨cell_of_row _ _ 0 _ _ _ h1, cell_of_row _ _ 19 _ _ _ h1, fun j => frozen_of_row _ _ j _ _ h1⟩
/-- What is stale of a thread is another. -/
theorem WorI.setStale {kd : Kd} {B : Nat} {w : World} {q r : Nat} {ent sv pv : Value} {ss ts : List Nat} {M : WorM} (h : WorI kd B w q r ent sv pv ss ts M) {i s : Nat} {m : SeatM} (z : Nat) (hs : ss[i]? = some s) (hm : M.seats[i]? = some m) :
    WorI kd B (w.setCell ⟨s, 19, none⟩ (.int .u64 (z : Int))) q r ent sv pv ss ts { M with seats := M.seats.set i { m with stale := z } } ∧ Lim (fun t => t == 86) B w (w.setCell ⟨s, 19, none⟩ (.int .u64 (z : Int))) := by
  have hi : i < M.seats.length := (List.getElem?_eq_some_iff.1 hm).1
  obtain ⟨t, ht⟩ : ∃ t, ts[i]? = some t := ⟨_, List.getElem?_eq_getElem (by rw [h.len2]; exact hi)⟩
  have hseat := h.each i s t m hs ht hm
  obtain ⟨lv, hrow, hops⟩ := hseat.row
  have hc : Chg (fun b => b = s) w (w.setCell ⟨s, 19, none⟩ (.int .u64 (z : Int))) := Chg.setCell (F := fun b => b = s) (Chg.refl _ _) (.inl rfl) _
  have hl : Lim (fun t => t == 86) B w (w.setCell ⟨s, 19, none⟩ (.int .u64 (z : Int))) := Chg.weak (F := fun b => b = s) (G := InT (fun t => t == 86) B w) hc fun j hj => .inl (by subst hj; exact ⟨hseat.base, _, _, _, hrow, rfl⟩)
  refine ⟨?_, hl⟩
  exact {
    blk := block_lim h.blk hl rfl
    base := h.base
    ent1 := h.ent1.keep fun _ _ hb => block_lim hb hl rfl
    rec_ := h.rec_.lim hl (by decide)
    seats := owns_lim h.seats hl rfl
    len := by simpa using h.len
    len2 := by simpa using h.len2
    nod := h.nod
    nod2 := h.nod2
    each := fun j s' t' m2 hs' ht' hm' => by
      by_cases hji : i = j
      · subst hji
        rw [List.getElem?_set_self hi] at hm'
        cases hm'
        rw [ht] at ht'
        cases ht'
        rw [hs] at hs'
        cases hs'
        exact ⟨hseat.base, ⟨lv, heap_setCell_same w s 19 _ _ _ hrow, owns_lim hops hl rfl⟩, hseat.thr.lim hl rfl rfl⟩
      · simp only [List.getElem?_set_ne hji] at hm'
        have hse := h.each j s' t' m2 hs' ht' hm'
        obtain ⟨lv2, h4, h5⟩ := hse.row
        have hne : s' ≠ s := get_ne h.nod hs' hs (fun e => hji e.symm)
        exact ⟨hse.base, ⟨lv2, (heap_setCell_other _ _ _ _ hne).trans h4, owns_lim h5 hl rfl⟩, hse.thr.lim hl rfl rfl⟩
    park := owns_lim h.park hl rfl
    fresh := h.fresh
    few := by simpa using h.few }
/-- Who waits is another. -/
theorem WorI.setPark {kd : Kd} {B : Nat} {w : World} {q r : Nat} {ent sv pv pv' : Value} {ss ts : List Nat} {M : WorM} {o : Option (Int × Int)} {b : Bool} (h : WorI kd B w q r ent sv pv ss ts M) (hp : w.ownsRow B 213 2 pv' (spotN o) (spotC o)) (hb : b = true → pv' = .slice none 0 0) :
    WorI kd B ((w.setCell ⟨q, 3, none⟩ pv').setCell ⟨q, 4, none⟩ (.slice none 0 0)) q r ent sv pv' ss ts { M with parked := o, fresh := b } ∧ Lim (fun t => t == 81) B w ((w.setCell ⟨q, 3, none⟩ pv').setCell ⟨q, 4, none⟩ (.slice none 0 0)) := by
  have hc : Chg (fun b => b = q) w ((w.setCell ⟨q, 3, none⟩ pv').setCell ⟨q, 4, none⟩ (.slice none 0 0)) := Chg.setCell (F := fun b => b = q) (Chg.setCell (F := fun b => b = q) (Chg.refl _ _) (p := ⟨q, 3, none⟩) (.inl rfl) _) (p := ⟨q, 4, none⟩) (.inl rfl) _
  have hl : Lim (fun t => t == 81) B w ((w.setCell ⟨q, 3, none⟩ pv').setCell ⟨q, 4, none⟩ (.slice none 0 0)) := Chg.weak (F := fun b => b = q) (G := InT (fun t => t == 81) B w) hc fun j hj => .inl (by subst hj; exact ⟨h.base, _, _, _, h.blk, rfl⟩)
  refine ⟨?_, hl⟩
  exact {
    blk := heap_setCell_same _ q 4 _ _ _ (heap_setCell_same w q 3 _ _ _ h.blk)
    base := h.base
    ent1 := h.ent1.keep fun _ _ hb => block_lim hb hl rfl
    rec_ := h.rec_.lim hl (by decide)
    seats := owns_lim h.seats hl rfl
    len := h.len
    len2 := h.len2
    nod := h.nod
    nod2 := h.nod2
    each := fun j s' t' m2 hs' ht' hm' => (h.each j s' t' m2 hs' ht' hm').lim hl rfl rfl rfl
    park := owns_lim hp hl rfl
    fresh := hb
    few := h.few }
theorem wt_of {E : Nat → Bool} {B : Nat} {a b : World} (h : Lim E B a b) (hE : ∀ t, E t = true → WT t = true) : Lim WT B a b := h.mono hE
theorem wt_limH {t B : Nat} {a b : World} {cs : Array Value} (h : LimH t B a b) (ht : a.heap[t]? = some (.cells cs 96 (0, 0))) (hB : B ≤ t) : Lim WT B a b :=
  Chg.weak (F := fun i => i = t ∨ InT RT B a i) (G := InT WT B a) h fun i hi => .inl (by
    rcases hi with rfl | ⟨h1, cs', ty, fr, h2, h3⟩
    · exact ⟨hB, _, _, _, ht, rfl⟩
    · exact ⟨h1, cs', ty, fr, h2, by simp [WT, h3]⟩)
end Go.Proofs.YteflpdhgojcmcaaGreatDoor
