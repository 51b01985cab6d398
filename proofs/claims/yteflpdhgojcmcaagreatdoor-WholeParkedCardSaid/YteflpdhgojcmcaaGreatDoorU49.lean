/- slices.Sorted of slices.Values, of the fixed run's one number. The walk of history's Spans, of the fixed run's events. The walk of history's Entries, of the fixed run's events. No conditions but those that each theorem names. -/
import Derived.Test.YteflpdhgojcmcaaGreatDoorU01
import Derived.Test.YteflpdhgojcmcaaGreatDoorU10
import Derived.Test.YteflpdhgojcmcaaGreatDoorU42
import Derived.LoopNIn
import Derived.Test.YteflpdhgojcmcaaGreatDoorU45
import Derived.Test.YteflpdhgojcmcaaGreatDoorU46
namespace Go.Proofs.YteflpdhgojcmcaaGreatDoor
open Go.RowKit Go.Shelf
attribute [local go_sem] Oper.semAt_some
set_option maxRecDepth 100000 in
set_option maxHeartbeats 1000000 in
theorem vals143_in (F : Fence) (n : Nat) (h143 : F.fn 143) (hro : F.round = none) (hn : 1 ≤ n) (l Bs b off c : Nat) (J Jx : List Unit → World → Prop)
    (hY : ∀ (pre : List Unit) (x : Unit) W, J pre W → pre.length < 1 → YieldAt F (n - 1) Tryz.prog l #[.int .i64 1] W fun e W' =>
      (e = .returned (.bool true) ∧ J (pre ++ [x]) W' ∧ KeepB Bs b W W') ∨ (e = .returned (.bool false) ∧ Jx (pre ++ [x]) W'))
    (W : World) (hBs : W.cell? ⟨Bs, 0, none⟩ = some (.slice (some ⟨b, off, none⟩) 1 c)) (hc : W.cell? ⟨b, off, none⟩ = some (.int .i64 1)) (h0 : J [] W) :
    CallsIn F n Tryz.prog 143 #[.func (.yield l) #[] #[], .pointer (some ⟨Bs, 0, none⟩)] W fun e W' => (∃ v, e = .returned v) ∧
      ((∃ xs, xs = [()] ∧ J xs W') ∨ (∃ pre, Jx pre W')) := by
  have hY2 := hY [] () W h0 (by decide)
  obtain ⟨fn, tmps, assign, body, hy, hR⟩ := hY2
  refine callsIn_of_wp Tryz.func143 rfl h143 ?_ hro
  simp only [Tryz.ntmps143, List.size_toArray, List.length_cons, List.length_nil, Nat.reduceAdd, Nat.reduceSub, Array.replicate_succ, Array.replicate_zero, List.push_toArray, List.append_toArray, List.nil_append, List.cons_append]
  gi_wp2
  refine wpIn_loop_rounds 2 ?_
  rw [roundsIn_succ]
  gi_wp2
  refine hR.mono ?_
  rintro e3 W3 (⟨rfl, hJ4, hk3⟩ | ⟨rfl, hJx3⟩)
  · gi_wp2
    rw [roundsIn_succ]
    gi_wp2
    go_end0
    exact ⟨⟨_, rfl⟩, .inl ⟨_, rfl, hJ4⟩⟩
  · gi_wp2
    refine bodyPost_ret (results_none rfl _ _ _) rfl ?_
    exact ⟨⟨_, rfl⟩, .inr ⟨_, hJx3⟩⟩
theorem vals143_stops (F : Fence) (n : Nat) (h143 : F.fn 143) (hro : F.round = none) (hn : 1 ≤ n) (Bs b off c : Nat) (w : World) (hBs : w.cell? ⟨Bs, 0, none⟩ = some (.slice (some ⟨b, off, none⟩) 1 c)) (hBn : Bs < w.heap.size) (hbn : b < w.heap.size) (hc : w.cell? ⟨b, off, none⟩ = some (.int .i64 1)) :
    SeqStopsK F n Tryz.prog 143 #[.pointer (some ⟨Bs, 0, none⟩)] (fun _ : Unit => #[.int .i64 1]) (KeepB Bs b) (fun xs => xs = [()]) (fun _ => True) 1 w := by
  intro l J Jx W hW _ _ hY h0
  refine (vals143_in F n h143 hro hn l Bs b off c J Jx hY W ((hW.cell (p := ⟨Bs, 0, none⟩) hBn).trans hBs) ((hW.cell (p := ⟨b, off, none⟩) hbn).trans hc) h0).mono fun e W' h => ⟨h.1, ?_⟩
  rcases h.2 with h | ⟨pre, h⟩
  · exact .inl h
  · exact .inr ⟨pre, trivial, h⟩
/-- slices.AppendSeq of one number. -/
theorem append178 (Bs b off c : Nat) (w : World) (hBs : w.cell? ⟨Bs, 0, none⟩ = some (.slice (some ⟨b, off, none⟩) 1 c)) (hBn : Bs < w.heap.size) (hbn : b < w.heap.size) (hc : w.cell? ⟨b, off, none⟩ = some (.int .i64 1)) :
    Calls Tryz.prog 178 #[.slice none 0 0, .func (.func 143) #[] #[.pointer (some ⟨Bs, 0, none⟩)]] w fun e w' => ∃ v, e = .returned v ∧ w'.ownsRow w.heap.size 3 1 v 1 [.int .i64 1] ∧ Below w.heap.size w w' := by
  refine (callsIn_wide (n := 9)).1 ?_
  obtain ⟨i0, z, hi, hz0, hz1, hz2, hz3⟩ := info_3
  refine callsIn_of_wp_marks Tryz.func178 rfl trivial ?_ rfl
  simp only [Tryz.ntmps178, List.size_toArray, List.length_cons, List.length_nil, Nat.reduceAdd, Nat.reduceSub, Array.replicate_succ, Array.replicate_zero, List.push_toArray, List.append_toArray, List.nil_append, List.cons_append]
  gi_wp2
  have hB0 : Boxed (w.alloc (.cells #[.slice none 0 0] 77)) w.heap.size 77 (.slice none 0 0) := Boxed.new w 77 _
  have hsz : (w.alloc (.cells #[.slice none 0 0] 77)).heap.size = w.heap.size + 1 := by simp
  have hbel : Below w.heap.size w (w.alloc (.cells #[.slice none 0 0] 77)) := (Below.refl _ _).alloc (Nat.le_refl _) _
  have hs0 := (hbel.cell (p := ⟨Bs, 0, none⟩) hBn).trans hBs
  have hc0 := (hbel.cell (p := ⟨b, off, none⟩) hbn).trans hc
  generalize w.alloc (.cells #[.slice none 0 0] 77) = W0 at *
  refine wpIn_rangeFunc_ownH rfl (by omega) (gf := 143) (lb := #[.pointer (some ⟨Bs, 0, none⟩)]) rfl trivial (enters_of Tryz.func143 (by kernel_rfl) rfl)
    (vals143_stops Fence.wide 8 trivial rfl (by omega) Bs b off c W0 hs0 (by omega) (by omega) hc0)
    (fun h k => h.trans k) (fun W l o o' hl _ _ _ => ⟨World.putObj_heap_other (by omega), World.putObj_heap_other (by omega)⟩) (Below.refl _ _) (fun _ => rfl)
    (fun pre W => (∃ v, Boxed W w.heap.size 77 v ∧ W.ownsRow w.heap.size 3 1 v pre.length (pre.flatMap fun _ => [.int .i64 1]) ∧ True) ∧ Below w.heap.size w W)
    (fun _ _ _ => False)
    (OwnFrom.and (Own.from (holdsRow_own w.heap.size w.heap.size 77 3 1 (fun pre : List Unit => pre.length) (fun pre => pre.flatMap fun _ => [.int .i64 1]) (fun _ _ => True)) _) (ownFrom_below (Nat.le_refl _) (by omega)))
    (fun _ _ _ _ _ hs _ _ => hs)
    ⟨⟨_, hB0, ⟨rfl, .inl ⟨rfl, rfl⟩⟩, trivial⟩, hbel⟩
    (fun _ a' _ => a' = { tmps := #[.slice none 0 0, .func (.func 143) #[] #[.pointer (some ⟨Bs, 0, none⟩)], .pointer (some ⟨w.heap.size, 0, none⟩), undef, .slice none 0 0, .int .i64 1, .func (.func 143) #[] #[.pointer (some ⟨Bs, 0, none⟩)], .int .i64 1, undef, undef, undef, undef, undef], defers := [] })
    (fun x a' _ X Y row hs hg hr => hs)
    ?assign ?body ?done ?stop
  case assign =>
    rintro l pre x W K ⟨⟨v, hv, hrow, -⟩, hB⟩ hK
    have hk := hK { tmps := #[.slice none 0 0, .func (.func 143) #[] #[.pointer (some ⟨Bs, 0, none⟩)], .pointer (some ⟨w.heap.size, 0, none⟩), undef, .slice none 0 0, .int .i64 1, .func (.func 143) #[] #[.pointer (some ⟨Bs, 0, none⟩)], .int .i64 1, undef, undef, undef, undef, undef], defers := [] } W (KeepsFrom.refl _ _) ⟨rfl, rfl⟩ ⟨⟨v, hv, hrow, trivial⟩, hB⟩ rfl
    have HK := Lib.hid hk
    clear hk hK hv hrow hB
    gi_wp2
    exact HK.out
  case body =>
    rintro l pre x a' W hl ⟨r, hr⟩ ⟨⟨v, hv, hrow, -⟩, hB⟩ rfl hlt
    have hpre : pre = [] := by simpa using hlt
    subst hpre
    have hcv := hv.cell
    have HV := Lib.hid hv
    have HRW := Lib.hid hrow
    have HBB := Lib.hid hB
    clear hv hrow hB hr
    gi_wp2_with (first
      | (gi_at_builtin; refine wpListIn_append_own _ rfl _ _ 77 rfl w.heap.size 3 i0 z 1 8 Tryz.underlying77 hi hz0 hz1 hz2 hz3 (by decide) v 0 [] rfl (HRW.out.alloc _) ⟨W.heap.size, 0, none⟩ 1 1 [.int .i64 1] rfl rfl (by exact news_new W [.int .i64 1] 3) (by intro u hu; simp at hu; subst hu; rfl) (by unfold maxLen; omega) (by omega) (by have := HBB.out.size; simp; omega) ?_; intro v' w1 hown' hgrow _; obtain ⟨g', cap', rfl⟩ := ownsRow_succ hown'; obtain ⟨hv1, hv2, hr2, hk2, hb2⟩ := HV.out.appended (by decide) HRW.out HBB.out.size (Nat.le_refl _) hown' hgrow; have hc1 := hv1.cell; have hf1 := hv1.frozen; have HF := Lib.hid (And.intro hv2 (And.intro hr2 (And.intro hk2 hb2))); clear hv2 hr2 hk2 hb2 hv1 hown' hgrow)
      | gi_in)
    exact ⟨HF.out.2.2.1.from _, ⟨HF.out.2.2.2.block Bs hBn, HF.out.2.2.2.block b hbn⟩, ⟨_, HF.out.1, HF.out.2.1, trivial⟩, HBB.out.trans HF.out.2.2.2⟩
  case done =>
    rintro D ys W hD rfl ⟨⟨v, hv, hrow, -⟩, hB⟩ hK
    have hcv := hv.cell
    gi_wp2
    refine ⟨by simp, .inl ⟨_, _, rfl, run_takeDeferred hK, ?_⟩⟩
    exact ⟨_, results_tmp rfl _ _ _, v, rfl, ownsRow_putObj hrow _ hK rfl, hB.trans (belowK_b (w := w) (Nat.le_refl _) W D _ _ (by omega) hK rfl rfl)⟩
  case stop =>
    rintro D c pre W _ _ h _
    exact h.elim
theorem collect141 (Bs b off c : Nat) (w : World) (hBs : w.cell? ⟨Bs, 0, none⟩ = some (.slice (some ⟨b, off, none⟩) 1 c)) (hBn : Bs < w.heap.size) (hbn : b < w.heap.size) (hc : w.cell? ⟨b, off, none⟩ = some (.int .i64 1)) :
    Calls Tryz.prog 141 #[.func (.func 143) #[] #[.pointer (some ⟨Bs, 0, none⟩)]] w fun e w' => ∃ v, e = .returned v ∧ w'.ownsRow w.heap.size 3 1 v 1 [.int .i64 1] ∧ Below w.heap.size w w' := by
  have C1 := Lib.hid (append178 Bs b off c w hBs hBn hbn hc)
  clear hBs hc
  go_enter Tryz.func141, Tryz.ntmps141
  go_wp2_with fail
  refine (C1.out).mono ?_
  rintro e y ⟨v, rfl, h1, h2⟩
  have HF := Lib.hid (And.intro h1 h2)
  clear h1 h2
  go_wp2_with fail
  go_ret
  exact ⟨_, rfl, HF.out.1, HF.out.2⟩
theorem insertion_int (v : Value) (n : Nat) (w : World) (hn : n ≤ 1) :
    Calls Tryz.prog 208 #[v, .int .i64 0, .int .i64 n] w fun e w' => e = .returned (.tuple #[]) ∧ w = w' := by
  have g : (n : Int) ≤ 1 := by omega
  go_enter Tryz.func208, Tryz.ntmps208
  go_wp2_with fail
  refine wp_loop_rounds 1 ?_
  rw [rounds_succ]
  go_wp2_with fail
  refine bodyPost_end (results_none rfl _ _ _) rfl ⟨rfl, rfl⟩
theorem pdq_int (v : Value) (n : Nat) (i : Value) (w : World) (hn : n ≤ 1) :
    Calls Tryz.prog 179 #[v, .int .i64 0, .int .i64 n, i] w fun e w' => e = .returned (.tuple #[]) ∧ w = w' := by
  have C := Lib.hid (insertion_int v n w hn)
  have g : (n : Int) ≤ 12 := by omega
  clear hn
  go_enter Tryz.func179, Tryz.ntmps179
  go_wp2_with fail
  refine wp_loop_rounds 1 ?_
  rw [rounds_succ]
  go_wp2_with fail
  refine (C.out).mono ?_
  rintro e w1 ⟨rfl, rfl⟩
  go_wp2_with fail
  refine bodyPost_ret (results_none rfl _ _ _) rfl ⟨rfl, rfl⟩
theorem sort_int (a : Option Addr) (c : Nat) (n : Nat) (w : World) (hn : n ≤ 1) :
    Calls Tryz.prog 142 #[.slice a n c] w fun e w' => e = .returned (.tuple #[]) ∧ w = w' := by
  have C := Lib.hid (fun i => pdq_int (.slice a n c) n i w hn)
  have hw : IntKind.u64.wrap (n : Int) = 0 ∨ IntKind.u64.wrap (n : Int) = 1 := by
    have h : n = 0 ∨ n = 1 := by omega
    rcases h with rfl | rfl
    · exact Or.inl (by kernel_rfl)
    · exact Or.inr (by kernel_rfl)
  have C2 := Lib.hid (len_few (IntKind.u64.wrap (n : Int)) w hw)
  clear hn hw
  go_enter Tryz.func142, Tryz.ntmps142
  go_wp2_with fail
  refine (C2.out).mono ?_
  rintro e w1 ⟨⟨i, rfl⟩, rfl⟩
  go_wp2_with fail
  refine (C.out _).mono ?_
  rintro e w1 ⟨rfl, rfl⟩
  go_wp2_with fail
  refine bodyPost_end (results_none rfl _ _ _) rfl ⟨rfl, rfl⟩
theorem sorted92 (Bs b off c : Nat) (w : World) (hBs : w.cell? ⟨Bs, 0, none⟩ = some (.slice (some ⟨b, off, none⟩) 1 c)) (hBn : Bs < w.heap.size) (hbn : b < w.heap.size) (hc : w.cell? ⟨b, off, none⟩ = some (.int .i64 1)) :
    Calls Tryz.prog 92 #[.func (.func 143) #[] #[.pointer (some ⟨Bs, 0, none⟩)]] w fun e w' => ∃ v, e = .returned v ∧ w'.ownsRow w.heap.size 3 1 v 1 [.int .i64 1] ∧ Below w.heap.size w w' := by
  have C1 := Lib.hid (collect141 Bs b off c w hBs hBn hbn hc)
  clear hBs hc
  go_enter Tryz.func92, Tryz.ntmps92
  go_wp2_with fail
  refine (C1.out).mono ?_
  rintro e y ⟨v, rfl, h1, h2⟩
  obtain ⟨vb, vc, rfl, -, -, -, -⟩ := owns_block h1 (by decide)
  have C2 := Lib.hid (sort_int (some ⟨vb, 0, none⟩) vc 1 y (by decide))
  have HF := Lib.hid (And.intro h1 h2)
  clear h1 h2
  go_wp2_with fail
  refine (C2.out).mono ?_
  rintro e y2 ⟨rfl, rfl⟩
  go_wp2_with fail
  go_ret
  exact ⟨_, rfl, HF.out.1, HF.out.2⟩
theorem values93 (a : Option Addr) (n c : Nat) (w : World) :
    Calls Tryz.prog 93 #[.slice a n c] w fun e w' => e = .returned (.func (.func 143) #[] #[.pointer (some ⟨w.heap.size, 0, none⟩)]) ∧ w' = w.alloc (.cells #[.slice a n c] 77) := by
  have hmf : ∀ (fn : Fn) (first cap : Array Value) (w : World), (Instr.makeFunc fn first cap).run Tryz.prog w = .ok (.func fn first cap) w := fun _ _ _ _ => rfl
  go_enter Tryz.func93, Tryz.ntmps93
  go_wp2_with fail
  go_ret
  exact ⟨rfl, rfl⟩
end Go.Proofs.YteflpdhgojcmcaaGreatDoor
namespace Go.Proofs.YteflpdhgojcmcaaGreatDoor
open Go.RowKit PSet PMat
theorem info_250 : ∃ i z, Tryz.prog.info? 250 = some i ∧ i.zero = some z ∧ i.size = 1 ∧ i.bytes = 16 ∧ z.cells.size = 1 := by
  have h : (Tryz.prog.info? 250).map (fun i => (i.size, i.bytes, i.zero.map fun z => z.cells.size)) = some (1, 16, some 1) := by kernel_rfl
  cases hi : Tryz.prog.info? 250 with
  | none => rw [hi] at h; cases h
  | some i =>
    rw [hi] at h
    simp only [Option.map_some, Option.some.injEq, Prod.mk.injEq] at h
    obtain ⟨h1, h2, h3⟩ := h
    cases hz : i.zero with
    | none => rw [hz] at h3; cases h3
    | some z =>
      rw [hz] at h3
      exact ⟨i, z, rfl, hz, h1, h2, by simpa using h3⟩
set_option maxRecDepth 100000 in
theorem hiSpans (b off cap : Nat) (w : World) (h : HistAt w b off) :
    Calls Tryz.prog 96 #[.slice (some ⟨b, off, none⟩) 3 cap] w fun en w' => ∃ a c, en = .returned (.slice a 1 c) ∧ Below w.heap.size w w' := by
  have C1 := Lib.hid (hiLived b off cap w h)
  obtain ⟨i0, z0, hi, hz0, hz1, hz2, hz3⟩ := info_250
  clear h
  go_enter Tryz.func96, Tryz.ntmps96
  go_wp2_with fail
  refine (C1.out).mono ?_
  rintro en y ⟨A, lb, c, L, m1, m2, rfl, hl, hby⟩
  have HB := Lib.hid hby
  have l0 : y.cell? ⟨lb, 0, none⟩ = some (.pointer (some ⟨L, 0, none⟩)) := (owns_at hl.row (by decide)).2.2.1 0 _ rfl
  have hS0 : (fun w' : World => w'.cell? ⟨L, 0, none⟩ = some (.int .i64 0) ∧ w'.cell? ⟨L, 1, none⟩ = some (.int .i64 2)) y.drew := ⟨cell_of_row _ _ 0 _ _ _ hl.life, cell_of_row _ _ 1 _ _ _ hl.life⟩
  have l1 : y.drew.cell? ⟨L, 1, none⟩ = some (.int .i64 2) := hS0.2
  clear hl hby C1
  go_wp2_with fail
  refine wp_loop_rounds 2 ?_
  rw [rounds_succ]
  go_upto_region 5 with fail
  refine hregion (fun w' : World => w'.cell? ⟨L, 0, none⟩ = some (.int .i64 0) ∧ w'.cell? ⟨L, 1, none⟩ = some (.int .i64 2)) hS0 (fun hHeld => ?_)
  clear hS0
  refine hd 0 (v := ?_) ?_ ?_; rotate_left; · rintro w ⟨hS1, hS2⟩; go_simp; try with_reducible rfl
  simp only [Act.put, pt1, pt2, pt3]
  refine hd 1 (v := ?_) ?_ ?_; rotate_left; · rintro w ⟨hS1, hS2⟩; go_simp; try with_reducible rfl
  simp only [Act.put, pt1, pt2, pt3]
  refine hd 2 (v := ?_) ?_ ?_; rotate_left; · rintro w ⟨hS1, hS2⟩; go_simp; try with_reducible rfl
  simp only [Act.put, pt1, pt2, pt3]
  refine hd 3 (v := ?_) ?_ ?_; rotate_left; · rintro w ⟨hS1, hS2⟩; go_simp; try with_reducible rfl
  simp only [Act.put, pt1, pt2, pt3]
  refine hd 4 (v := ?_) ?_ ?_; rotate_left; · rintro w ⟨hS1, hS2⟩; go_simp; try with_reducible rfl
  simp only [Act.put, pt1, pt2, pt3]
  refine hd 5 (v := ?_) ?_ ?_; rotate_left; · rintro w ⟨hS1, hS2⟩; go_simp; try with_reducible rfl
  simp only [Act.put, pt1, pt2, pt3]
  refine hd 6 (v := ?_) ?_ ?_; rotate_left; · rintro w ⟨hS1, hS2⟩; go_simp; try with_reducible rfl
  simp only [Act.put, pt1, pt2, pt3]
  refine hd 7 (v := ?_) ?_ ?_; rotate_left; · rintro w ⟨hS1, hS2⟩; go_simp; try with_reducible rfl
  simp only [Act.put, pt1, pt2, pt3]
  refine hd 8 (v := ?_) ?_ ?_; rotate_left; · rintro w ⟨hS1, hS2⟩; go_simp; try with_reducible rfl
  simp only [Act.put, pt1, pt2, pt3]
  refine hd 9 (v := ?_) ?_ ?_; rotate_left; · rintro w ⟨hS1, hS2⟩; go_simp; try with_reducible rfl
  simp only [Act.put, pt1, pt2, pt3]
  refine hd 10 (v := ?_) ?_ ?_; rotate_left; · rintro w ⟨hS1, hS2⟩; go_simp; try with_reducible rfl
  simp only [Act.put, pt1, pt2, pt3]
  refine hd 11 (v := ?_) ?_ ?_; rotate_left; · rintro w ⟨hS1, hS2⟩; go_simp; try with_reducible rfl
  simp only [Act.put, pt1, pt2, pt3]
  refine hend ?_
  clear hHeld
  go_upto_region 8 with fail
  have hwy := HB.out.size
  have hb : Below w.heap.size w y.drew := HB.out.drew
  generalize y.drew = Y at *
  generalize floatOfInt .f64 0 = fa at *
  generalize floatOfInt .f64 2 = fb at *
  have hwY := hb.size
  have HBY := Lib.hid hb
  clear hb HB
  go_wp2_with (at_builtin; refine wpList_append_own _ rfl _ _ 186 rfl w.heap.size 250 i0 z0 1 16 Tryz.underlying186 hi hz0 hz1 hz2 hz3 (by decide) _ 0 [] rfl (World.ownsRow_nil _ _ _ _) ⟨Y.heap.size, 0, none⟩ 1 1 [.complex .f64 fa fb] rfl rfl (by exact news_new Y [.complex .f64 fa fb] 250) (by intro u hu; simp at hu; subst hu; rfl) (by unfold maxLen; omega) (by omega) (by simp; omega) ?_)
  intro v2 z2 hown2 hgrow _
  obtain ⟨vb, vc, rfl, -, -, -, -⟩ := owns_block hown2 (by decide)
  have hbZ : Below Y.heap.size Y (Y.alloc (.cells #[.complex .f64 fa fb] 250)) := (Below.refl _ _).alloc (Nat.le_refl _) _
  have hs3 : Below (Y.alloc (.cells #[.complex .f64 fa fb] 250)).heap.size (Y.alloc (.cells #[.complex .f64 fa fb] 250)) z2 := Chg.to_below (F := fun _ => False) ((Chg.refl _ _).grown hgrow (fun k e => by cases e)) (Nat.le_refl _) (fun _ hi => hi.elim)
  have HF := Lib.hid (HBY.out.trans ((hbZ.trans (hs3.mono hbZ.size)).mono hwY))
  clear hown2 hgrow hbZ hs3
  go_wp2_with fail
  rw [rounds_succ]
  go_wp2_with fail
  go_ret
  exact ⟨_, _, rfl, HF.out⟩
end Go.Proofs.YteflpdhgojcmcaaGreatDoor
namespace Go.Proofs.YteflpdhgojcmcaaGreatDoor
open Go.RowKit PSet PMat
set_option maxRecDepth 100000 in
theorem hiEntries (b off cap : Nat) (w : World) (h : HistAt w b off) :
    Calls Tryz.prog 97 #[.slice (some ⟨b, off, none⟩) 3 cap] w fun en w' => ∃ v wv, en = .returned v ∧ w'.ownsRow w.heap.size 42 5 v 1 [.int .i64 1, .bool true, .bool true, .slice none 0 0, wv] ∧ w'.ownsRow w.heap.size 155 4 wv 1 step7.cells ∧ Below w.heap.size w w' := by
  have C1 := Lib.hid (hiLived b off cap w h)
  obtain ⟨i0, z0, hi, hz0, hz1, hz2, hz3⟩ := info_42
  clear h
  go_enter Tryz.func97, Tryz.ntmps97
  go_wp2_with fail
  refine (C1.out).mono ?_
  rintro en y ⟨A, lb, c, L, m1, m2, rfl, hl, hby⟩
  have HL := Lib.hid hl
  have HB := Lib.hid hby
  have l0 : y.cell? ⟨lb, 0, none⟩ = some (.pointer (some ⟨L, 0, none⟩)) := (owns_at hl.row (by decide)).2.2.1 0 _ rfl
  have hLl : L < y.heap.size := block_lt hl.life
  have C2 := Lib.hid (fun (X : World) (hX : Below y.heap.size y X) => listed_none m1 X ((hX.block _ (block_lt hl.reads)).trans hl.reads))
  have C3 := Lib.hid (fun (X : World) (hX : Below y.heap.size y X) => listed_one m2 X ((hX.block _ (block_lt hl.writes)).trans hl.writes))
  have hLF : ∀ X, Below y.heap.size y X → X.heap[L]? = some (.cells #[.int .i64 0, .int .i64 2, .bool true, .map (some m1), .map (some m2)] 255 (0, 0)) := fun X hX => (hX.block _ hLl).trans hl.life
  have HLF := Lib.hid hLF
  have hS0 : (fun w' : World => w'.cell? ⟨L, 1, none⟩ = some (.int .i64 2) ∧ w'.cell? ⟨L, 2, none⟩ = some (.bool true) ∧ w'.cell? ⟨L, 3, none⟩ = some (.map (some m1))) y.drew := ⟨cell_of_row _ _ 1 _ _ _ hl.life, cell_of_row _ _ 2 _ _ _ hl.life, cell_of_row _ _ 3 _ _ _ hl.life⟩
  clear hl hby C1 hLF
  go_wp2_with fail
  refine wp_loop_rounds 2 ?_
  rw [rounds_succ]
  go_upto_region 5 with fail
  go_cut [7] from 20 (fun v7 wc => ∃ d : Nat, v7 = .pointer (some ⟨d, 0, none⟩) ∧ Hid (y.heap.size ≤ d ∧ wc.heap[d]? = some (.cells #[.int .i64 1, .bool true, .bool true, .slice none 0 0, .slice none 0 0] 42 (0, 0)) ∧ Below y.heap.size y wc))
  case first =>
    refine hregion (fun w' : World => w'.cell? ⟨L, 1, none⟩ = some (.int .i64 2) ∧ w'.cell? ⟨L, 2, none⟩ = some (.bool true) ∧ w'.cell? ⟨L, 3, none⟩ = some (.map (some m1))) hS0 (fun hHeld => ?_)
    clear hS0
    refine hd 0 (v := ?_) ?_ ?_; rotate_left; · rintro w ⟨hS1, hS2, hS3⟩; go_simp; try with_reducible rfl
    simp only [Act.put, pt1, pt2, pt3]
    refine hd 1 (v := ?_) ?_ ?_; rotate_left; · rintro w ⟨hS1, hS2, hS3⟩; go_simp; try with_reducible rfl
    simp only [Act.put, pt1, pt2, pt3]
    refine hd 2 (v := ?_) ?_ ?_; rotate_left; · rintro w ⟨hS1, hS2, hS3⟩; go_simp; try with_reducible rfl
    simp only [Act.put, pt1, pt2, pt3]
    refine hd 3 (v := ?_) ?_ ?_; rotate_left; · rintro w ⟨hS1, hS2, hS3⟩; go_simp; try with_reducible rfl
    simp only [Act.put, pt1, pt2, pt3]
    refine hd 4 (v := ?_) ?_ ?_; rotate_left; · rintro w ⟨hS1, hS2, hS3⟩; go_simp; try with_reducible rfl
    simp only [Act.put, pt1, pt2, pt3]
    refine hd 5 (v := ?_) ?_ ?_; rotate_left; · rintro w ⟨hS1, hS2, hS3⟩; go_simp; try with_reducible rfl
    simp only [Act.put, pt1, pt2, pt3]
    refine hd 6 (v := ?_) ?_ ?_; rotate_left; · rintro w ⟨hS1, hS2, hS3⟩; go_simp; try with_reducible rfl
    simp only [Act.put, pt1, pt2, pt3]
    refine hd 7 (v := ?_) ?_ ?_; rotate_left; · rintro w ⟨hS1, hS2, hS3⟩; go_simp; try with_reducible rfl
    simp only [Act.put, pt1, pt2, pt3]
    refine hd 8 (v := ?_) ?_ ?_; rotate_left; · rintro w ⟨hS1, hS2, hS3⟩; go_simp; try with_reducible rfl
    simp only [Act.put, pt1, pt2, pt3]
    refine hd 9 (v := ?_) ?_ ?_; rotate_left; · rintro w ⟨hS1, hS2, hS3⟩; go_simp; try with_reducible rfl
    simp only [Act.put, pt1, pt2, pt3]
    refine hd 10 (v := ?_) ?_ ?_; rotate_left; · rintro w ⟨hS1, hS2, hS3⟩; go_simp; try with_reducible rfl
    simp only [Act.put, pt1, pt2, pt3]
    refine hd 11 (v := ?_) ?_ ?_; rotate_left; · rintro w ⟨hS1, hS2, hS3⟩; go_simp; try with_reducible rfl
    simp only [Act.put, pt1, pt2, pt3]
    refine hd 12 (v := ?_) ?_ ?_; rotate_left; · rintro w ⟨hS1, hS2, hS3⟩; go_simp; try with_reducible rfl
    simp only [Act.put, pt1, pt2, pt3]
    refine hd 13 (v := ?_) ?_ ?_; rotate_left; · rintro w ⟨hS1, hS2, hS3⟩; go_simp; try with_reducible rfl
    simp only [Act.put, pt1, pt2, pt3]
    refine hd 14 (v := ?_) ?_ ?_; rotate_left; · rintro w ⟨hS1, hS2, hS3⟩; go_simp; try with_reducible rfl
    simp only [Act.put, pt1, pt2, pt3]
    refine wpAnyH_ready (rs := [15, 17]) (by kernel_rfl) (by simp) (.cons (nth_spec _ 15 _ rfl) (fun K' hK => ?_) (.cons (nth_spec _ 17 _ rfl) (fun K' hK => ?_) .nil))
    · go_simp
      go_at_call 145
      refine (C2.out y.drew ((Below.refl _ y).drew)).mono ?_
      rintro e y1 ⟨rfl, hb1⟩
      have HB1 := Lib.hid (((Below.refl _ y).drew).trans hb1)
      clear hb1
      go_wp2_with fail
      refine hK.out _ _ ?_ (fun hHeld => ?_)
      · exact ⟨cell_of_row _ _ 1 _ _ _ (HLF.out _ HB1.out), cell_of_row _ _ 2 _ _ _ (HLF.out _ HB1.out), cell_of_row _ _ 3 _ _ _ (HLF.out _ HB1.out)⟩
      clear hK K'
      try simp only [Act.put, pt1, pt2, pt3]
      refine hd 16 (v := ?_) ?_ ?_; rotate_left; · rintro w ⟨hS1, hS2, hS3⟩; go_simp; try with_reducible rfl
      simp only [Act.put, pt1, pt2, pt3]
      refine hcl 17 (fun K' hK => ?_)
      go_simp
      have hbd : Below y.heap.size y (y1.alloc (.cells #[.int .i64 0, .bool false, .bool false, .slice none 0 0, .slice none 0 0] 42)) := HB1.out.alloc HB1.out.size _
      have hnd := Go.heap_alloc_new y1 (.cells #[.int .i64 0, .bool false, .bool false, .slice none 0 0, .slice none 0 0] 42)
      generalize y1.alloc (.cells #[.int .i64 0, .bool false, .bool false, .slice none 0 0, .slice none 0 0] 42) = y2 at *
      have hy1 := HB1.out.size
      generalize y1.heap.size = d at *
      have HD := Lib.hid (And.intro hnd (And.intro hy1 hbd))
      clear hnd hbd
      refine hK.out _ _ ?_ (fun hHeld => ?_)
      · exact ⟨cell_of_row _ _ 1 _ _ _ (HLF.out _ HD.out.2.2), cell_of_row _ _ 2 _ _ _ (HLF.out _ HD.out.2.2), cell_of_row _ _ 3 _ _ _ (HLF.out _ HD.out.2.2)⟩
      clear hK K'
      try simp only [Act.put, pt1, pt2, pt3]
      refine held_store 18 42 (.tmp 7) (.tmp 36) d #[.int .i64 1, .bool true, .bool true, .slice none 0 0, .slice none 0 0] #[.int .i64 0, .bool false, .bool false, .slice none 0 0, .slice none 0 0] 42 rfl rfl (by kernel_rfl) (by rfl) rfl rfl HD.out.1 (by kernel_rfl) rfl (by kernel_rfl) ?_ ?_
      · exact (fun hx : Below y.heap.size y (y2.setRow d #[.int .i64 1, .bool true, .bool true, .slice none 0 0, .slice none 0 0]) => ⟨cell_of_row _ _ 1 _ _ _ (HLF.out _ hx), cell_of_row _ _ 2 _ _ _ (HLF.out _ hx), cell_of_row _ _ 3 _ _ _ (HLF.out _ hx)⟩) (below_setRow' HD.out.2.2 HD.out.2.1 _)
      simp only [Act.put]
      have HE := Lib.hid (And.intro HD.out.2.1 (And.intro (block_setRow_same (cs := #[.int .i64 1, .bool true, .bool true, .slice none 0 0, .slice none 0 0]) HD.out.1) (below_setRow' HD.out.2.2 HD.out.2.1 #[.int .i64 1, .bool true, .bool true, .slice none 0 0, .slice none 0 0])))
      refine hend ?_
      go_wp2_with fail
      go_meet
      case rel => exact ⟨d, rfl, HE⟩
    · go_simp
      have hbd : Below y.heap.size y ((y.alloc (.cells #[.int .i64 0, .bool false, .bool false, .slice none 0 0, .slice none 0 0] 42)).drew) := ((Below.refl _ y).alloc (Nat.le_refl _) _).drew
      have hnd : (y.alloc (.cells #[.int .i64 0, .bool false, .bool false, .slice none 0 0, .slice none 0 0] 42)).drew.heap[y.heap.size]? = some (.cells #[.int .i64 0, .bool false, .bool false, .slice none 0 0, .slice none 0 0] 42 (0, 0)) := Go.heap_alloc_new y (.cells #[.int .i64 0, .bool false, .bool false, .slice none 0 0, .slice none 0 0] 42)
      generalize (y.alloc (.cells #[.int .i64 0, .bool false, .bool false, .slice none 0 0, .slice none 0 0] 42)).drew = y2 at *
      have HDa := Lib.hid (And.intro hnd hbd)
      clear hnd hbd
      refine hK.out _ _ ?_ (fun hHeld => ?_)
      · exact ⟨cell_of_row _ _ 1 _ _ _ (HLF.out _ HDa.out.2), cell_of_row _ _ 2 _ _ _ (HLF.out _ HDa.out.2), cell_of_row _ _ 3 _ _ _ (HLF.out _ HDa.out.2)⟩
      clear hK K'
      try simp only [Act.put, pt1, pt2, pt3]
      refine hcl 15 (fun K' hK => ?_)
      go_simp
      go_at_call 145
      refine (C2.out y2 HDa.out.2).mono ?_
      rintro e y3 ⟨rfl, hb1⟩
      have HD := Lib.hid (And.intro ((hb1.block _ (block_lt HDa.out.1)).trans HDa.out.1) (And.intro (Nat.le_refl y.heap.size) (HDa.out.2.trans (hb1.mono HDa.out.2.size))))
      clear hb1
      go_wp2_with fail
      refine hK.out _ _ ?_ (fun hHeld => ?_)
      · exact ⟨cell_of_row _ _ 1 _ _ _ (HLF.out _ HD.out.2.2), cell_of_row _ _ 2 _ _ _ (HLF.out _ HD.out.2.2), cell_of_row _ _ 3 _ _ _ (HLF.out _ HD.out.2.2)⟩
      clear hK K'
      try simp only [Act.put, pt1, pt2, pt3]
      refine hd 16 (v := ?_) ?_ ?_; rotate_left; · rintro w ⟨hS1, hS2, hS3⟩; go_simp; try with_reducible rfl
      simp only [Act.put, pt1, pt2, pt3]
      refine held_store 18 42 (.tmp 7) (.tmp 36) y.heap.size #[.int .i64 1, .bool true, .bool true, .slice none 0 0, .slice none 0 0] #[.int .i64 0, .bool false, .bool false, .slice none 0 0, .slice none 0 0] 42 rfl rfl (by kernel_rfl) (by rfl) rfl rfl HD.out.1 (by kernel_rfl) rfl (by kernel_rfl) ?_ ?_
      · exact (fun hx : Below y.heap.size y (y3.setRow y.heap.size #[.int .i64 1, .bool true, .bool true, .slice none 0 0, .slice none 0 0]) => ⟨cell_of_row _ _ 1 _ _ _ (HLF.out _ hx), cell_of_row _ _ 2 _ _ _ (HLF.out _ hx), cell_of_row _ _ 3 _ _ _ (HLF.out _ hx)⟩) (below_setRow' HD.out.2.2 HD.out.2.1 _)
      simp only [Act.put]
      have HE := Lib.hid (And.intro HD.out.2.1 (And.intro (block_setRow_same (cs := #[.int .i64 1, .bool true, .bool true, .slice none 0 0, .slice none 0 0]) HD.out.1) (below_setRow' HD.out.2.2 HD.out.2.1 #[.int .i64 1, .bool true, .bool true, .slice none 0 0, .slice none 0 0])))
      refine hend ?_
      go_wp2_with fail
      go_meet
      case rel => exact ⟨y.heap.size, rfl, HE⟩
  case rest =>
    obtain ⟨d, rfl, hc⟩ := hcut
    have hlc := HLF.out _ hc.out.2.2
    have l2 := cell_of_row _ _ 2 _ _ _ hlc
    have l4 := cell_of_row _ _ 4 _ _ _ hlc
    have C3' := Lib.hid (C3.out _ hc.out.2.2)
    clear hlc C3 C2
    go_wp2_with fail
    refine (C3'.out).mono ?_
    rintro e y4 ⟨v4, rfl, hown, hb4⟩
    obtain ⟨wb, wc4, rfl, -, -, -, -⟩ := owns_block hown (by decide)
    have hd4 := (hb4.block _ (block_lt hc.out.2.1)).trans hc.out.2.1
    have d4 := cell_of_row _ _ 4 _ _ _ hd4
    have f4 := frozen_of_row _ _ 4 _ _ hd4
    have H4 := Lib.hid (And.intro hown (And.intro (hc.out.2.2.trans (hb4.mono hc.out.2.2.size)) (And.intro hd4 (Nat.le_trans hc.out.2.2.size (Nat.le_refl _)))))
    clear hown hb4 hd4 C3' l2 l4
    go_upto_region 8 with fail
    have hx := heap_setCell_same y4 d 4 _ _ (.slice (some ⟨wb, 0, none⟩) 1 wc4) H4.out.2.2.1
    have ho := ownsRow_setCell_other H4.out.1 (a := ⟨d, 4, none⟩) (owns_type H4.out.1 H4.out.2.2.1 (by decide)) (.slice (some ⟨wb, 0, none⟩) 1 wc4)
    have hb := H4.out.2.1.setCell (p := ⟨d, 4, none⟩) hc.out.1 (.slice (some ⟨wb, 0, none⟩) 1 wc4)
    have hwy := HB.out.size
    have hw4 := hc.out.2.2.size
    have HX := Lib.hid (And.intro ho (HB.out.trans (hb.mono hwy)))
    generalize y4.setCell ⟨d, 4, none⟩ (.slice (some ⟨wb, 0, none⟩) 1 wc4) = X at *
    have x0 := cell_of_row _ _ 0 _ _ _ hx
    have x1 := cell_of_row _ _ 1 _ _ _ hx
    have x2 := cell_of_row _ _ 2 _ _ _ hx
    have x3 := cell_of_row _ _ 3 _ _ _ hx
    have x4 := cell_of_row _ _ 4 _ _ _ hx
    have hwX := HX.out.2.size
    have ho42 : AllOne [.int .i64 1, .bool true, .bool true, .slice none 0 0, .slice (some ⟨wb, 0, none⟩) 1 wc4] := by
      intro v hv
      simp at hv
      rcases hv with rfl | rfl | rfl | rfl <;> rfl
    have HO := Lib.hid ho42
    clear hx ho hb d4 f4 ho42
    go_wp2_with (at_builtin; refine wpList_append_own _ rfl _ _ 38 rfl w.heap.size 42 i0 z0 5 64 Tryz.underlying38 hi hz0 hz1 hz2 hz3 (by decide) _ 0 [] rfl (World.ownsRow_nil _ _ _ _) ⟨X.heap.size, 0, none⟩ 1 1 [.int .i64 1, .bool true, .bool true, .slice none 0 0, .slice (some ⟨wb, 0, none⟩) 1 wc4] rfl rfl (by exact news_new X [.int .i64 1, .bool true, .bool true, .slice none 0 0, .slice (some ⟨wb, 0, none⟩) 1 wc4] 42) HO.out (by unfold maxLen; omega) (by omega) (by simp; omega) ?_)
    intro v2 z2 hown2 hgrow _
    obtain ⟨vb, vc, rfl, -, -, -, -⟩ := owns_block hown2 (by decide)
    have hbZ : Below X.heap.size X (X.alloc (.cells #[.int .i64 1, .bool true, .bool true, .slice none 0 0, .slice (some ⟨wb, 0, none⟩) 1 wc4] 42)) := (Below.refl _ _).alloc (Nat.le_refl _) _
    have hs3 : Below (X.alloc (.cells #[.int .i64 1, .bool true, .bool true, .slice none 0 0, .slice (some ⟨wb, 0, none⟩) 1 wc4] 42)).heap.size (X.alloc (.cells #[.int .i64 1, .bool true, .bool true, .slice none 0 0, .slice (some ⟨wb, 0, none⟩) 1 wc4] 42)) z2 := Chg.to_below (F := fun _ => False) ((Chg.refl _ _).grown hgrow (fun k e => by cases e)) (Nat.le_refl _) (fun _ hi => hi.elim)
    have hXz := hbZ.trans (hs3.mono hbZ.size)
    have hwc : w.heap.size ≤ wc.heap.size := Nat.le_trans hwy hw4
    have HF := Lib.hid (And.intro hown2 (And.intro (owns_mono (owns_below HX.out.1 hXz) hwc) (HX.out.2.trans (hXz.mono hwX))))
    clear hown2 hgrow hbZ hs3 hXz
    go_wp2_with fail
    rw [rounds_succ]
    go_wp2_with fail
    go_ret
    exact ⟨_, _, rfl, HF.out.1, HF.out.2.1, HF.out.2.2⟩
end Go.Proofs.YteflpdhgojcmcaaGreatDoor
