/- slices.SortedFunc and txn.listed, of a map with one step or none; txn.Writes of one step or none. txn.Reads of one step or none. The walks of clocked's good, who and New. The walk of clocked's Write, of a transaction without steps. No conditions but those that each theorem names. -/
import Derived.Test.YteflpdhgojcmcaaGreatDoorU01
import Derived.Test.YteflpdhgojcmcaaGreatDoorU07
import Derived.Test.YteflpdhgojcmcaaGreatDoorU09
import Derived.Test.YteflpdhgojcmcaaGreatDoorU08
import Derived.Deep.Cut
namespace Go.Proofs.YteflpdhgojcmcaaGreatDoor
open Go.RowKit Go.Shelf
def optC : Option StepM → List Value | none => [] | some s => s.cells
def optN : Option StepM → Nat | none => 0 | some _ => 1
def optE : Option StepM → Array MapEntry | none => #[] | some s => #[{ key := .int .i64 s.x, val := .agg s.cells.toArray, born := 0 }]
theorem optE_came {o : Option StepM} {xs : List (Ent (optE o))} (h : (xs.map (·.1)).Perm (optE o).toList) : xs.length = optN o ∧ xs.flatMap entC = optC o ∧ (xs = [] ↔ o = none) := by
  cases o with
  | none =>
    have : xs = [] := by
      have := h.length_eq
      rw [List.length_map] at this
      exact List.length_eq_zero_iff.1 this
    subst this
    exact ⟨rfl, rfl, by simp⟩
  | some s =>
    have hl : xs.length = 1 := by
      have := h.length_eq
      rw [List.length_map] at this
      exact this
    match xs, hl with
    | [x], _ =>
      have hx := x.2
      simp [optE] at hx
      refine ⟨rfl, ?_, by simp⟩
      simp [entC, hx, optC]
theorem collect203_any (o : Option StepM) (Bm b : Nat) (w : World) (hm : w.cell? ⟨Bm, 0, none⟩ = some (.map (some b))) (hBm : Bm < w.heap.size) (hb : w.heap[b]? = some (.map (optE o) (optN o))) :
    Calls Tryz.prog 203 #[.func (.func 205) #[] #[.pointer (some ⟨Bm, 0, none⟩)]] w fun e w' => ∃ v, e = .returned v ∧ w'.ownsRow w.heap.size 155 4 v (optN o) (optC o) ∧ (v = .slice none 0 0 ↔ o = none) ∧ Below w.heap.size w w' := by
  have hnd : ((optE o).toList.map (·.born)).Nodup := by cases o <;> simp [optE]
  have hold : ∀ x ∈ (optE o).toList, x.born < optN o := by cases o <;> simp [optE, optN]
  have hst : StepsIn (optE o) := by
    intro e he
    cases o with
    | none => simp [optE] at he
    | some s => simp [optE] at he; subst he; exact ⟨s, rfl⟩
  have h := calls_of_every_depth (L := [203, 233, 205]) (n := 4) fun D => collect203 (Fence.list [203, 233, 205] (some D)) 4 (by simp [Fence.list]) (by simp [Fence.list]) (by simp [Fence.list]) rfl (by omega) Bm b (optE o) (optN o) hnd hold hst (by cases o <;> simp [optE]) w hm hBm hb
  refine h.mono ?_
  rintro e w' ⟨xs, v, hp, rfl, hown, hnil, hB⟩
  obtain ⟨h1, h2, h3⟩ := optE_came hp
  rw [h1, h2] at hown
  exact ⟨v, rfl, hown, hnil.trans h3, hB⟩
theorem sorted167 (o : Option StepM) (Bm b : Nat) (f : Value) (w : World) (hm : w.cell? ⟨Bm, 0, none⟩ = some (.map (some b))) (hBm : Bm < w.heap.size) (hb : w.heap[b]? = some (.map (optE o) (optN o))) :
    Calls Tryz.prog 167 #[.func (.func 205) #[] #[.pointer (some ⟨Bm, 0, none⟩)], f] w fun e w' => ∃ v, e = .returned v ∧ w'.ownsRow w.heap.size 155 4 v (optN o) (optC o) ∧ (v = .slice none 0 0 ↔ o = none) ∧ Below w.heap.size w w' := by
  have C1 := Lib.hid (collect203_any o Bm b w hm hBm hb)
  have hn : optN o ≤ 1 := by cases o <;> simp [optN]
  clear hm hb
  generalize optN o = n at *
  go_enter Tryz.func167, Tryz.ntmps167
  go_wp2_with fail
  refine (C1.out).mono ?_
  rintro e y ⟨v, rfl, hown, hnil, hB⟩
  obtain ⟨_, va, vc, rfl, _⟩ := RowAt.of_owns hown
  have C2 := Lib.hid (sort_few va vc f n y hn)
  have HF := Lib.hid (And.intro hown (And.intro hnil hB))
  clear hown hnil hB
  go_wp2_with fail
  refine (C2.out).mono ?_
  rintro e y2 ⟨rfl, rfl⟩
  go_wp2_with fail
  go_ret
  exact ⟨_, rfl, HF.out.1, HF.out.2.1, HF.out.2.2⟩
theorem values168_any (mb : Option Nat) (w : World) :
    Calls Tryz.prog 168 #[.map mb] w fun e w' => e = .returned (.func (.func 205) #[] #[.pointer (some ⟨w.heap.size, 0, none⟩)]) ∧ w' = w.alloc (.cells #[.map mb] 240) := by
  have hmf : ∀ (fn : Fn) (first cap : Array Value) (w : World), (Instr.makeFunc fn first cap).run Tryz.prog w = .ok (.func fn first cap) w := fun _ _ _ _ => rfl
  go_enter Tryz.func168, Tryz.ntmps168
  go_wp2_with fail
  go_ret
  exact ⟨rfl, rfl⟩
theorem listed135 (o : Option StepM) (b : Nat) (w : World) (hb : w.heap[b]? = some (.map (optE o) (optN o))) :
    Calls Tryz.prog 135 #[.map (some b)] w fun e w' => ∃ v, e = .returned v ∧ w'.ownsRow w.heap.size 155 4 v (optN o) (optC o) ∧ (v = .slice none 0 0 ↔ o = none) ∧ Below w.heap.size w w' := by
  have C1 := Lib.hid (values168_any (some b) w)
  have hbel : Below w.heap.size w (w.alloc (.cells #[.map (some b)] 240)) := (Below.refl _ _).alloc (Nat.le_refl _) _
  have C2 := Lib.hid (fun f => sorted167 o w.heap.size b f _ (new_cell w #[.map (some b)] 240 0) (by simp) ((hbel.block _ (block_lt hb)).trans hb))
  have HB := Lib.hid hbel
  clear hbel hb
  go_enter Tryz.func135, Tryz.ntmps135
  go_wp2_with fail
  refine (C1.out).mono ?_
  rintro e y ⟨rfl, rfl⟩
  go_wp2_with fail
  refine (C2.out _).mono ?_
  rintro e y ⟨v, rfl, hown, hnil, hB⟩
  have HF := Lib.hid (And.intro (owns_mono hown (show w.heap.size ≤ _ by simp)) (And.intro hnil (HB.out.trans (hB.mono HB.out.size))))
  clear hown hnil hB
  go_wp2_with fail
  go_ret
  exact ⟨_, rfl, HF.out.1, HF.out.2.1, HF.out.2.2⟩
/-- What one step leaves, if it is a write. -/
def writesM (t : Option StepM) : Option StepM := t.filter fun s => s.wr
def readsM (t : Option StepM) : Option StepM := t.filter fun s => !s.wr
set_option maxRecDepth 100000 in
theorem txnWrites (t : Option StepM) (v : Value) (w : World) (hv : RowAt w v (optN t) 4 (optC t)) (hx : ∀ s, t = some s → 0 ≤ s.x ∧ s.x < 64) :
    Calls Tryz.prog 84 #[v] w fun e w' => ∃ v', e = .returned v' ∧ w'.ownsRow w.heap.size 155 4 v' (optN (writesM t)) (optC (writesM t)) ∧ (v' = .slice none 0 0 ↔ writesM t = none) ∧ Below w.heap.size w w' := by
  obtain ⟨_, a, c, rfl, hr⟩ := hv
  have hmk : ∀ w : World, (Instr.makeMap 240 none).run Tryz.prog w = .ok (.map (some w.heap.size)) (w.alloc (.map #[] 0)) := fun w => by kernel_rfl
  have hm0 := heap_alloc_new w (.map #[] 0)
  have hb0 : Below w.heap.size w (w.alloc (.map #[] 0)) := (Below.refl _ _).alloc (Nat.le_refl _) _
  cases t with
  | none =>
    have C1 := Lib.hid (listed135 none w.heap.size (w.alloc (.map #[] 0)) hm0)
    have HB := Lib.hid hb0
    clear hm0 hb0 hr hx
    simp only [optN]
    go_enter Tryz.func84, Tryz.ntmps84
    go_wp2_with fail
    refine wp_loop_rounds 1 ?_
    rw [rounds_succ]
    go_wp2_with fail
    refine (C1.out).mono ?_
    rintro e y ⟨v, rfl, hown, hnil, hB⟩
    have HF := Lib.hid (And.intro (owns_mono hown (show w.heap.size ≤ _ by simp)) (And.intro hnil (HB.out.trans (hB.mono HB.out.size))))
    clear hown hnil hB
    go_wp2_with fail
    go_ret
    exact ⟨_, rfl, HF.out.1, HF.out.2.1.trans (by simp [writesM]), HF.out.2.2⟩
  | some s =>
    obtain ⟨b, off, rfl, hbl, hr⟩ := hr (by simp [optN])
    obtain ⟨hx0, hx1⟩ := hx s rfl
    obtain ⟨sx, sk, sn, sw⟩ := s
    simp only at hx0 hx1
    have d0 : (w.alloc (.map #[] 0)).cell? ⟨b, off, none⟩ = some (.int .i64 sx) := (hb0.cell (p := ⟨b, off, none⟩) hbl).trans (hr 0 _ rfl)
    have d1 : (w.alloc (.map #[] 0)).cell? ⟨b, off + 1, none⟩ = some (.int .i64 sk) := (hb0.cell (p := ⟨b, off + 1, none⟩) hbl).trans (hr 1 _ rfl)
    have d2 : (w.alloc (.map #[] 0)).cell? ⟨b, off + 2, none⟩ = some (.int .i64 sn) := (hb0.cell (p := ⟨b, off + 2, none⟩) hbl).trans (hr 2 _ rfl)
    have d3 : (w.alloc (.map #[] 0)).cell? ⟨b, off + 3, none⟩ = some (.bool sw) := (hb0.cell (p := ⟨b, off + 3, none⟩) hbl).trans (hr 3 _ rfl)
    cases sw
    · obtain ⟨W2, hW2⟩ : ∃ W2, W2 = (w.alloc (.map #[] 0)).alloc (.cells #[.int .i64 sx, .int .i64 sk, .int .i64 sn, .bool false] 155) := ⟨_, rfl⟩
      have hb2 : Below w.heap.size w W2 := by rw [hW2]; exact hb0.alloc (by simp) _
      have hm2 : W2.heap[w.heap.size]? = some (.map #[] 0) := by rw [hW2]; exact (heap_alloc_old _ _ (by simp)).trans hm0
      have C1 := Lib.hid (listed135 none w.heap.size W2 hm2)
      have HB := Lib.hid hb2
      clear hm0 hb0 hr hb2 hm2
      simp only [optN]
      go_enter Tryz.func84, Tryz.ntmps84
      go_wp2_with fail
      refine wp_loop_rounds 2 ?_
      rw [rounds_succ]
      go_wp2_with fail
      rw [rounds_succ]
      go_wp2_with fail
      rw [← hW2]
      refine (C1.out).mono ?_
      rintro e y ⟨v, rfl, hown, hnil, hB⟩
      have HF := Lib.hid (And.intro (owns_mono hown HB.out.size) (And.intro hnil (HB.out.trans (hB.mono HB.out.size))))
      clear hown hnil hB
      go_wp2_with fail
      go_ret
      exact ⟨_, rfl, HF.out.1, HF.out.2.1.trans (by simp [writesM]), HF.out.2.2⟩
    · obtain ⟨W2, hW2⟩ : ∃ W2, W2 = (w.alloc (.map #[] 0)).alloc (.cells #[.int .i64 sx, .int .i64 sk, .int .i64 sn, .bool true] 155) := ⟨_, rfl⟩
      have hb2 : Below w.heap.size w W2 := by rw [hW2]; exact hb0.alloc (by simp) _
      have hm2 : W2.heap[w.heap.size]? = some (.map #[] 0) := by rw [hW2]; exact (heap_alloc_old _ _ (by simp)).trans hm0
      have hput := run_put_first 240 3 155 w.heap.size 0 (.agg #[.int .i64 sx, .int .i64 sk, .int .i64 sn, .bool true]) sx W2 Tryz.underlying240 Tryz.underlying3 hm2
      have hm3 := World.putObj_heap_same (w := W2) (r := w.heap.size) (o := .map #[{ key := .int .i64 sx, val := .agg #[.int .i64 sx, .int .i64 sk, .int .i64 sn, .bool true], born := 0 }] 1) (block_lt hm2)
      have hb3 : Below w.heap.size w (W2.putObj w.heap.size (.map #[{ key := .int .i64 sx, val := .agg #[.int .i64 sx, .int .i64 sk, .int .i64 sn, .bool true], born := 0 }] 1)) := hb2.grown (grownBy_putObj' W2 w.heap.size _) hb2.size (fun k e => by cases e; exact Nat.le_refl _)
      have C1 := Lib.hid (listed135 (some ⟨sx, sk, sn, true⟩) w.heap.size _ hm3)
      have HB := Lib.hid hb3
      clear hm0 hb0 hr hb2 hm2 hm3 hb3
      subst hW2
      simp only [optN]
      go_enter Tryz.func84, Tryz.ntmps84
      go_wp2_with fail
      refine wp_loop_rounds 2 ?_
      rw [rounds_succ]
      go_wp2_with fail
      go_wp2_with fail
      rw [rounds_succ]
      go_wp2_with fail
      refine (C1.out).mono ?_
      rintro e y ⟨v, rfl, hown, hnil, hB⟩
      have HF := Lib.hid (And.intro (owns_mono hown HB.out.size) (And.intro hnil (HB.out.trans (hB.mono HB.out.size))))
      clear hown hnil hB
      go_wp2_with fail
      go_ret
      exact ⟨_, rfl, HF.out.1, HF.out.2.1.trans (by simp [writesM]), HF.out.2.2⟩
end Go.Proofs.YteflpdhgojcmcaaGreatDoor
namespace Go.Proofs.YteflpdhgojcmcaaGreatDoor
open Go.RowKit Go.Shelf
attribute [local go_sem] Oper.semAt_some
theorem makeMap240 (w : World) : (Instr.makeMap 240 none).run Tryz.prog w = .ok (.map (some w.heap.size)) (w.alloc (.map #[] 0)) := by kernel_rfl
/-- The world behind Reads' first steps: its map, the map's box, the slice's box. -/
def readsW (w : World) (v : Value) : World := ((w.alloc (.map #[] 0)).alloc (.cells #[.map (some w.heap.size)] 240)).alloc (.cells #[v] 134)
structure ReadsW (w W : World) (v : Value) : Prop where
  map : W.heap[w.heap.size]? = some (.map #[] 0)
  box : Boxed W (w.heap.size + 1) 240 (.map (some w.heap.size))
  slice : W.cell? ⟨w.heap.size + 1 + 1, 0, none⟩ = some v
  size : W.heap.size = w.heap.size + 1 + 1 + 1
  below : Below w.heap.size w W
theorem readsW_is (w : World) (v : Value) : ReadsW w (readsW w v) v := by
  have s1 : (w.alloc (.map #[] 0)).heap.size = w.heap.size + 1 := by simp
  have s2 : ((w.alloc (.map #[] 0)).alloc (.cells #[.map (some w.heap.size)] 240)).heap.size = w.heap.size + 1 + 1 := by simp
  have m1 := heap_alloc_new w (.map #[] 0)
  have m2 := Boxed.new (w.alloc (.map #[] 0)) 240 (.map (some w.heap.size))
  rw [s1] at m2
  have m3 := new_cell ((w.alloc (.map #[] 0)).alloc (.cells #[.map (some w.heap.size)] 240)) #[v] 134 0
  rw [s2] at m3
  exact ⟨(heap_alloc_old _ _ (by omega)).trans ((heap_alloc_old _ _ (by omega)).trans m1), m2.alloc _, m3, by simp [readsW], (((Below.refl _ w).alloc (Nat.le_refl _) _).alloc (by omega) _).alloc (by omega) _⟩
set_option maxRecDepth 100000 in
theorem txnReads_none (a : Option Addr) (c : Nat) (w : World) :
    Calls Tryz.prog 101 #[.slice a 0 c] w fun e w' => ∃ v', e = .returned v' ∧ w'.ownsRow w.heap.size 155 4 v' 0 [] ∧ v' = .slice none 0 0 ∧ Below w.heap.size w w' := by
  refine (callsIn_wide (n := 9)).1 ?_
  have hmk := makeMap240
  have CB := Lib.hid (fun W => (callsIn_wide (n := 8)).2 (backward_any a 0 c W))
  have hR := readsW_is w (.slice a 0 c)
  refine callsIn_of_wp_marks Tryz.func101 rfl trivial ?_ rfl
  simp only [Tryz.ntmps101, List.size_toArray, List.length_cons, List.length_nil, Nat.reduceAdd, Nat.reduceSub, Array.replicate_succ, Array.replicate_zero, List.push_toArray, List.append_toArray, List.nil_append, List.cons_append]
  have F147 : Fence.wide.fn 147 := trivial
  have F135 : Fence.wide.fn 135 := trivial
  gi_wp2_with (gi_at_call 147; refine (CB.out _).mono ?_; rintro e w' ⟨rfl, rfl⟩)
  change Code.wpIn _ _ _ _ _ _ (readsW w (.slice a 0 c))
  generalize readsW w (.slice a 0 c) = W0 at *
  refine wpIn_rangeFunc_ownF rfl (by omega) (gf := 187) (lb := #[.pointer (some ⟨w.heap.size + 1 + 1, 0, none⟩)]) rfl trivial (enters_of Tryz.func187 (by kernel_rfl) rfl)
    (backward1_stops Fence.wide 8 trivial rfl (w.heap.size + 1 + 1) a c W0 (by rw [hR.size]; omega) hR.slice) (fun _ _ => trivial) (fun _ _ _ _ _ _ _ _ => trivial) (Below.refl _ _) (fun x => nomatch x)
    (fun _ W => (Boxed W (w.heap.size + 1) 240 (.map (some w.heap.size)) ∧ W.heap[w.heap.size]? = some (.map #[] 0)) ∧ Below w.heap.size w W)
    (fun _ _ _ => False)
    (OwnFrom.and (OwnFrom.and (Own.from (boxed_own _ _ _) _) (fun s A B row hs hg hr => (hg.block _ (block_lt hs) (fun e => by have := (hr _ e.symm).1; rw [hR.size] at this; omega)).trans hs)) (ownFrom_below (Nat.le_refl _) (by rw [hR.size]; omega)))
    (fun _ _ _ _ _ hs _ _ => hs)
    ⟨⟨hR.box, hR.map⟩, hR.below⟩
    (fun x => nomatch x) (fun _ x => nomatch x) (fun _ _ x => nomatch x) ?done ?stop
  case done =>
    rintro D ys W hD rfl ⟨⟨hbx, hmp⟩, hB⟩ hK
    have hcb := hbx.cell
    have CL := Lib.hid ((callsIn_wide (n := 8)).2 (listed135 none w.heap.size W hmp))
    have HK := Lib.hid hK
    have HB := Lib.hid hB
    clear hK hB hbx hmp
    gi_wp2_with (gi_at_call 135; refine (CL.out).mono ?_; rintro e w' ⟨v, rfl, hown, hnil, hb2⟩; have HF := Lib.hid (And.intro hown (And.intro hnil hb2)); clear hown hnil hb2)
    have hK2 : w'.heap[D]? = some (.deferred (some [])) := (HF.out.2.2.block _ (block_lt HK.out)).trans HK.out
    refine ⟨by simp, .inl ⟨_, _, rfl, run_takeDeferred hK2, ?_⟩⟩
    have hv : v = .slice none 0 0 := HF.out.2.1.2 trivial
    refine ⟨_, results_tmp rfl _ _ _, v, rfl, ?_, hv, ?_⟩
    · exact ownsRow_putObj (owns_mono HF.out.1 HB.out.size) _ hK2 rfl
    · exact (HB.out.trans (HF.out.2.2.mono HB.out.size)).trans (belowK_b (w := w) (Nat.le_refl _) w' D _ _ (by rw [hR.size] at hD; omega) hK2 rfl rfl)
  case stop =>
    rintro D c pre W _ h _ _
    exact h.elim
set_option maxRecDepth 100000 in
set_option maxHeartbeats 1000000 in
theorem txnReads_some (s : StepM) (b off c : Nat) (w : World) (hbl : b < w.heap.size) (hr : w.rangeAt b off s.cells) (hx : 0 ≤ s.x ∧ s.x < 64) :
    Calls Tryz.prog 101 #[.slice (some ⟨b, off, none⟩) 1 c] w fun e w' => ∃ v', e = .returned v' ∧ w'.ownsRow w.heap.size 155 4 v' (optN (readsM (some s))) (optC (readsM (some s))) ∧ (v' = .slice none 0 0 ↔ readsM (some s) = none) ∧ Below w.heap.size w w' := by
  refine (callsIn_wide (n := 9)).1 ?_
  have hmk := makeMap240
  have CB := Lib.hid (fun W => (callsIn_wide (n := 8)).2 (backward_any (some ⟨b, off, none⟩) 1 c W))
  have hR := readsW_is w (.slice (some ⟨b, off, none⟩) 1 c)
  have hrow : w.rangeAt b off (stepsC [s]) := by simpa [stepsC] using hr
  clear hr
  have HX := Lib.hid hx
  clear hx
  refine callsIn_of_wp_marks Tryz.func101 rfl trivial ?_ rfl
  simp only [Tryz.ntmps101, List.size_toArray, List.length_cons, List.length_nil, Nat.reduceAdd, Nat.reduceSub, Array.replicate_succ, Array.replicate_zero, List.push_toArray, List.append_toArray, List.nil_append, List.cons_append]
  have F147 : Fence.wide.fn 147 := trivial
  have F135 : Fence.wide.fn 135 := trivial
  gi_wp2_with (gi_at_call 147; refine (CB.out _).mono ?_; rintro e w' ⟨rfl, rfl⟩)
  change Code.wpIn _ _ _ _ _ _ (readsW w (.slice (some ⟨b, off, none⟩) 1 c))
  generalize readsW w (.slice (some ⟨b, off, none⟩) 1 c) = W0 at *
  have hrow0 := range_keep hrow (hR.below.block b hbl)
  have HRW0 := Lib.hid hrow0
  clear hrow hrow0
  refine wpIn_rangeFunc_ownH rfl (by omega) (gf := 187) (lb := #[.pointer (some ⟨w.heap.size + 1 + 1, 0, none⟩)]) rfl trivial (enters_of Tryz.func187 (by kernel_rfl) rfl)
    (back187_stops Fence.wide 8 trivial rfl (by omega) (w.heap.size + 1 + 1) b off c [s] (by simp) W0 hR.slice (by rw [hR.size]; omega) (by rw [hR.size]; omega) HRW0.out)
    (fun h k => h.trans k) (fun W l o o' hl _ _ _ => ⟨World.putObj_heap_other (by rw [hR.size] at hl; omega), World.putObj_heap_other (by rw [hR.size] at hl; omega)⟩) (Below.refl _ _) (fun _ => rfl)
    (fun pre W => ((Boxed W (w.heap.size + 1) 240 (.map (some w.heap.size)) ∧ w.heap.size + 1 + 1 < W.heap.size) ∧ W.heap[w.heap.size]? = some (.map (optE (if pre.length = 0 then none else readsM (some s))) (optN (if pre.length = 0 then none else readsM (some s))))) ∧ Below w.heap.size w W)
    (fun _ _ _ => False)
    (OwnFrom.and (OwnFrom.and (OwnFrom.and (Own.from (boxed_own _ _ _) _) (fun s A B row hs hg hr => Nat.lt_of_lt_of_le hs hg.size)) (fun s A B row hs hg hr => (hg.block _ (block_lt hs) (fun e => by have := (hr _ e.symm).1; rw [hR.size] at this; omega)).trans hs)) (ownFrom_below (Nat.le_refl _) (by rw [hR.size]; omega)))
    (fun _ _ _ _ _ hs _ _ => hs)
    ⟨⟨⟨hR.box, by rw [hR.size]; omega⟩, hR.map⟩, hR.below⟩
    (fun x a' W => ∃ (Bx : Nat), w.heap.size + 1 + 1 < Bx ∧ W.heap[Bx]? = some (.cells s.cells.toArray 155 (0, 0)) ∧ a' = { tmps := #[.slice (some ⟨b, off, none⟩) 1 c, undef, .slice none 0 0, .pointer (some ⟨w.heap.size + 1, 0, none⟩), undef, .pointer (some ⟨Bx, 0, none⟩), .map (some w.heap.size), .slice (some ⟨b, off, none⟩) 1 c, .func (.func 187) #[] #[.pointer (some ⟨w.heap.size + 1 + 1, 0, none⟩)], .int .i64 0, .agg s.cells.toArray, undef, undef, undef, undef, undef, undef, undef, undef, undef, undef, undef, undef, undef, undef, undef, undef, undef, undef, undef], defers := [] })
    (fun x a' _ X Y row hs hg hr => by obtain ⟨Bx, h1, h2, h3⟩ := hs; exact ⟨Bx, h1, (grownBy_keeps_cells hg (fun r e => (hr r e).2) h2 rfl).trans h2, h3⟩)
    ?assign ?body ?done ?stop
  case assign =>
    rintro l pre ⟨x, hx⟩ W K ⟨⟨⟨hbx, hsz⟩, hmp⟩, hB⟩ hK
    have hx0 : x = 0 := by simpa using hx
    subst hx0
    have hk := hK { tmps := #[.slice (some ⟨b, off, none⟩) 1 c, undef, .slice none 0 0, .pointer (some ⟨w.heap.size + 1, 0, none⟩), undef, .pointer (some ⟨W.heap.size, 0, none⟩), .map (some w.heap.size), .slice (some ⟨b, off, none⟩) 1 c, .func (.func 187) #[] #[.pointer (some ⟨w.heap.size + 1 + 1, 0, none⟩)], .int .i64 0, .agg s.cells.toArray, undef, undef, undef, undef, undef, undef, undef, undef, undef, undef, undef, undef, undef, undef, undef, undef, undef, undef, undef], defers := [] } (W.alloc (.cells s.cells.toArray 155)) ((KeepsOthers.alloc _ _).from _)
      ⟨heap_alloc_old _ _ hsz, heap_alloc_old _ _ (Nat.lt_of_lt_of_le hbl hB.size)⟩ ⟨⟨⟨hbx.alloc _, by simp; omega⟩, (heap_alloc_old _ _ (block_lt hmp)).trans hmp⟩, hB.alloc hB.size _⟩ ⟨W.heap.size, hsz, Go.heap_alloc_new _ _, rfl⟩
    have HK := Lib.hid hk
    clear hk hK hbx hmp hB
    obtain ⟨sx, sk, sn, sw⟩ := s
    simp only [StepM.cells, backEnc, List.getD_cons_zero] at HK ⊢
    gi_wp2
    exact HK.out
  case body =>
    rintro l pre ⟨x, hx⟩ a' W hl ⟨r, hr⟩ ⟨⟨⟨hbx, hsz⟩, hmp⟩, hB⟩ ⟨Bx, hBx, hX, rfl⟩ hlt
    have hpre : pre = [] := by simpa using hlt
    subst hpre
    have hx0 : x = 0 := by simpa using hx
    subst hx0
    have hcb := hbx.cell
    have x0 := cell_of_row _ _ 0 _ _ _ hX
    have x1 := cell_of_row _ _ 1 _ _ _ hX
    have x2 := cell_of_row _ _ 2 _ _ _ hX
    have x3 := cell_of_row _ _ 3 _ _ _ hX
    have hlX := block_lt hX
    simp only [List.length_nil, if_true, optE, optN] at hmp
    have hput := run_put_first 240 3 155 w.heap.size 0 (.agg s.cells.toArray) s.x W Tryz.underlying240 Tryz.underlying3 hmp
    have HB := Lib.hid (And.intro hbx (And.intro hsz (And.intro hmp hB)))
    have hlw : w.heap.size < W.heap.size := block_lt hmp
    have hneb : b ≠ w.heap.size := by omega
    clear hX hr hbx hmp hB
    obtain ⟨sx, sk, sn, sw⟩ := s
    have hx0 := HX.out.1
    have hx1 := HX.out.2
    simp only at hx0 hx1
    simp only [StepM.cells, List.getElem?_toArray, List.getElem?_cons_zero, List.getElem?_cons_succ] at x0 x1 x2 x3 hput ⊢
    cases sw
    · have hP : W.grownBy (W.putObj w.heap.size (.map #[{ key := .int .i64 sx, val := .agg #[.int .i64 sx, .int .i64 sk, .int .i64 sn, .bool false], born := 0 }] 1)) (some w.heap.size) := grownBy_putObj' _ _ _
      have hm2 := World.putObj_heap_same (w := W) (r := w.heap.size) (o := .map #[{ key := .int .i64 sx, val := .agg #[.int .i64 sx, .int .i64 sk, .int .i64 sn, .bool false], born := 0 }] 1) hlw
      have HP := Lib.hid (And.intro hP hm2)
      clear hP hm2
      gi_wp2
      refine ⟨KeepsFrom.of_grownBy HP.out.1 (fun j e => by cases e; rw [hR.size]; omega), ⟨World.putObj_heap_other (by omega), World.putObj_heap_other hneb⟩, ⟨⟨HB.out.1.kept HP.out.1 (by simp), by simp; omega⟩, ?_⟩, HB.out.2.2.2.grown HP.out.1 HB.out.2.2.2.size (fun k e => by cases e; exact Nat.le_refl _)⟩
      exact HP.out.2
    · gi_wp2
      exact ⟨KeepsFrom.refl _ _, ⟨rfl, rfl⟩, ⟨⟨HB.out.1, HB.out.2.1⟩, HB.out.2.2.1⟩, HB.out.2.2.2⟩
  case done =>
    rintro D ys W hD hys ⟨⟨⟨hbx, hsz⟩, hmp⟩, hB⟩ hK
    have hyl : ¬ ys.length = 0 := by rw [hys, downFrom_length]; simp
    rw [if_neg hyl] at hmp
    have hcb := hbx.cell
    have CL := Lib.hid ((callsIn_wide (n := 8)).2 (listed135 (readsM (some s)) w.heap.size W hmp))
    have HK := Lib.hid hK
    have HB := Lib.hid hB
    clear hK hB hbx hmp hys
    gi_wp2_with (gi_at_call 135; refine (CL.out).mono ?_; rintro e w' ⟨v, rfl, hown, hnil, hb2⟩; have HF := Lib.hid (And.intro hown (And.intro hnil hb2)); clear hown hnil hb2)
    have hK2 : w'.heap[D]? = some (.deferred (some [])) := (HF.out.2.2.block _ (block_lt HK.out)).trans HK.out
    refine ⟨by simp, .inl ⟨_, _, rfl, run_takeDeferred hK2, ?_⟩⟩
    refine ⟨_, results_tmp rfl _ _ _, v, rfl, ?_, HF.out.2.1, ?_⟩
    · exact ownsRow_putObj (owns_mono HF.out.1 HB.out.size) _ hK2 rfl
    · exact (HB.out.trans (HF.out.2.2.mono HB.out.size)).trans (belowK_b (w := w) (Nat.le_refl _) w' D _ _ (by rw [hR.size] at hD; omega) hK2 rfl rfl)
  case stop =>
    rintro D c pre W _ _ h _
    exact h.elim
theorem txnReads (t : Option StepM) (v : Value) (w : World) (hv : RowAt w v (optN t) 4 (optC t)) (hx : ∀ s, t = some s → 0 ≤ s.x ∧ s.x < 64) :
    Calls Tryz.prog 101 #[v] w fun e w' => ∃ v', e = .returned v' ∧ w'.ownsRow w.heap.size 155 4 v' (optN (readsM t)) (optC (readsM t)) ∧ (v' = .slice none 0 0 ↔ readsM t = none) ∧ Below w.heap.size w w' := by
  obtain ⟨_, a, c, rfl, hr⟩ := hv
  cases t with
  | none => exact (txnReads_none a c w).mono fun e w' ⟨v', he, h1, h2, h3⟩ => ⟨v', he, h1, by simp [h2, readsM], h3⟩
  | some s =>
    obtain ⟨b, off, rfl, hbl, hr⟩ := hr (by simp [optN])
    exact txnReads_some s b off c w hbl hr (hx s rfl)
end Go.Proofs.YteflpdhgojcmcaaGreatDoor
namespace Go.Proofs.YteflpdhgojcmcaaGreatDoor
open Go.RowKit
theorem clGood (g : Nat) (z : Int) (w : World) (h0 : w.cell? ⟨g, 0, none⟩ = some (.int .i64 z)) (hz : 0 < z) :
    Calls Tryz.prog 53 #[.pointer (some ⟨g, 0, none⟩)] w fun e w' => e = .returned (.bool true) ∧ w = w' := by
  go_enter Tryz.func53, Tryz.ntmps53
  go_wp2_with fail
  go_ret
  exact ⟨by simp, rfl⟩
theorem clWho (g b off n c k : Nat) (i : Nat) (z : Int) (w : World) (h0 : w.cell? ⟨g, 0, none⟩ = some (.int .i64 z)) (hz : 0 < z) (h3 : w.cell? ⟨g, 3, none⟩ = some (.slice (some ⟨b, off, none⟩) n c)) (hi : i < n) (hn : n ≤ 100000)
    (hs : w.cell? ⟨b, off + i, none⟩ = some (.pointer (some ⟨k, 0, none⟩))) (hk : w.cell? ⟨k, 2, none⟩ = some (.bool false)) :
    Calls Tryz.prog 317 #[.pointer (some ⟨g, 0, none⟩), .int .i64 (i + 1 : Nat)] w fun e w' => e = .returned (.tuple #[.pointer (some ⟨k, 0, none⟩), .int .i64 0]) ∧ w = w' := by
  have C := Lib.hid (clGood g z w h0 hz)
  have g1 : (1 : Int) ≤ ((i + 1 : Nat) : Int) := by omega
  have g2 : ((i + 1 : Nat) : Int) ≤ (n : Int) := by omega
  have hs1 : w.cell? ⟨b, off + (((i + 1 : Nat) : Int).toNat - 1), none⟩ = some (.pointer (some ⟨k, 0, none⟩)) := by rw [show ((i + 1 : Nat) : Int).toNat - 1 = i from by omega]; exact hs
  generalize ((i + 1 : Nat) : Int) = x at *
  clear h0 hs hz
  go_enter Tryz.func317, Tryz.ntmps317
  go_wp2_with fail
  refine (C.out).mono ?_
  rintro e y ⟨rfl, rfl⟩
  go_wp2_with fail
  go_ret2
  exact ⟨rfl, rfl⟩
theorem clNew (z n : Nat) (w : World) (hz : 1 ≤ z ∧ z ≤ 32) (hn : 1 ≤ n ∧ n ≤ 64) :
    Calls Tryz.prog 28 #[.int .i64 z, .int .i64 n] w fun e w' => ∃ g v, e = .returned (.pointer (some ⟨g, 0, none⟩)) ∧ w.heap.size ≤ g ∧ w'.heap[g]? = some (.cells #[.int .i64 z, v, .int .i64 0, .slice none 0 0] 126) ∧ w'.ownsRow w.heap.size 197 5 v n (storeC (List.replicate n newVar)) ∧ v.ownBlock ≠ some g ∧ Below w.heap.size w w' := by
  have C2 := Lib.hid (storeNew_any n w hn.1 hn.2)
  have g1 : (1 : Int) ≤ (z : Int) := by omega
  have g2 : (z : Int) ≤ 32 := by omega
  clear hz hn
  go_enter Tryz.func28, Tryz.ntmps28
  go_wp2_with fail
  refine (C2.out).mono ?_
  rintro e y3 ⟨v, rfl, hown, hb⟩
  obtain ⟨_, va, vc, rfl, _⟩ := RowAt.of_owns hown
  have HB3 := Lib.hid hb
  have HO3 := Lib.hid hown
  clear hown hb C2
  go_wp2_with fail
  go_ret
  refine ⟨y3.heap.size, _, rfl, HB3.out.size, Go.heap_alloc_new _ _, ?_, ?_, HB3.out.alloc HB3.out.size _⟩
  · exact owns_keep HO3.out fun k _ hk => heap_alloc_old _ _ hk
  · intro e
    have := (HO3.out.lt _ e).2
    omega
end Go.Proofs.YteflpdhgojcmcaaGreatDoor
namespace Go.Proofs.YteflpdhgojcmcaaGreatDoor
open Go.RowKit
set_option maxRecDepth 100000 in
set_option maxHeartbeats 1000000 in
theorem clWrite (g b off nw cw k i : Nat) (a : Option Addr) (n cp : Nat) (Wk : List Value) (z x vk vn : Int) (w : World) (h0 : w.cell? ⟨g, 0, none⟩ = some (.int .i64 z)) (hz : 0 < z) (h1 : w.cell? ⟨g, 1, none⟩ = some (.slice a n cp))
    (h3 : w.cell? ⟨g, 3, none⟩ = some (.slice (some ⟨b, off, none⟩) nw cw)) (hi : i < nw) (hnw : nw ≤ 100000) (hs : w.cell? ⟨b, off + i, none⟩ = some (.pointer (some ⟨k, 0, none⟩)))
    (hk : w.heap[k]? = some (.cells Wk.toArray 136)) (hk0 : Wk[0]? = some (.slice none 0 0)) (hk2 : Wk[2]? = some (.bool false)) (hx0 : 0 ≤ x) (hxn : x < n) (hx64 : x < 64) (hv : rightV vk vn = true) :
    Calls Tryz.prog 316 #[.pointer (some ⟨g, 0, none⟩), .int .i64 (i + 1 : Nat), .int .i64 x, .agg #[.int .i64 vk, .int .i64 vn]] w fun e w' => e = .returned (.int .i64 0) ∧
      ∃ v', w'.heap[k]? = some (.cells (Wk.set 0 v').toArray 136) ∧ w'.ownsRow w.heap.size 155 4 v' 1 (StepM.cells ⟨x, vk, vn, true⟩) ∧ Chg (fun b => b = k) w w' := by
  have lk : k < w.heap.size := block_lt hk
  have lb : b < w.heap.size := block_lt_of_cell hs
  have lgg : g < w.heap.size := block_lt_of_cell h0
  obtain ⟨W, hW⟩ : ∃ W, W = w.alloc (.cells #[.int .i64 vk, .int .i64 vn] 53) := ⟨_, rfl⟩
  have hbW : Below w.heap.size w W := by rw [hW]; exact (Below.refl _ _).alloc (Nat.le_refl _) _
  have hrW : W.heap[w.heap.size]? = some (.cells #[.int .i64 vk, .int .i64 vn] 53) := by rw [hW]; exact Go.heap_alloc_new _ _
  have hkW := (hbW.block _ lk).trans hk
  have C1 := Lib.hid (clWho g b off nw cw k i z W ((hbW.cell (p := ⟨g, 0, none⟩) lgg).trans h0) hz ((hbW.cell (p := ⟨g, 3, none⟩) lgg).trans h3) hi hnw ((hbW.cell (p := ⟨b, off + i, none⟩) lb).trans hs) ((cell_of_row _ _ _ _ _ _ hkW).trans (by simpa using hk2)))
  have C2 := Lib.hid (fun W => txnWrite_nil x vk vn W hx0 hx64 hv)
  have k1 := (hbW.cell (p := ⟨g, 1, none⟩) lgg).trans h1
  have q0 := cell_of_row _ _ 0 _ _ _ hrW
  have q1 := cell_of_row _ _ 1 _ _ _ hrW
  have t0 : W.cell? ⟨k, 0, none⟩ = some (.slice none 0 0) := (cell_of_row _ _ _ _ _ _ hkW).trans (by simpa using hk0)
  have HBW := Lib.hid hbW
  have HRW := Lib.hid hrW
  have HKW := Lib.hid hkW
  clear h0 hz h1 h3 hi hnw hs hk hk0 hk2 hv hbW hrW hkW lb lgg
  generalize ((i + 1 : Nat) : Int) = id at *
  go_enter Tryz.func316, Tryz.ntmps316
  go_wp2_with fail
  rw [← hW]
  refine (C1.out).mono ?_
  rintro e y ⟨rfl, rfl⟩
  clear hW
  go_wp2_with fail
  have hS0 : (fun w' : World => w'.cell? ⟨w.heap.size, 0, none⟩ = some (.int .i64 vk) ∧ w'.cell? ⟨w.heap.size, 1, none⟩ = some (.int .i64 vn)) W.drew := ⟨q0, q1⟩
  refine wp_region_held_drew (S := fun w' => w'.cell? ⟨w.heap.size, 0, none⟩ = some (.int .i64 vk) ∧ w'.cell? ⟨w.heap.size, 1, none⟩ = some (.int .i64 vn)) (by kernel_rfl) hS0 (fun hHeld => ?_)
  clear hS0
  refine hd 0 (v := ?_) ?_ ?_
  rotate_left
  · rintro w ⟨hS1, hS2⟩; go_simp; try with_reducible rfl
  simp only [Act.put, pt1, pt2, pt3]
  refine hd 1 (v := ?_) ?_ ?_
  rotate_left
  · rintro w ⟨hS1, hS2⟩; go_simp; try with_reducible rfl
  simp only [Act.put, pt1, pt2, pt3]
  refine hd 2 (v := ?_) ?_ ?_
  rotate_left
  · rintro w ⟨hS1, hS2⟩; go_simp; try with_reducible rfl
  simp only [Act.put, pt1, pt2, pt3]
  refine hd 3 (v := ?_) ?_ ?_
  rotate_left
  · rintro w ⟨hS1, hS2⟩; go_simp; try with_reducible rfl
  simp only [Act.put, pt1, pt2, pt3]
  refine hd 5 (v := ?_) ?_ ?_
  rotate_left
  · rintro w ⟨hS1, hS2⟩; go_simp; try with_reducible rfl
  simp only [Act.put, pt1, pt2, pt3]
  refine hd 6 (v := .agg #[.int .i64 vk, .int .i64 vn]) ?_ ?_
  · rintro w ⟨hS1, hS2⟩; go_simp
  simp only [Act.put, pt1, pt2, pt3]
  have t0' : W.drew.cell? ⟨k, 0, none⟩ = some (.slice none 0 0) := t0
  refine hcl 4 (fun K' hK => ?_)
  go_simp
  refine hK.out _ _ ?_ (fun hHeld => ?_)
  · assumption
  clear hK K'
  try simp only [Act.put, pt1, pt2, pt3]
  refine hcl 7 (fun K' hK => ?_)
  go_simp
  go_at_call 163
  refine (C2.out _).mono ?_
  rintro e y2 ⟨v', rfl, hown, hb2⟩
  have r2 := (hb2.block _ (block_lt HRW.out)).trans HRW.out
  have rk2 := (hb2.block _ (block_lt HKW.out)).trans HKW.out
  have HB2 := Lib.hid (HBW.out.drew.trans (hb2.mono HBW.out.drew.size))
  have HO2 := Lib.hid hown
  have hsW : w.heap.size < W.heap.size := block_lt HRW.out
  obtain ⟨_, av, cv, rfl, _⟩ := RowAt.of_owns hown
  have u0 : ∃ u, y2.cell? ⟨k, 0, none⟩ = some u := ⟨_, (hb2.cell (p := ⟨k, 0, none⟩) (block_lt HKW.out)).trans t0'⟩
  obtain ⟨u, u0⟩ := u0
  have fk := frozen_of_row _ _ 0 _ _ rk2
  have R2 := Lib.hid r2
  have RK2 := Lib.hid rk2
  clear r2 rk2 hb2 hown
  go_wp2_with fail
  refine hK.out _ _ ?_ (fun hHeld => ?_)
  · exact ⟨cell_of_row _ _ 0 _ _ _ R2.out, cell_of_row _ _ 1 _ _ _ R2.out⟩
  clear hK K'
  try simp only [Act.put, pt1, pt2, pt3]
  refine hd 8 (v := ?_) ?_ ?_
  rotate_left
  · rintro w ⟨hS1, hS2⟩; go_simp; try with_reducible rfl
  simp only [Act.put, pt1, pt2, pt3]
  refine hd 9 (v := ?_) ?_ ?_
  rotate_left
  · rintro w ⟨hS1, hS2⟩; go_simp; try with_reducible rfl
  simp only [Act.put, pt1, pt2, pt3]
  refine hd 10 (v := ?_) ?_ ?_
  rotate_left
  · rintro w ⟨hS1, hS2⟩; go_simp; try with_reducible rfl
  simp only [Act.put, pt1, pt2, pt3]
  refine hd 11 (v := ?_) ?_ ?_
  rotate_left
  · rintro w ⟨hS1, hS2⟩; go_simp; try with_reducible rfl
  simp only [Act.put, pt1, pt2, pt3]
  refine hd 12 (v := ?_) ?_ ?_
  rotate_left
  · rintro w ⟨hS1, hS2⟩; go_simp; try with_reducible rfl
  simp only [Act.put, pt1, pt2, pt3]
  refine hcl 13 (fun K' hK => ?_)
  go_simp
  have hE3 : (y2.setCell ⟨k, 0, none⟩ (.slice av 1 cv)).heap[k]? = some (.cells (Wk.set 0 (.slice av 1 cv)).toArray 136) := by
    have := heap_setCell_same y2 k 0 _ _ (.slice av 1 cv) RK2.out
    rw [List.setIfInBounds_toArray] at this
    exact this
  have hc3 : Chg (fun b => b = k) w (y2.setCell ⟨k, 0, none⟩ (.slice av 1 cv)) := Chg.setCell (F := fun b => b = k) (Chg.of_below HB2.out) (p := ⟨k, 0, none⟩) (.inl rfl) _
  have ho3 : (y2.setCell ⟨k, 0, none⟩ (.slice av 1 cv)).ownsRow w.heap.size 155 4 (.slice av 1 cv) 1 (StepM.cells ⟨x, vk, vn, true⟩) := owns_mono (owns_keep HO2.out fun j hj _ => heap_setCell_other _ _ _ _ (by simp at hj ⊢; omega)) (by simp; omega)
  have HF := Lib.hid (And.intro hE3 (And.intro ho3 hc3))
  clear hE3 hc3 ho3
  refine hK.out _ _ ?_ (fun hHeld => ?_)
  · exact ⟨(World.cell?_setCell_far _ _ _ _ (by simp; omega)).trans hHeld.1, (World.cell?_setCell_far _ _ _ _ (by simp; omega)).trans hHeld.2⟩
  clear hK K'
  try simp only [Act.put]
  refine hd 14 (v := ?_) ?_ ?_
  rotate_left
  · rintro w ⟨hS1, hS2⟩; go_simp; try with_reducible rfl
  simp only [Act.put, pt1, pt2, pt3]
  refine held_done (by kernel_rfl) ?_
  clear hHeld
  go_wp2_with fail
  go_ret
  exact ⟨rfl, _, HF.out.1, HF.out.2.1, HF.out.2.2⟩
end Go.Proofs.YteflpdhgojcmcaaGreatDoor
