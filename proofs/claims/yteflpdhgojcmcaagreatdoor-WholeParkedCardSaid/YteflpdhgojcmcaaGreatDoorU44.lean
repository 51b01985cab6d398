/- The walk of history's take, of a first Begin. The walks of history's step and take, of a Write and a Commit. No conditions but those that each theorem names. -/
import Derived.Test.YteflpdhgojcmcaaGreatDoorU01
import Derived.Test.YteflpdhgojcmcaaGreatDoorU42
namespace Go.Proofs.YteflpdhgojcmcaaGreatDoor
open Go.RowKit PSet PMat
/-- One transaction's life in memory. -/
structure Life (B : Nat) (w : World) (A lb c L m1 m2 : Nat) (en : Int) (com : Bool) (e2 : Array MapEntry) (c2 : Nat) : Prop where
  all : w.heap[A]? = some (.cells #[.slice (some ⟨lb, 0, none⟩) 1 c] 243 (0, 0))
  row : w.ownsRow B 251 1 (.slice (some ⟨lb, 0, none⟩) 1 c) 1 [.pointer (some ⟨L, 0, none⟩)]
  life : w.heap[L]? = some (.cells #[.int .i64 0, .int .i64 en, .bool com, .map (some m1), .map (some m2)] 255 (0, 0))
  base : B ≤ L ∧ B ≤ m2
  ne : m1 ≠ m2
  reads : w.heap[m1]? = some (.map #[] 0)
  writes : w.heap[m2]? = some (.map e2 c2)
theorem Life.below {B : Nat} {w w' : World} {A lb c L m1 m2 : Nat} {en : Int} {com : Bool} {e2 : Array MapEntry} {c2 : Nat} (h : Life B w A lb c L m1 m2 en com e2 c2) (hb : Below w.heap.size w w') : Life B w' A lb c L m1 m2 en com e2 c2 where
  all := (hb.block _ (block_lt h.all)).trans h.all
  row := owns_below h.row hb
  life := (hb.block _ (block_lt h.life)).trans h.life
  base := h.base
  ne := h.ne
  reads := (hb.block _ (block_lt h.reads)).trans h.reads
  writes := (hb.block _ (block_lt h.writes)).trans h.writes
theorem info_251 : ∃ i z, Tryz.prog.info? 251 = some i ∧ i.zero = some z ∧ i.size = 1 ∧ i.bytes = 8 ∧ z.cells.size = 1 := by
  have h : (Tryz.prog.info? 251).map (fun i => (i.size, i.bytes, i.zero.map fun z => z.cells.size)) = some (1, 8, some 1) := by kernel_rfl
  cases hi : Tryz.prog.info? 251 with
  | none => rw [hi] at h; cases h
  | some i =>
    rw [hi] at h
    simp only [Option.map_some, Option.some.injEq, Prod.mk.injEq] at h
    obtain ⟨h1, h2, h3⟩ := h
    cases hz : i.zero with
    | none => rw [hz] at h3; cases h3
    | some z =>
      rw [hz] at h3
      exact ⟨i, z, rfl, hz, h1, h2, by simpa using h3⟩
theorem makeMap253 (w : World) : (Instr.makeMap 253 none).run Tryz.prog w = .ok (.map (some w.heap.size)) (w.alloc (.map #[] 0)) := by kernel_rfl
set_option maxRecDepth 100000 in
theorem take0 (B A : Nat) (w : World) (hA : w.heap[A]? = some (.cells #[.slice none 0 0] 243 (0, 0))) (hB : B ≤ A) (hBw : B ≤ w.heap.size) :
    Calls Tryz.prog 170 #[.pointer (some ⟨A, 0, none⟩), .int .i64 0, .agg #[.int .i64 0, .int .i64 1, .int .i64 0, .int .i64 0, .int .i64 0]] w fun en w' => ∃ lb c L m1 m2, en = .returned (.bool true) ∧ Life B w' A lb c L m1 m2 (-1) false #[] 0 ∧ Below B w w' := by
  obtain ⟨i0, z0, hi, hz0, hz1, hz2, hz3⟩ := info_251
  have a0 := cell_of_row _ _ 0 _ _ _ hA
  have fA := frozen_of_row _ _ 0 _ _ hA
  have hAl := block_lt hA
  have HA := Lib.hid hA
  clear hA
  go_enter Tryz.func170, Tryz.ntmps170
  go_upto_region 3 with fail
  have hW : ∃ W, W = w.alloc (.cells #[.int .i64 0, .int .i64 1, .int .i64 0, .int .i64 0, .int .i64 0] 193) := ⟨_, rfl⟩
  obtain ⟨W, hW⟩ := hW
  have hbW : Below w.heap.size w W := by rw [hW]; exact (Below.refl _ _).alloc (Nat.le_refl _) _
  have hev : W.heap[w.heap.size]? = some (.cells #[.int .i64 0, .int .i64 1, .int .i64 0, .int .i64 0, .int .i64 0] 193 (0, 0)) := by rw [hW]; exact Go.heap_alloc_new _ _
  rw [← hW]
  clear hW
  have a0 := (hbW.cell (p := ⟨A, 0, none⟩) hAl).trans a0
  have hwW := block_lt hev
  have HEV := Lib.hid hev
  have HBW := Lib.hid hbW
  have hBW : B ≤ W.heap.size := by omega
  clear hev hbW
  have e4 : ((((W.alloc (.map #[] 0)).alloc (.map #[] 0)).alloc (.cells #[.int .i64 0, .int .i64 (-1), .bool false, .map (some W.heap.size), .map (some (W.heap.size + 1))] 255)).alloc (.cells #[.pointer (some ⟨W.heap.size + 1 + 1, 0, none⟩)] 251)).heap[W.heap.size + 1 + 1 + 1]? = some (.cells #[.pointer (some ⟨W.heap.size + 1 + 1, 0, none⟩)] 251 (0, 0)) := by
    have := Go.heap_alloc_new (((W.alloc (.map #[] 0)).alloc (.map #[] 0)).alloc (.cells #[.int .i64 0, .int .i64 (-1), .bool false, .map (some W.heap.size), .map (some (W.heap.size + 1))] 255)) (.cells #[.pointer (some ⟨W.heap.size + 1 + 1, 0, none⟩)] 251)
    simpa using this
  have E4 := Lib.hid (cell_of_row _ _ 0 _ _ _ e4)
  clear e4
  have hmk := makeMap253
  go_wp2_with (at_builtin; (refine wpList_append_own _ rfl _ _ 243 rfl B 251 i0 z0 1 8 Tryz.underlying243 hi hz0 hz1 hz2 hz3 (by decide) _ 0 [] rfl (World.ownsRow_nil _ _ _ _) ⟨W.heap.size + 1 + 1 + 1, 0, none⟩ 1 1 [.pointer (some ⟨W.heap.size + 1 + 1, 0, none⟩)] rfl rfl (fun j u hj => by rcases j with _ | j; (cases hj; exact E4.out); (simp at hj)) (by intro u hu; simp at hu; subst hu; rfl) (by unfold maxLen; omega) (by omega) (by simp; omega) ?_))
  clear hmk
  intro v' W5 hown hgrow _
  obtain ⟨lb, c, rfl, -, -, -, -⟩ := owns_block hown (by decide)
  have e1 : ((((W.alloc (.map #[] 0)).alloc (.map #[] 0)).alloc (.cells #[.int .i64 0, .int .i64 (-1), .bool false, .map (some W.heap.size), .map (some (W.heap.size + 1))] 255)).alloc (.cells #[.pointer (some ⟨W.heap.size + 1 + 1, 0, none⟩)] 251)).heap[W.heap.size]? = some (.map #[] 0) := (heap_alloc_old _ _ (by simp; omega)).trans ((heap_alloc_old _ _ (by simp; omega)).trans ((heap_alloc_old _ _ (by simp)).trans (Go.heap_alloc_new _ _)))
  have e2 : ((((W.alloc (.map #[] 0)).alloc (.map #[] 0)).alloc (.cells #[.int .i64 0, .int .i64 (-1), .bool false, .map (some W.heap.size), .map (some (W.heap.size + 1))] 255)).alloc (.cells #[.pointer (some ⟨W.heap.size + 1 + 1, 0, none⟩)] 251)).heap[W.heap.size + 1]? = some (.map #[] 0) := (heap_alloc_old _ _ (by simp)).trans ((heap_alloc_old _ _ (by simp)).trans (by have := Go.heap_alloc_new (W.alloc (.map #[] 0)) (.map #[] 0); simpa using this))
  have e3 : ((((W.alloc (.map #[] 0)).alloc (.map #[] 0)).alloc (.cells #[.int .i64 0, .int .i64 (-1), .bool false, .map (some W.heap.size), .map (some (W.heap.size + 1))] 255)).alloc (.cells #[.pointer (some ⟨W.heap.size + 1 + 1, 0, none⟩)] 251)).heap[W.heap.size + 1 + 1]? = some (.cells #[.int .i64 0, .int .i64 (-1), .bool false, .map (some W.heap.size), .map (some (W.heap.size + 1))] 255 (0, 0)) := (heap_alloc_old _ _ (by simp)).trans (by have := Go.heap_alloc_new ((W.alloc (.map #[] 0)).alloc (.map #[] 0)) (.cells #[.int .i64 0, .int .i64 (-1), .bool false, .map (some W.heap.size), .map (some (W.heap.size + 1))] 255); simpa using this)
  have hb4 : Below W.heap.size W ((((W.alloc (.map #[] 0)).alloc (.map #[] 0)).alloc (.cells #[.int .i64 0, .int .i64 (-1), .bool false, .map (some W.heap.size), .map (some (W.heap.size + 1))] 255)).alloc (.cells #[.pointer (some ⟨W.heap.size + 1 + 1, 0, none⟩)] 251)) := ((((Below.refl _ W).alloc (Nat.le_refl _) _).alloc (by simp) _).alloc (by simp; omega) _).alloc (by simp; omega) _
  generalize ((((W.alloc (.map #[] 0)).alloc (.map #[] 0)).alloc (.cells #[.int .i64 0, .int .i64 (-1), .bool false, .map (some W.heap.size), .map (some (W.heap.size + 1))] 255)).alloc (.cells #[.pointer (some ⟨W.heap.size + 1 + 1, 0, none⟩)] 251)) = W4 at *
  have hb5 : Below W4.heap.size W4 W5 := Chg.to_below (F := fun _ => False) ((Chg.refl _ _).grown hgrow (fun k e => by cases e)) (Nat.le_refl _) (fun _ hi => hi.elim)
  have e1 := (hb5.block _ (block_lt e1)).trans e1
  have e2 := (hb5.block _ (block_lt e2)).trans e2
  have e3 := (hb5.block _ (block_lt e3)).trans e3
  have hbW5 : Below W.heap.size W W5 := hb4.trans (hb5.mono hb4.size)
  have hA5 := (hbW5.block _ (by omega : A < W.heap.size)).trans ((HBW.out.block _ hAl).trans HA.out)
  have hev5 := (hbW5.block _ (block_lt HEV.out)).trans HEV.out
  have a0 := cell_of_row _ _ 0 _ _ _ hA5
  have fA := frozen_of_row _ _ 0 _ _ hA5
  have H5 := Lib.hid (And.intro hown (And.intro e1 (And.intro e2 (And.intro e3 (And.intro hA5 (And.intro hev5 (HBW.out.trans (hbW5.mono HBW.out.size))))))))
  clear hown hgrow e1 e2 e3 hb4 hb5 hbW5 hA5 hev5
  go_upto_region 4 with fail
  have g1 := heap_setCell_same W5 A 0 _ _ (.slice (some ⟨lb, 0, none⟩) 1 c) H5.out.2.2.2.2.1
  have g2 := owns_type H5.out.1 H5.out.2.2.2.2.1 (by decide)
  have g3 := ownsRow_setCell_other H5.out.1 (a := ⟨A, 0, none⟩) g2 (.slice (some ⟨lb, 0, none⟩) 1 c)
  have n1 : W.heap.size ≠ A := by omega
  have n2 : W.heap.size + 1 ≠ A := by omega
  have n3 : W.heap.size + 1 + 1 ≠ A := by omega
  have n4 : w.heap.size ≠ A := by omega
  have g4 := (heap_setCell_other W5 ⟨A, 0, none⟩ _ (.slice (some ⟨lb, 0, none⟩) 1 c) n1).trans H5.out.2.1
  have g5 := (heap_setCell_other W5 ⟨A, 0, none⟩ _ (.slice (some ⟨lb, 0, none⟩) 1 c) n2).trans H5.out.2.2.1
  have g6 := (heap_setCell_other W5 ⟨A, 0, none⟩ _ (.slice (some ⟨lb, 0, none⟩) 1 c) n3).trans H5.out.2.2.2.1
  have g7 := (heap_setCell_other W5 ⟨A, 0, none⟩ _ (.slice (some ⟨lb, 0, none⟩) 1 c) n4).trans H5.out.2.2.2.2.2.1
  have g8 : Below B w (W5.setCell ⟨A, 0, none⟩ (.slice (some ⟨lb, 0, none⟩) 1 c)) := (H5.out.2.2.2.2.2.2.mono hBw).setCell (p := ⟨A, 0, none⟩) hB _
  generalize W5.setCell ⟨A, 0, none⟩ (.slice (some ⟨lb, 0, none⟩) 1 c) = W6 at *
  have hlf : Life B W6 A lb c (W.heap.size + 1 + 1) W.heap.size (W.heap.size + 1) (-1) false #[] 0 := ⟨by simpa using g1, g3, g6, ⟨by omega, by omega⟩, by omega, g4, g5⟩
  have HL := Lib.hid (And.intro hlf g8)
  have hS0 : (fun w' : World => w'.cell? ⟨w.heap.size, 1, none⟩ = some (.int .i64 1) ∧ w'.cell? ⟨A, 0, none⟩ = some (.slice (some ⟨lb, 0, none⟩) 1 c)) W6.drew := ⟨cell_of_row _ _ 1 _ _ _ g7, cell_of_row _ _ 0 _ _ _ hlf.all⟩
  clear g1 g2 g3 g4 g5 g6 g7 g8 hlf a0 fA n1 n2 n3 n4
  refine hregion (fun w' : World => w'.cell? ⟨w.heap.size, 1, none⟩ = some (.int .i64 1) ∧ w'.cell? ⟨A, 0, none⟩ = some (.slice (some ⟨lb, 0, none⟩) 1 c)) hS0 (fun hHeld => ?_)
  clear hS0
  refine hd 0 (v := ?_) ?_ ?_; rotate_left; · rintro w ⟨hS1, hS2⟩; go_simp; try with_reducible rfl
  simp only [Act.put, pt1, pt2, pt3]
  refine hd 1 (v := ?_) ?_ ?_; rotate_left; · rintro w ⟨hS1, hS2⟩; go_simp; try with_reducible rfl
  simp only [Act.put, pt1, pt2, pt3]
  refine hd 2 (v := ?_) ?_ ?_; rotate_left; · rintro w ⟨hS1, hS2⟩; go_simp; try with_reducible rfl
  simp only [Act.put, pt1, pt2, pt3]
  refine hd 3 (v := ?_) ?_ ?_; rotate_left; · rintro w ⟨hS1, hS2⟩; go_simp; try with_reducible rfl
  simp only [Act.put, pt1, pt2, pt3]
  refine hd 4 (v := ?_) ?_ ?_; rotate_left; · rintro w ⟨hS1, hS2⟩; go_simp; try with_reducible rfl
  simp only [Act.put, pt1, pt2, pt3]
  refine hd 5 (v := ?_) ?_ ?_; rotate_left; · rintro w ⟨hS1, hS2⟩; go_simp; try with_reducible rfl
  simp only [Act.put, pt1, pt2, pt3]
  refine hd 6 (v := ?_) ?_ ?_; rotate_left; · rintro w ⟨hS1, hS2⟩; go_simp; try with_reducible rfl
  simp only [Act.put, pt1, pt2, pt3]
  refine hd 7 (v := ?_) ?_ ?_; rotate_left; · rintro w ⟨hS1, hS2⟩; go_simp; try with_reducible rfl
  simp only [Act.put, pt1, pt2, pt3]
  refine hd 8 (v := ?_) ?_ ?_; rotate_left; · rintro w ⟨hS1, hS2⟩; go_simp; try with_reducible rfl
  simp only [Act.put, pt1, pt2, pt3]
  refine hd 9 (v := ?_) ?_ ?_; rotate_left; · rintro w ⟨hS1, hS2⟩; go_simp; try with_reducible rfl
  simp only [Act.put, pt1, pt2, pt3]
  refine hd 10 (v := ?_) ?_ ?_; rotate_left; · rintro w ⟨hS1, hS2⟩; go_simp; try with_reducible rfl
  simp only [Act.put, pt1, pt2, pt3]
  refine hd 11 (v := ?_) ?_ ?_; rotate_left; · rintro w ⟨hS1, hS2⟩; go_simp; try with_reducible rfl
  simp only [Act.put, pt1, pt2, pt3]
  refine hd 12 (v := ?_) ?_ ?_; rotate_left; · rintro w ⟨hS1, hS2⟩; go_simp; try with_reducible rfl
  simp only [Act.put, pt1, pt2, pt3]
  refine hd 13 (v := ?_) ?_ ?_; rotate_left; · rintro w ⟨hS1, hS2⟩; go_simp; try with_reducible rfl
  simp only [Act.put, pt1, pt2, pt3]
  refine hd 14 (v := ?_) ?_ ?_; rotate_left; · rintro w ⟨hS1, hS2⟩; go_simp; try with_reducible rfl
  simp only [Act.put, pt1, pt2, pt3]
  refine hd 15 (v := ?_) ?_ ?_; rotate_left; · rintro w ⟨hS1, hS2⟩; go_simp; try with_reducible rfl
  simp only [Act.put, pt1, pt2, pt3]
  refine hend ?_
  clear hHeld
  go_wp2_with fail
  go_ret
  exact ⟨lb, c, _, _, _, rfl, HL.out.1.below ((Below.refl _ _).drew), HL.out.2.drew⟩
end Go.Proofs.YteflpdhgojcmcaaGreatDoor
namespace Go.Proofs.YteflpdhgojcmcaaGreatDoor
open Go.RowKit PSet PMat
def toldV : Value := .agg #[.int .i64 1, .int .i64 0, .int .i64 1, .int .i64 7, .bool true]
def ents1 : Array MapEntry := #[{ key := .int .i64 0, val := toldV, born := 0 }]
theorem Life.put {B : Nat} {w : World} {A lb c L m1 m2 : Nat} {en : Int} {com : Bool} {e2 : Array MapEntry} {c2 : Nat} (h : Life B w A lb c L m1 m2 en com e2 c2) (e3 : Array MapEntry) (c3 : Nat) :
    Life B (w.putObj m2 (.map e3 c3)) A lb c L m1 m2 en com e3 c3 ∧ Below B w (w.putObj m2 (.map e3 c3)) := by
  have hne : ∀ {k : Nat} {cs : Array Value} {t : Nat}, w.heap[k]? = some (.cells cs t (0, 0)) → k ≠ m2 := fun hk e => by
    subst e
    rw [h.writes] at hk
    cases hk
  refine ⟨⟨(World.putObj_heap_other (hne h.all)).trans h.all, ownsRow_putObj h.row _ h.writes rfl, (World.putObj_heap_other (hne h.life)).trans h.life, h.base, h.ne, (World.putObj_heap_other h.ne).trans h.reads, World.putObj_heap_same (block_lt h.writes)⟩, ?_⟩
  exact Chg.to_below (F := fun b => b = m2) ((Chg.refl _ _).grown (grownBy_putObj' w m2 _) (fun k e => by cases e; exact .inl rfl)) (Nat.le_trans h.base.2 (Nat.le_of_lt (block_lt h.writes))) (fun _ hi => hi ▸ h.base.2)
theorem Life.over {B : Nat} {w : World} {A lb c L m1 m2 : Nat} {en : Int} {com : Bool} {e2 : Array MapEntry} {c2 : Nat} (h : Life B w A lb c L m1 m2 en com e2 c2) (en' : Int) (com' : Bool) :
    Life B ((w.setCell ⟨L, 1, none⟩ (.int .i64 en')).setCell ⟨L, 2, none⟩ (.bool com')) A lb c L m1 m2 en' com' e2 c2 ∧ Below B w ((w.setCell ⟨L, 1, none⟩ (.int .i64 en')).setCell ⟨L, 2, none⟩ (.bool com')) := by
  have hne : ∀ {k t : Nat} {cs : Array Value}, w.heap[k]? = some (.cells cs t (0, 0)) → t ≠ 255 → k ≠ L := fun hk ht e => by
    subst e
    rw [h.life] at hk
    cases hk
    exact ht rfl
  have hnm : ∀ {k : Nat} {e : Array MapEntry} {n : Nat}, w.heap[k]? = some (.map e n) → k ≠ L := fun hk e => by
    subst e
    rw [h.life] at hk
    cases hk
  have hk : ∀ {k : Nat}, k ≠ L → ((w.setCell ⟨L, 1, none⟩ (.int .i64 en')).setCell ⟨L, 2, none⟩ (.bool com')).heap[k]? = w.heap[k]? := fun hk => (heap_setCell_other _ ⟨L, 2, none⟩ _ _ hk).trans (heap_setCell_other _ ⟨L, 1, none⟩ _ _ hk)
  have ho := owns_type h.row h.life (by decide)
  refine ⟨⟨(hk (hne h.all (by decide))).trans h.all, ownsRow_setCell_other (ownsRow_setCell_other h.row (a := ⟨L, 1, none⟩) ho _) (a := ⟨L, 2, none⟩) ho _, ?_, h.base, h.ne, (hk (hnm h.reads)).trans h.reads, (hk (hnm h.writes)).trans h.writes⟩, ?_⟩
  · exact heap_setCell_same _ L 2 _ _ _ (heap_setCell_same w L 1 _ _ _ h.life)
  · exact ((Below.refl _ _ : Below w.heap.size w w).mono (Nat.le_trans h.base.1 (Nat.le_of_lt (block_lt h.life)))).setCell (p := ⟨L, 1, none⟩) h.base.1 _ |>.setCell (p := ⟨L, 2, none⟩) h.base.1 _
set_option maxRecDepth 100000 in
theorem step1 (B A lb c L m1 m2 : Nat) (w : World) (h : Life B w A lb c L m1 m2 (-1) false #[] 0) :
    Calls Tryz.prog 206 #[.pointer (some ⟨L, 0, none⟩), .int .i64 1, .agg #[.int .i64 2, .int .i64 1, .int .i64 0, .int .i64 1, .int .i64 7]] w fun en w' => en = .returned (.bool true) ∧ Life B w' A lb c L m1 m2 (-1) false ents1 1 ∧ Below B w w' := by
  obtain ⟨W, hW⟩ : ∃ W, W = w.alloc (.cells #[.int .i64 2, .int .i64 1, .int .i64 0, .int .i64 1, .int .i64 7] 193) := ⟨_, rfl⟩
  have hbW : Below w.heap.size w W := by rw [hW]; exact (Below.refl _ _).alloc (Nat.le_refl _) _
  have hev : W.heap[w.heap.size]? = some (.cells #[.int .i64 2, .int .i64 1, .int .i64 0, .int .i64 1, .int .i64 7] 193 (0, 0)) := by rw [hW]; exact Go.heap_alloc_new _ _
  have hBw : B ≤ w.heap.size := Nat.le_trans h.base.1 (Nat.le_of_lt (block_lt h.life))
  have HL := Lib.hid (h.below hbW)
  have HEV := Lib.hid hev
  have HBW := Lib.hid hbW
  have C1 := Lib.hid (right_value 1 7 W)
  have b0 := cell_of_row _ _ 0 _ _ _ hev
  have b2 := cell_of_row _ _ 2 _ _ _ hev
  have b3 := cell_of_row _ _ 3 _ _ _ hev
  have b4 := cell_of_row _ _ 4 _ _ _ hev
  clear h hev hbW
  go_enter Tryz.func206, Tryz.ntmps206
  go_upto_region 1 with fail
  rw [← hW]
  clear hW
  go_wp2_with fail
  refine (C1.out).mono ?_
  rintro en y ⟨rfl, hby⟩
  have HLY := Lib.hid (HL.out.below hby)
  have hey := (hby.block _ (block_lt HEV.out)).trans HEV.out
  have HEY := Lib.hid hey
  have b0 := cell_of_row _ _ 0 _ _ _ hey
  have b2 := cell_of_row _ _ 2 _ _ _ hey
  have b3 := cell_of_row _ _ 3 _ _ _ hey
  have b4 := cell_of_row _ _ 4 _ _ _ hey
  have HBY := Lib.hid (HBW.out.trans (hby.mono HBW.out.size))
  clear hby hey C1 HL HEV HBW
  go_upto_region 4 with fail
  have hd := Go.heap_alloc_new y (.cells #[.int .i64 1, .int .i64 0, .int .i64 1, .int .i64 7, .bool true] 300)
  have hbZ : Below y.heap.size y (y.alloc (.cells #[.int .i64 1, .int .i64 0, .int .i64 1, .int .i64 7, .bool true] 300)) := (Below.refl _ _).alloc (Nat.le_refl _) _
  generalize y.alloc (.cells #[.int .i64 1, .int .i64 0, .int .i64 1, .int .i64 7, .bool true] 300) = Z at *
  have hez := (hbZ.block _ (block_lt HEY.out)).trans HEY.out
  have hLZ := HLY.out.below hbZ
  have hBZ := HBY.out.trans (hbZ.mono HBY.out.size)
  generalize y.heap.size = d at *
  have b0 := cell_of_row _ _ 0 _ _ _ hez
  have b2 := cell_of_row _ _ 2 _ _ _ hez
  have hmu := run_put_first 253 3 300 m2 0 (.agg #[.int .i64 1, .int .i64 0, .int .i64 1, .int .i64 7, .bool true]) 0 Z.drew Tryz.underlying253 Tryz.underlying3 hLZ.writes
  have hP := (hLZ.below ((Below.refl _ Z).drew)).put ents1 1
  have HP := Lib.hid (And.intro hP.1 ((hBZ.mono hBw).drew.trans hP.2))
  have HMU := Lib.hid hmu
  have hS0 : (fun w' : World => w'.cell? ⟨L, 4, none⟩ = some (.map (some m2)) ∧ w'.cell? ⟨w.heap.size, 2, none⟩ = some (.int .i64 0) ∧ w'.cell? ⟨d, 0, none⟩ = some (.int .i64 1) ∧ w'.cell? ⟨d, 1, none⟩ = some (.int .i64 0) ∧ w'.cell? ⟨d, 2, none⟩ = some (.int .i64 1) ∧ w'.cell? ⟨d, 3, none⟩ = some (.int .i64 7) ∧ w'.cell? ⟨d, 4, none⟩ = some (.bool true)) Z.drew := ⟨cell_of_row _ _ 4 _ _ _ hLZ.life, b2, cell_of_row _ _ 0 _ _ _ hd, cell_of_row _ _ 1 _ _ _ hd, cell_of_row _ _ 2 _ _ _ hd, cell_of_row _ _ 3 _ _ _ hd, cell_of_row _ _ 4 _ _ _ hd⟩
  clear hez hLZ hBZ hmu hP hd hbZ HLY HEY b3 b4
  go_upto_region 5 with fail
  clear b0 b2
  refine zRegion 7 (S := (fun w' : World => w'.cell? ⟨L, 4, none⟩ = some (.map (some m2)) ∧ w'.cell? ⟨w.heap.size, 2, none⟩ = some (.int .i64 0) ∧ w'.cell? ⟨d, 0, none⟩ = some (.int .i64 1) ∧ w'.cell? ⟨d, 1, none⟩ = some (.int .i64 0) ∧ w'.cell? ⟨d, 2, none⟩ = some (.int .i64 1) ∧ w'.cell? ⟨d, 3, none⟩ = some (.int .i64 7) ∧ w'.cell? ⟨d, 4, none⟩ = some (.bool true))) (by kernel_rfl) hS0 (fun hHeld => ?_)
  clear hS0
  refine zd 0 (v := ?_) ?_ ?_; rotate_left; · rintro w ⟨hS1, hS2, hS3, hS4, hS5, hS6, hS7⟩; go_simp; try with_reducible rfl
  simp only [Act.put, pt1, pt2, pt3]
  refine zd 1 (v := ?_) ?_ ?_; rotate_left; · rintro w ⟨hS1, hS2, hS3, hS4, hS5, hS6, hS7⟩; go_simp; try with_reducible rfl
  simp only [Act.put, pt1, pt2, pt3]
  refine zd 2 (v := ?_) ?_ ?_; rotate_left; · rintro w ⟨hS1, hS2, hS3, hS4, hS5, hS6, hS7⟩; go_simp; try with_reducible rfl
  simp only [Act.put, pt1, pt2, pt3]
  refine zd 3 (v := ?_) ?_ ?_; rotate_left; · rintro w ⟨hS1, hS2, hS3, hS4, hS5, hS6, hS7⟩; go_simp; try with_reducible rfl
  simp only [Act.put, pt1, pt2, pt3]
  refine zd 4 (v := ?_) ?_ ?_; rotate_left; · rintro w ⟨hS1, hS2, hS3, hS4, hS5, hS6, hS7⟩; go_simp; try with_reducible rfl
  simp only [Act.put, pt1, pt2, pt3]
  refine zd 5 (v := ?_) ?_ ?_; rotate_left; · rintro w ⟨hS1, hS2, hS3, hS4, hS5, hS6, hS7⟩; go_simp; try with_reducible rfl
  simp only [Act.put, pt1, pt2, pt3]
  refine zd 6 (v := ?_) ?_ ?_; rotate_left; · rintro w ⟨hS1, hS2, hS3, hS4, hS5, hS6, hS7⟩; go_simp; try with_reducible rfl
  simp only [Act.put, pt1, pt2, pt3]
  refine zla (fun K' hK => ?_)
  have hmu := HMU.out
  go_simp
  refine hK.out _ _ ?_
  clear hK K'
  try simp only [Act.put, pt1, pt2, pt3]
  go_wp2_with fail
  go_ret
  exact ⟨rfl, HP.out.1, HP.out.2⟩
end Go.Proofs.YteflpdhgojcmcaaGreatDoor
