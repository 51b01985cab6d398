/- The walks of the graph's over and Abort. The walks of package code: the shapes of all codes; whether an operation, a block may be. The walks of code.find and code.fields. The walk of code.fields. The walk of Op.right. The walks of slices.IndexFunc and slices.ContainsFunc (functions 107, 67). No conditions but those that each theorem names. -/
import Derived.Test.YteflpdhgojcmcaaGreatDoorU01
import Derived.Test.YteflpdhgojcmcaaGreatDoorU14
import Derived.Test.YteflpdhgojcmcaaGreatDoorU03
import Derived.Deep.RegionHeld3
import Derived.Deep.MidRow
import Derived.Deep.QuietTactic
import Derived.BigQuiet
namespace Go.Proofs.YteflpdhgojcmcaaGreatDoor
open Go.RowKit PSet PMat
theorem mat_far (L : List Value) (a b : Value) : (((L.set 65 a).set 66 b).drop 1).take 32 = (L.drop 1).take 32 := by
  apply List.ext_getElem?
  intro i
  rw [List.getElem?_take, List.getElem?_take]
  split
  · rw [List.getElem?_drop, List.getElem?_drop, List.getElem?_set_ne (by omega), List.getElem?_set_ne (by omega)]
  · rfl
/-- What over leaves. -/
def OverPost (B g : Nat) (L : List Value) (K : List Value) (lg : Value) (ct id : Int) (com : Bool) (t : Option StepM) (s : List VarM) (n : Nat) (lgs : List Value) (w w' : World) : Prop :=
  ∃ v' lg' rv wv, EngAt w' g (sweptP (endedP L)) v' (K.set 1 (.bool com)) lg' ct ∧
      w'.ownsRow w.heap.size 197 5 v' s.length (storeC (s.map (dropV 0))) ∧ w'.ownsRow B 42 5 lg' (n + 1) (lgs ++ [.int .i64 id, .bool com, .bool true, rv, wv]) ∧
      w'.ownsRow w.heap.size 155 4 rv (optN (readsM t)) (optC (readsM t)) ∧ w'.ownsRow w.heap.size 155 4 wv (optN (leftM com t)) (optC (leftM com t)) ∧ Chg (fun b => b = g ∨ lg.ownBlock = some b) w w'
set_option maxRecDepth 100000 in
set_option maxHeartbeats 1000000 in
theorem grOver (B g : Nat) (L : List Value) (v : Value) (K : List Value) (lg : Value) (ct : Int) (id : Int) (ta : Option Addr) (tc : Nat) (com : Bool) (t : Option StepM) (s : List VarM) (n : Nat) (lgs : List Value) (w : World)
    (hE : EngAt w g L v K lg ct) (h1 : L.toArray.all (·.oneCell') = true) (h65 : L[65]? = some (.int .u64 1)) (h66 : L[66]? = some (.int .u64 0)) (h67 : L[67]? = some (.int .i64 id)) (hM : (L.drop 1).take 32 = (numsV zeros).toList)
    (hK0 : K[0]? = some (.slice ta (optN t) tc)) (hv : RowAt w (.slice ta (optN t) tc) (optN t) 4 (optC t)) (htg : (Value.slice ta (optN t) tc).ownBlock ≠ some g) (hx : ∀ s, t = some s → 0 ≤ s.x ∧ s.x < 64)
    (hs : StoreAt w v s) (hsn : s.length ≤ 1000) (hm : ∀ a ∈ s, a.marks < 2 ^ 64) (hvg : v.ownBlock ≠ some g) (hvl : ∀ b, v.ownBlock = some b → lg.ownBlock ≠ some b) (hlg : w.ownsRow B 42 5 lg n lgs) (hn : n ≤ 100000) (hB : B ≤ w.heap.size) (hT : Tab w) (hg0 : 0 < g) :
    Calls Tryz.prog 337 #[.pointer (some ⟨g, 0, none⟩), .int .i64 0, .bool com] w fun e w' => e = .returned (.tuple #[]) ∧ OverPost B g L K lg ct id com t s n lgs w w' := by
  have hgl := hE.lt
  have hL := hE.lenL
  have hKl := hE.lenK
  have C1 := Lib.hid (fun W => poolEnd L W hL h1 h65 h66)
  have hl5 : (endedP L).length = 100 := by simp [endedP, hL]
  have ho5 : (endedP L).toArray.all (·.oneCell') = true := one_set (one_set h1 _ _ rfl) _ _ rfl
  have e65 : (endedP L)[65]? = some (.int .u64 (0 : Nat)) := by
    rw [endedP, List.getElem?_set_ne (by omega), List.getElem?_set_self (by omega)]; rfl
  have e66 : (endedP L)[66]? = some (.int .u64 (1 : Nat)) := by
    rw [endedP, List.getElem?_set_self (by simp [hL])]; rfl
  have e67 : (endedP L)[67]? = some (.int .i64 id) := by
    rw [endedP, List.getElem?_set_ne (by omega), List.getElem?_set_ne (by omega), h67]
  have eM : ((endedP L).drop 1).take 32 = (numsV zeros).toList := (mat_far L _ _).trans hM
  have k0 : (K.set 1 (.bool com))[0]? = some (.slice ta (optN t) tc) := by rw [List.getElem?_set_ne (by omega), hK0]
  have k1 : (K.set 1 (.bool com))[1]? = some (.bool com) := by rw [List.getElem?_set_self (by omega)]
  have C2 := Lib.hid (fun (W : World) (hEW : EngAt W g (endedP L) v (K.set 1 (.bool com)) lg ct) (hc : Chg (fun b => b = g) w W) =>
    grGather B g (endedP L) v (K.set 1 (.bool com)) lg ct id ta tc com t s n lgs W hEW ho5 e65 e66 e67 eM k0 k1 (hv.chg hc (fun b hb e => htg (by rw [hb, e]))) hx
      (hs.chg hc (fun b hb e => hvg (by rw [hb, e]))) hsn hm hvg hvl (by
        obtain ⟨hl, h⟩ := hlg
        refine ⟨hl, ?_⟩
        rcases h with h | ⟨b, cap, cur, e1, hb, hg, rest⟩
        · exact .inl h
        · refine .inr ⟨b, cap, cur, e1, hb, (hc.block b (block_lt hg) (fun e => ?_)).trans hg, rest⟩
          subst e
          have := hE.at0
          rw [hg] at this
          cases this) hn (Nat.le_trans hB hc.size) (fun j hj => (hc.cell (p := ⟨0, j, none⟩) (by show 0 < _; omega) (by show ¬ (0 = g); omega)).trans (hT j hj)))
  have HE := Lib.hid hE
  have HL := Lib.hid hL
  have HL5 := Lib.hid hl5
  have HO5 := Lib.hid ho5
  clear hE h1 h65 h66 h67 hM hK0 hv hs hm hvg hvl hlg hT e65 e66 e67 eM k0 k1 hl5 ho5 hL htg
  unfold OverPost
  generalize endedP L = M at *
  go_enter Tryz.func337, Tryz.ntmps337
  go_wp2_with (refine wpList_load_mid rfl 144 _ rfl g 0 rfl L _ HE.out.poolRange Tryz.underlying144 rfl (info144 HL.out) ?_)
  refine (C1.out _).mono ?_
  rintro e y ⟨rfl, hb⟩
  have hE1 := HE.out.below hb
  have HE1 := Lib.hid hE1
  have HB1 := Lib.hid hb
  clear hE1 hb
  go_upto_region 1 with (refine wpList_store_mid rfl 144 _ _ rfl g 0 M.toArray rfl rfl (fun j hj => ⟨?t1, ?t2⟩) (info144a (by simpa using HL5.out)) HO5.out ?_)
  case t1 => exact HE1.out.poolRange.isSome j (by have := HL.out; have := HL5.out; simp at hj; omega)
  case t2 => exact HE1.out.frozen _
  try rw [List.toList_toArray]
  have hE2 : EngAt (y.setCells g 0 M) g M v K lg ct := HE1.out.setPool M HL5.out
  have hc2 : Chg (fun b => b = g) w (y.setCells g 0 M) := Chg.setCells (F := fun b => b = g) g (.inl rfl) M 0 _ (Chg.of_below HB1.out)
  generalize y.setCells g 0 M = W2 at *
  have j102 := hE2.work (j := 1) (List.getElem?_eq_getElem (by omega))
  have f102 := hE2.frozen 102
  have hE3 : EngAt (W2.setCell ⟨g, 102, none⟩ (.bool com)) g M v (K.set 1 (.bool com)) lg ct := hE2.setWork 1 (by decide) _
  have hc3 : Chg (fun b => b = g) w (W2.setCell ⟨g, 102, none⟩ (.bool com)) := hc2.setCell (p := ⟨g, 102, none⟩) (.inl rfl) _
  have C2' := Lib.hid (C2.out _ hE3 hc3)
  have HC3 := Lib.hid hc3
  clear hE2 hc2 hE3 hc3
  simp only [Nat.reduceAdd] at j102
  go_wp2_with fail
  refine (C2'.out).mono ?_
  rintro e y3 ⟨rfl, v', lg', rv, wv, p1, p2, p3, p4, p5, p6⟩
  have hF : ∃ v' lg' rv wv, EngAt y3 g (sweptP M) v' (K.set 1 (.bool com)) lg' ct ∧
      y3.ownsRow w.heap.size 197 5 v' s.length (storeC (s.map (dropV 0))) ∧ y3.ownsRow B 42 5 lg' (n + 1) (lgs ++ [.int .i64 id, .bool com, .bool true, rv, wv]) ∧
      y3.ownsRow w.heap.size 155 4 rv (optN (readsM t)) (optC (readsM t)) ∧ y3.ownsRow w.heap.size 155 4 wv (optN (leftM com t)) (optC (leftM com t)) ∧ Chg (fun b => b = g ∨ lg.ownBlock = some b) w y3 :=
    ⟨v', lg', rv, wv, p1, owns_mono p2 HC3.out.size, p3, owns_mono p4 HC3.out.size, owns_mono p5 HC3.out.size, (HC3.out.weak (G := fun b => b = g ∨ lg.ownBlock = some b) (fun i e => .inl (.inl e))).trans p6 (fun i e => .inl e)⟩
  have HF := Lib.hid hF
  clear hF p1 p2 p3 p4 p5 p6
  go_wp2_with fail
  refine bodyPost_end (results_none rfl _ _ _) rfl ⟨rfl, ?_⟩
  have := HF.out
  simpa using this
end Go.Proofs.YteflpdhgojcmcaaGreatDoor
namespace Go.Proofs.YteflpdhgojcmcaaGreatDoor
open Go.RowKit
/-- What a code is called, and which fields it has. -/
structure Shp where
  nm : ByteArray
  a : Int
  b : Int
  c : Int
  place : Bool
  num : Bool
def shp : Nat → Shp
  | 0 => ⟨⟨#[115, 101, 116]⟩, 8, 0, 0, false, true⟩
  | 1 => ⟨⟨#[110, 105, 108]⟩, 8, 0, 0, false, false⟩
  | 2 => ⟨⟨#[114, 101, 102]⟩, 8, 64, 0, false, false⟩
  | 3 => ⟨⟨#[109, 111, 118, 101]⟩, 8, 8, 0, false, false⟩
  | 4 => ⟨⟨#[97, 100, 100]⟩, 8, 8, 8, false, false⟩
  | 5 => ⟨⟨#[115, 117, 98]⟩, 8, 8, 8, false, false⟩
  | 6 => ⟨⟨#[109, 117, 108]⟩, 8, 8, 8, false, false⟩
  | 7 => ⟨⟨#[108, 101, 115, 115]⟩, 8, 8, 8, false, false⟩
  | 8 => ⟨⟨#[114, 101, 97, 100]⟩, 8, 8, 0, false, false⟩
  | 9 => ⟨⟨#[119, 114, 105, 116, 101]⟩, 8, 8, 0, false, false⟩
  | 10 => ⟨⟨#[106, 117, 109, 112]⟩, 0, 0, 0, true, false⟩
  | 11 => ⟨⟨#[105, 102]⟩, 8, 0, 0, true, false⟩
  | 12 => ⟨⟨#[101, 108, 115, 101]⟩, 0, 0, 0, true, false⟩
  | 13 => ⟨⟨#[106, 111, 105, 110]⟩, 0, 0, 0, false, false⟩
  | 14 => ⟨⟨#[114, 101, 116, 114, 121]⟩, 0, 0, 0, false, false⟩
  | 15 => ⟨⟨#[115, 116, 111, 112]⟩, 0, 0, 0, false, false⟩
  | 16 => ⟨⟨#[101, 110, 100]⟩, 0, 0, 0, false, false⟩
  | _ => ⟨⟨#[]⟩, 0, 0, 0, false, false⟩
def Shp.cells (s : Shp) : List Value := [.string s.nm, .int .i64 s.a, .int .i64 s.b, .int .i64 s.c, .bool s.place, .bool s.num]
def shapesC : Array Value := #[.string ⟨#[115, 101, 116]⟩, .int .i64 8, .int .i64 0, .int .i64 0, .bool false, .bool true, .string ⟨#[110, 105, 108]⟩, .int .i64 8, .int .i64 0, .int .i64 0, .bool false, .bool false, .string ⟨#[114, 101, 102]⟩, .int .i64 8, .int .i64 64, .int .i64 0, .bool false, .bool false, .string ⟨#[109, 111, 118, 101]⟩, .int .i64 8, .int .i64 8, .int .i64 0, .bool false, .bool false, .string ⟨#[97, 100, 100]⟩, .int .i64 8, .int .i64 8, .int .i64 8, .bool false, .bool false, .string ⟨#[115, 117, 98]⟩, .int .i64 8, .int .i64 8, .int .i64 8, .bool false, .bool false, .string ⟨#[109, 117, 108]⟩, .int .i64 8, .int .i64 8, .int .i64 8, .bool false, .bool false, .string ⟨#[108, 101, 115, 115]⟩, .int .i64 8, .int .i64 8, .int .i64 8, .bool false, .bool false, .string ⟨#[114, 101, 97, 100]⟩, .int .i64 8, .int .i64 8, .int .i64 0, .bool false, .bool false, .string ⟨#[119, 114, 105, 116, 101]⟩, .int .i64 8, .int .i64 8, .int .i64 0, .bool false, .bool false, .string ⟨#[106, 117, 109, 112]⟩, .int .i64 0, .int .i64 0, .int .i64 0, .bool true, .bool false, .string ⟨#[105, 102]⟩, .int .i64 8, .int .i64 0, .int .i64 0, .bool true, .bool false, .string ⟨#[101, 108, 115, 101]⟩, .int .i64 0, .int .i64 0, .int .i64 0, .bool true, .bool false, .string ⟨#[106, 111, 105, 110]⟩, .int .i64 0, .int .i64 0, .int .i64 0, .bool false, .bool false, .string ⟨#[114, 101, 116, 114, 121]⟩, .int .i64 0, .int .i64 0, .int .i64 0, .bool false, .bool false, .string ⟨#[115, 116, 111, 112]⟩, .int .i64 0, .int .i64 0, .int .i64 0, .bool false, .bool false, .string ⟨#[101, 110, 100]⟩, .int .i64 0, .int .i64 0, .int .i64 0, .bool false, .bool false]
set_option maxRecDepth 100000 in
set_option maxHeartbeats 2000000 in
theorem shapes_any (w : World) : Calls Tryz.prog 151 #[] w fun e w' => e = .returned (.slice (some ⟨w.heap.size, 0, none⟩) 17 17) ∧ w' = w.alloc (.cells shapesC 204) := by
  go_enter Tryz.func151, Tryz.ntmps151
  go_wp2_with fail
  go_ret
  exact ⟨rfl, rfl⟩
theorem shapes_tab : ∀ c : Fin 17, ∀ j : Fin 6, shapesC[c.1 * 6 + j.1]? = (shp c.1).cells[j.1]? := by
  intro c
  rcases c with ⟨c, hc⟩
  intro j
  obtain ⟨j, hj⟩ := j
  show shapesC[c * 6 + j]? = (shp c).cells[j]?
  rcases (by omega : c = 0 ∨ c = 1 ∨ c = 2 ∨ c = 3 ∨ c = 4 ∨ c = 5 ∨ c = 6 ∨ c = 7 ∨ c = 8 ∨ c = 9 ∨ c = 10 ∨ c = 11 ∨ c = 12 ∨ c = 13 ∨ c = 14 ∨ c = 15 ∨ c = 16) with rfl | rfl | rfl | rfl | rfl | rfl | rfl | rfl | rfl | rfl | rfl | rfl | rfl | rfl | rfl | rfl | rfl <;>
    rcases (by omega : j = 0 ∨ j = 1 ∨ j = 2 ∨ j = 3 ∨ j = 4 ∨ j = 5) with rfl | rfl | rfl | rfl | rfl | rfl <;> rfl
theorem shapes_at (c : Nat) (hc : c < 17) (w : World) : (w.alloc (.cells shapesC 204)).rangeAt w.heap.size (c * 6) (shp c).cells := by
  intro j v hj
  have hlt : j < 6 := by
    have := (List.getElem?_eq_some_iff.1 hj).1
    simpa [Shp.cells] using this
  rw [cell_of_row _ _ _ _ _ _ (heap_alloc_new w _), ← hj]
  have h : ∀ c : Fin 17, ∀ j : Fin 6, shapesC[c.1 * 6 + j.1]? = (shp c.1).cells[j.1]? := by
    intro c j
    exact shapes_tab c j
  exact h ⟨c, hc⟩ ⟨j, hlt⟩
/-- The table of shapes, wherever it lies. -/
theorem shapes_row (w : World) : Calls Tryz.prog 151 #[] w fun e w' => ∃ g, e = .returned (.slice (some ⟨g, 0, none⟩) 17 17) ∧ (∀ c, c < 17 → w'.rangeAt g (c * 6) (shp c).cells) ∧ w.heap.size ≤ g ∧ Below w.heap.size w w' :=
  (shapes_any w).mono fun _ _ ⟨he, hw⟩ => ⟨_, he, fun c hc => hw ▸ shapes_at c hc w, Nat.le_refl _, hw ▸ (Below.refl _ _).alloc (Nat.le_refl _) _⟩
theorem size204 : (Tryz.prog.info? 204).map (·.size) = some 6 := by kernel_rfl
end Go.Proofs.YteflpdhgojcmcaaGreatDoor
namespace Go.Proofs.YteflpdhgojcmcaaGreatDoor
open Go.RowKit
def shpA (c : Nat) : Array Value := (shp c).cells.toArray
theorem shpA_size (c : Nat) : (shpA c).size = 6 := by simp [shpA, Shp.cells]
theorem shpA_one (c : Nat) : (shpA c).all (·.oneCell') = true := by simp [shpA, Shp.cells, Value.oneCell']
def zeroShp : Array Value := #[.string ⟨#[]⟩, .int .i64 0, .int .i64 0, .int .i64 0, .bool false, .bool false]
set_option maxRecDepth 100000 in
theorem find_yes (c : Nat) (hc : c < 17) (w : World) :
    Calls Tryz.prog 108 #[.int .i64 c] w fun e w' => e = .returned (.tuple #[.agg (shpA c), .bool true]) ∧ Below w.heap.size w w' := by
  have g1 : (0 : Int) ≤ (c : Int) := by omega
  have g2 : (c : Int) < 17 := by omega
  have hsz : (Tryz.prog.info? 204).map (·.size) = some (shpA c).size := by rw [shpA_size]; exact size204
  have HS := Lib.hid hsz
  have HC := Lib.hid hc
  clear hsz hc
  go_enter Tryz.func108, Tryz.ntmps108
  go_wp2_with fail
  obtain ⟨W, hW⟩ : ∃ W, W = w.alloc (.cells zeroShp 204) := ⟨_, rfl⟩
  have hz : W.heap[w.heap.size]? = some (.cells zeroShp 204 (0, 0)) := by rw [hW]; exact heap_alloc_new _ _
  have hb : Below w.heap.size w W := by rw [hW]; exact (Below.refl _ _).alloc (Nat.le_refl _) _
  change Calls Tryz.prog 151 _ (w.alloc (.cells zeroShp 204)) _
  rw [← hW]
  have HZ := Lib.hid hz
  have HB := Lib.hid hb
  clear hz hb hW
  refine (shapes_row W).mono ?_
  rintro e w1 ⟨g, rfl, hr, hg, hb1⟩
  have hz1 : w1.heap[w.heap.size]? = some (.cells zeroShp 204 (0, 0)) := (hb1.block _ (block_lt HZ.out)).trans HZ.out
  have HB1 := Lib.hid (HB.out.trans (hb1.mono HB.out.size))
  have HZ1 := Lib.hid hz1
  have HR := Lib.hid (hr c HC.out)
  clear hr hg hb1 hz1
  go_wp2_with (first
    | (refine wpList_load_mid rfl 204 _ rfl g (c * 6) rfl (shp c).cells _ HR.out Tryz.underlying204 rfl HS.out ?_)
    | (refine wpList_store_row rfl 204 _ _ rfl w.heap.size (shpA c) rfl rfl 204 zeroShp HZ1.out HS.out (by rw [shpA_size]; rfl) (shpA_one c) ?_))
  refine bodyPost_ret (results_cell_tmp rfl _ _ w.heap.size 204 (shpA c) (0, 0) _ rfl (block_setRow_same HZ1.out) Tryz.underlying204 rfl HS.out) rfl ⟨rfl, ?_⟩
  exact below_setRow' HB1.out (Nat.le_refl _) _
theorem find_no (c : Int) (hc : c < 0 ∨ 17 ≤ c) (w : World) :
    Calls Tryz.prog 108 #[.int .i64 c] w fun e w' => e = .returned (.tuple #[.agg (shpA 17), .bool false]) ∧ Below w.heap.size w w' := by
  have HC := Lib.hid hc
  clear hc
  rcases HC.out with g1 | g1
  all_goals
    go_enter Tryz.func108, Tryz.ntmps108
    go_wp2_with fail
    refine (shapes_row _).mono ?_
    rintro e w1 ⟨g, rfl, hr, hg, hb1⟩
    have hz1 : w1.heap[w.heap.size]? = some (.cells zeroShp 204 (0, 0)) := (hb1.block _ (by simp)).trans (heap_alloc_new _ _)
    have hb2 : Below w.heap.size w w1 := ((Below.refl _ _).alloc (Nat.le_refl _) _).trans (hb1.mono (by simp))
    have HZ1 := Lib.hid hz1
    have HB1 := Lib.hid hb2
    clear hr hg hb1 hz1 hb2
    go_wp2_with (refine wpList_store_row rfl 204 _ _ rfl w.heap.size (shpA 17) rfl rfl 204 zeroShp HZ1.out (by kernel_rfl) rfl (shpA_one 17) ?_)
    refine bodyPost_ret (results_cell_tmp rfl _ _ w.heap.size 204 (shpA 17) (0, 0) _ rfl (block_setRow_same HZ1.out) Tryz.underlying204 rfl (by kernel_rfl)) rfl ⟨rfl, ?_⟩
    exact below_setRow' HB1.out (Nat.le_refl _) _
end Go.Proofs.YteflpdhgojcmcaaGreatDoor
namespace Go.Proofs.YteflpdhgojcmcaaGreatDoor
open Go.RowKit
def Shp.lim (s : Shp) (many : Int) : Int := if s.place then many else s.c
def fieldsA (o : Nat) (s : Shp) (many : Int) : Array Value :=
  #[.pointer (some ⟨o, 1, none⟩), .int .i64 s.a, .pointer (some ⟨o, 2, none⟩), .int .i64 s.b, .pointer (some ⟨o, 3, none⟩), .int .i64 (s.lim many)]
set_option maxRecDepth 100000 in
theorem fields_any (o : Nat) (s : Shp) (many : Int) (w : World) :
    Calls Tryz.prog 109 #[.pointer (some ⟨o, 0, none⟩), .agg s.cells.toArray, .int .i64 many] w fun e w' => e = .returned (.agg (fieldsA o s many)) ∧ Below w.heap.size w w' := by
  obtain ⟨nm, a, b, c, place, num⟩ := s
  cases place
  all_goals
    dsimp only [Shp.cells]
    go_enter Tryz.func109, Tryz.ntmps109
    go_wp2_with fail
    go_region_held3 (fun w' => w'.cell? ⟨w.heap.size, 1, none⟩ = some (.int .i64 a) ∧ w'.cell? ⟨w.heap.size, 2, none⟩ = some (.int .i64 b)) (go_keep) (fail)
    go_wp2
    refine bodyPost_ret (v := .agg (fieldsA o _ many)) (by simp [results, Tryz.results109, go_sem, fieldsA, Shp.lim]) rfl ⟨rfl, ?_⟩
    exact (((Below.refl _ _).alloc (Nat.le_refl _) _).alloc (by simp) _).drew
end Go.Proofs.YteflpdhgojcmcaaGreatDoor
namespace Go.Proofs.YteflpdhgojcmcaaGreatDoor
open Go.RowKit
/-- An operation. -/
structure OpM where
  code : Int
  a : Int
  b : Int
  c : Int
  n : Int
def OpM.cells (o : OpM) : List Value := [.int .i64 o.code, .int .i64 o.a, .int .i64 o.b, .int .i64 o.c, .int .i64 o.n]
def OpM.val (o : OpM) : Value := .agg o.cells.toArray
def fldB (n below : Int) : Bool := decide (0 ≤ n) && decide (n < max below 1)
theorem fld_no1 {x b : Int} (h : x < 0) : fldB x b = false := by simp [fldB]; omega
theorem fld_no2 {x b : Int} (h : max b 1 ≤ x) : fldB x b = false := by simp [fldB]; omega
theorem fld_yes {x b : Int} (h0 : ¬ x < 0) (h : ¬ max b 1 ≤ x) : fldB x b = true := by simp [fldB]; omega
def shpI (c : Int) : Shp := shp c.toNat
/-- May an operation be in a block of so many? -/
def rightB (o : OpM) (many : Int) : Bool :=
  decide (0 ≤ o.code) && decide (o.code < 17) && (o.n == 0 || (shpI o.code).num) && fldB o.a (shpI o.code).a && fldB o.b (shpI o.code).b && fldB o.c ((shpI o.code).lim many)
theorem right_far (o : OpM) (many : Int) (w : World) (h : o.code < 0 ∨ 17 ≤ o.code) :
    Calls Tryz.prog 69 #[o.val, .int .i64 many] w fun e w' => e = .returned (.bool (rightB o many)) ∧ Below w.heap.size w w' := by
  have hr : rightB o many = false := by
    unfold rightB
    rcases h with h | h
    · have : decide (0 ≤ o.code) = false := by simp; omega
      rw [this]; rfl
    · have : decide (o.code < 17) = false := by simp; omega
      rw [this]; simp
  rw [hr]
  clear hr
  obtain ⟨c, x, y, z, n⟩ := o
  have c1 := find_no c h
  have C := Lib.hid c1
  clear c1 h
  dsimp only [OpM.val, OpM.cells]
  go_enter Tryz.func69, Tryz.ntmps69
  go_wp2_with fail
  refine (C.out _).mono ?_
  rintro e w1 ⟨rfl, hb⟩
  have hb2 : Below w.heap.size w w1 := ((Below.refl _ _).alloc (Nat.le_refl _) _).trans (hb.mono (by simp))
  have HB := Lib.hid hb2
  clear hb hb2
  dsimp only [shpA, Shp.cells]
  go_wp2
  go_ret
  exact ⟨rfl, HB.out.alloc HB.out.size _⟩
theorem right_not (o : OpM) (many : Int) (w : World) (h0 : 0 ≤ o.code) (h1 : o.code < 17) (hn : (o.n == 0) = false) (hm : (shpI o.code).num = false) :
    Calls Tryz.prog 69 #[o.val, .int .i64 many] w fun e w' => e = .returned (.bool (rightB o many)) ∧ Below w.heap.size w w' := by
  have hr : rightB o many = false := by
    unfold rightB
    rw [hn, hm]
    simp
  rw [hr]
  clear hr
  obtain ⟨c, x, y, z, n⟩ := o
  obtain ⟨c, rfl⟩ := Int.eq_ofNat_of_zero_le h0
  have c1 := find_yes c (by have : (c : Int) < 17 := h1; omega)
  have hm' : (shp c).num = false := hm
  unfold shpA Shp.cells at c1
  rw [hm'] at c1
  have hn' : (n != 0) = true := by simpa using hn
  have C := Lib.hid c1
  clear c1 h0 h1 hm hm' hn
  generalize shp c = s at *
  dsimp only [OpM.val, OpM.cells]
  go_enter Tryz.func69, Tryz.ntmps69
  go_wp2_with fail
  refine (C.out _).mono ?_
  rintro e w1 ⟨rfl, hb⟩
  have hb2 : Below w.heap.size w w1 := ((Below.refl _ _).alloc (Nat.le_refl _) _).trans (hb.mono (by simp))
  have hc : w1.cell? ⟨w.heap.size, 4, none⟩ = some (.int .i64 n) := (hb.cell (p := ⟨w.heap.size, 4, none⟩) (by simp)).trans (new_cell _ _ _ _)
  have hf : w.heap.size < w1.heap.size := block_lt_of_cell hc
  have HB := Lib.hid hb2
  clear hb hb2
  go_wp2
  go_ret
  exact ⟨rfl, HB.out.alloc HB.out.size _⟩
set_option maxHeartbeats 1000000 in
theorem right_loop (o : OpM) (many : Int) (w : World) (h0 : 0 ≤ o.code) (h1 : o.code < 17) (hn : (o.n == 0 || (shpI o.code).num) = true) :
    Calls Tryz.prog 69 #[o.val, .int .i64 many] w fun e w' => e = .returned (.bool (fldB o.a (shpI o.code).a && fldB o.b (shpI o.code).b && fldB o.c ((shpI o.code).lim many))) ∧ Below w.heap.size w w' := by
  obtain ⟨c, x, y, z, n⟩ := o
  obtain ⟨c, rfl⟩ := Int.eq_ofNat_of_zero_le h0
  have c1 := find_yes c (by have : (c : Int) < 17 := h1; omega)
  have e1 : shpI (c : Int) = shp c := rfl
  dsimp only [OpM.val, OpM.cells] at *
  rw [e1] at hn ⊢
  have c2 := fun W => fields_any w.heap.size (shp c) many W
  unfold shpA at c1
  clear e1
  generalize hs : shp c = s at *
  clear hs
  generalize hlim : s.lim many = lim at *
  obtain ⟨nm, sa, sb, sc, pl, num⟩ := s
  unfold fieldsA at c2
  rw [hlim] at c2
  dsimp only [Shp.cells] at c1 c2 hn ⊢
  have C := Lib.hid c1
  have C2 := Lib.hid c2
  have hn' : (n != 0) = false ∨ num = true := by
    rcases Bool.or_eq_true_iff.1 hn with h | h
    · left; simpa using h
    · right; exact h
  have HN := Lib.hid hn'
  clear c1 c2 h0 h1 hn hn' hlim
  rcases HN.out with hn' | rfl
  all_goals
    go_enter Tryz.func69, Tryz.ntmps69
    go_wp2_with fail
    refine (C.out _).mono ?_
    rintro e w1 ⟨rfl, hb⟩
    have hb2 : Below w.heap.size w w1 := ((Below.refl _ _).alloc (Nat.le_refl _) _).trans (hb.mono (by simp))
    have hc4 : w1.cell? ⟨w.heap.size, 4, none⟩ = some (.int .i64 n) := (hb.cell (p := ⟨w.heap.size, 4, none⟩) (by simp)).trans (new_cell _ _ _ _)
    have hc1 : w1.cell? ⟨w.heap.size, 1, none⟩ = some (.int .i64 x) := (hb.cell (p := ⟨w.heap.size, 1, none⟩) (by simp)).trans (new_cell _ _ _ _)
    have hc2 : w1.cell? ⟨w.heap.size, 2, none⟩ = some (.int .i64 y) := (hb.cell (p := ⟨w.heap.size, 2, none⟩) (by simp)).trans (new_cell _ _ _ _)
    have hc3 : w1.cell? ⟨w.heap.size, 3, none⟩ = some (.int .i64 z) := (hb.cell (p := ⟨w.heap.size, 3, none⟩) (by simp)).trans (new_cell _ _ _ _)
    have hf : w.heap.size < w1.heap.size := block_lt_of_cell hc4
    have HB := Lib.hid hb2
    clear hb hb2
    go_wp2_with fail
    all_goals
      refine (C2.out _).mono ?_
      rintro e w2 ⟨rfl, hb3⟩
      have hd1 : w2.cell? ⟨w.heap.size, 1, none⟩ = some (.int .i64 x) := (hb3.cell (p := ⟨w.heap.size, 1, none⟩) (by simp; omega)).trans ((World.cell?_alloc_past _ _ _ hf).trans hc1)
      have hd2 : w2.cell? ⟨w.heap.size, 2, none⟩ = some (.int .i64 y) := (hb3.cell (p := ⟨w.heap.size, 2, none⟩) (by simp; omega)).trans ((World.cell?_alloc_past _ _ _ hf).trans hc2)
      have hd3 : w2.cell? ⟨w.heap.size, 3, none⟩ = some (.int .i64 z) := (hb3.cell (p := ⟨w.heap.size, 3, none⟩) (by simp; omega)).trans ((World.cell?_alloc_past _ _ _ hf).trans hc3)
      have hf2 : w.heap.size < w2.heap.size := block_lt_of_cell hd1
      have HB2 := Lib.hid ((HB.out.alloc HB.out.size _).trans (hb3.mono (by simp; omega)))
      clear hb3 hc1 hc2 hc3 hc4 hf
      have i0 : ∀ w', (Instr.index 209 (.agg #[.pointer (some ⟨w.heap.size, 1, none⟩), .int .i64 sa, .pointer (some ⟨w.heap.size, 2, none⟩), .int .i64 sb, .pointer (some ⟨w.heap.size, 3, none⟩), .int .i64 lim]) (.int .i64 0)).run Tryz.prog w' = .ok (.agg #[.pointer (some ⟨w.heap.size, 1, none⟩), .int .i64 sa]) w' := fun _ => by kernel_rfl
      have i1 : ∀ w', (Instr.index 209 (.agg #[.pointer (some ⟨w.heap.size, 1, none⟩), .int .i64 sa, .pointer (some ⟨w.heap.size, 2, none⟩), .int .i64 sb, .pointer (some ⟨w.heap.size, 3, none⟩), .int .i64 lim]) (.int .i64 1)).run Tryz.prog w' = .ok (.agg #[.pointer (some ⟨w.heap.size, 2, none⟩), .int .i64 sb]) w' := fun _ => by kernel_rfl
      have i2 : ∀ w', (Instr.index 209 (.agg #[.pointer (some ⟨w.heap.size, 1, none⟩), .int .i64 sa, .pointer (some ⟨w.heap.size, 2, none⟩), .int .i64 sb, .pointer (some ⟨w.heap.size, 3, none⟩), .int .i64 lim]) (.int .i64 2)).run Tryz.prog w' = .ok (.agg #[.pointer (some ⟨w.heap.size, 3, none⟩), .int .i64 lim]) w' := fun _ => by kernel_rfl
      go_wp2_with fail
      go_loopw [31, 8, 9] (fun i _ _ wr => ∃ k : Nat, k ≤ 3 ∧ i = .int .i64 k ∧ Hid ((1 ≤ k → fldB x sa = true) ∧ (2 ≤ k → fldB y sb = true) ∧ (3 ≤ k → fldB z lim = true)) ∧ Below w2.heap.size w2 wr) (fun i _ _ _ => 3 - (intOf i).toNat)
      case atStart => exact ⟨0, by omega, rfl, Lib.hid ⟨by omega, by omega, by omega⟩, Below.refl _ _⟩
      case round =>
        obtain ⟨k, hk, rfl, hin, hbw⟩ := hrel
        have hl : w.heap.size < wr.heap.size := Nat.lt_of_lt_of_le hf2 hbw.size
        have HW := Lib.hid hbw
        clear hbw
        rcases (by omega : k = 0 ∨ k = 1 ∨ k = 2 ∨ k = 3) with rfl | rfl | rfl | rfl
        · have hq : wr.cell? ⟨w.heap.size, 1, none⟩ = some (.int .i64 x) := (HW.out.cell (p := ⟨w.heap.size, 1, none⟩) hf2).trans hd1
          by_cases g1 : x < 0
          · have HF := Lib.hid (fld_no1 (b := sa) g1)
            go_wp2
            go_ret
            exact ⟨by rw [HF.out]; rfl, HB2.out.trans ((HW.out.alloc HW.out.size _).mono HB2.out.size)⟩
          · by_cases g2 : sa < 1
            · by_cases g3 : 1 ≤ x
              · have HF := Lib.hid (fld_no2 (x := x) (b := sa) (by omega))
                go_wp2
                go_ret
                exact ⟨by rw [HF.out]; rfl, HB2.out.trans ((HW.out.alloc HW.out.size _).mono HB2.out.size)⟩
              · have HF := Lib.hid (fld_yes (b := sa) g1 (by omega))
                go_wp2
                refine ⟨⟨1, by omega, by go_num, Lib.hid ⟨fun _ => HF.out, by omega, by omega⟩, HW.out.alloc HW.out.size _⟩, by simp [intOf]⟩
            · by_cases g3 : sa ≤ x
              · have HF := Lib.hid (fld_no2 (x := x) (b := sa) (by omega))
                go_wp2
                go_ret
                exact ⟨by rw [HF.out]; rfl, HB2.out.trans ((HW.out.alloc HW.out.size _).mono HB2.out.size)⟩
              · have HF := Lib.hid (fld_yes (b := sa) g1 (by omega))
                go_wp2
                refine ⟨⟨1, by omega, by go_num, Lib.hid ⟨fun _ => HF.out, by omega, by omega⟩, HW.out.alloc HW.out.size _⟩, by simp [intOf]⟩
        · have hq : wr.cell? ⟨w.heap.size, 2, none⟩ = some (.int .i64 y) := (HW.out.cell (p := ⟨w.heap.size, 2, none⟩) hf2).trans hd2
          by_cases g1 : y < 0
          · have HF := Lib.hid (fld_no1 (b := sb) g1)
            go_wp2
            go_ret
            exact ⟨by rw [HF.out]; simp, HB2.out.trans ((HW.out.alloc HW.out.size _).mono HB2.out.size)⟩
          · by_cases g2 : sb < 1
            · by_cases g3 : 1 ≤ y
              · have HF := Lib.hid (fld_no2 (x := y) (b := sb) (by omega))
                go_wp2
                go_ret
                exact ⟨by rw [HF.out]; simp, HB2.out.trans ((HW.out.alloc HW.out.size _).mono HB2.out.size)⟩
              · have HF := Lib.hid (fld_yes (b := sb) g1 (by omega))
                go_wp2
                refine ⟨⟨2, by omega, by go_num, Lib.hid ⟨fun _ => hin.out.1 (by omega), fun _ => HF.out, by omega⟩, HW.out.alloc HW.out.size _⟩, by simp [intOf]⟩
            · by_cases g3 : sb ≤ y
              · have HF := Lib.hid (fld_no2 (x := y) (b := sb) (by omega))
                go_wp2
                go_ret
                exact ⟨by rw [HF.out]; simp, HB2.out.trans ((HW.out.alloc HW.out.size _).mono HB2.out.size)⟩
              · have HF := Lib.hid (fld_yes (b := sb) g1 (by omega))
                go_wp2
                refine ⟨⟨2, by omega, by go_num, Lib.hid ⟨fun _ => hin.out.1 (by omega), fun _ => HF.out, by omega⟩, HW.out.alloc HW.out.size _⟩, by simp [intOf]⟩
        · have hq : wr.cell? ⟨w.heap.size, 3, none⟩ = some (.int .i64 z) := (HW.out.cell (p := ⟨w.heap.size, 3, none⟩) hf2).trans hd3
          by_cases g1 : z < 0
          · have HF := Lib.hid (fld_no1 (b := lim) g1)
            go_wp2
            go_ret
            exact ⟨by rw [HF.out]; simp, HB2.out.trans ((HW.out.alloc HW.out.size _).mono HB2.out.size)⟩
          · by_cases g2 : lim < 1
            · by_cases g3 : 1 ≤ z
              · have HF := Lib.hid (fld_no2 (x := z) (b := lim) (by omega))
                go_wp2
                go_ret
                exact ⟨by rw [HF.out]; simp, HB2.out.trans ((HW.out.alloc HW.out.size _).mono HB2.out.size)⟩
              · have HF := Lib.hid (fld_yes (b := lim) g1 (by omega))
                go_wp2
                refine ⟨⟨3, by omega, by go_num, Lib.hid ⟨fun _ => hin.out.1 (by omega), fun _ => hin.out.2.1 (by omega), fun _ => HF.out⟩, HW.out.alloc HW.out.size _⟩, by simp [intOf]⟩
            · by_cases g3 : lim ≤ z
              · have HF := Lib.hid (fld_no2 (x := z) (b := lim) (by omega))
                go_wp2
                go_ret
                exact ⟨by rw [HF.out]; simp, HB2.out.trans ((HW.out.alloc HW.out.size _).mono HB2.out.size)⟩
              · have HF := Lib.hid (fld_yes (b := lim) g1 (by omega))
                go_wp2
                refine ⟨⟨3, by omega, by go_num, Lib.hid ⟨fun _ => hin.out.1 (by omega), fun _ => hin.out.2.1 (by omega), fun _ => HF.out⟩, HW.out.alloc HW.out.size _⟩, by simp [intOf]⟩
        · have HF := Lib.hid (show (fldB x sa && fldB y sb && fldB z lim) = true by rw [hin.out.1 (by omega), hin.out.2.1 (by omega), hin.out.2.2 (by omega)]; rfl)
          go_wp2
          go_ret
          exact ⟨by rw [HF.out]; rfl, HB2.out.trans (HW.out.mono HB2.out.size)⟩
/-- Op.right. -/
theorem right_any (o : OpM) (many : Int) (w : World) :
    Calls Tryz.prog 69 #[o.val, .int .i64 many] w fun e w' => e = .returned (.bool (rightB o many)) ∧ Below w.heap.size w w' := by
  by_cases h0 : 0 ≤ o.code
  · by_cases h1 : o.code < 17
    · cases hn : (o.n == 0 || (shpI o.code).num)
      · have ⟨a, b⟩ := Bool.or_eq_false_iff.1 hn
        exact right_not o many w h0 h1 a b
      · have hr : rightB o many = (fldB o.a (shpI o.code).a && fldB o.b (shpI o.code).b && fldB o.c ((shpI o.code).lim many)) := by
          unfold rightB
          rw [hn, decide_eq_true h0, decide_eq_true h1]
          simp
        rw [hr]
        exact right_loop o many w h0 h1 hn
    · exact right_far o many w (by omega)
  · exact right_far o many w (by omega)
end Go.Proofs.YteflpdhgojcmcaaGreatDoor
namespace Go.Proofs.YteflpdhgojcmcaaGreatDoor
open Go.RowKit
theorem size50f107 : (Tryz.prog.info? 50).map (·.size) = some 5 := by kernel_rfl
set_option maxRecDepth 100000 in
theorem idx107 (K : Nat) (cv : Value) (b off n c : Nat) (X : Nat → List Value) (p : Nat → Bool) (w : World) (hn : n ≤ 9223372036854775807)
    (hlen : ∀ i, (X i).length = 5) (hX : ∀ i, i < n → w.rangeAt b (off + i * 5) (X i)) (hbw : 0 < n → b < w.heap.size)
    (hcall : ∀ (args : Array Value) (W : World), (callFunc K args).run Tryz.prog W = .ok (.enter K args) W)
    (hf : ∀ i, i < n → ∀ W, Below w.heap.size w W → Calls Tryz.prog K #[.agg (X i).toArray, cv] W fun e w' => e = .returned (.bool (p i)) ∧ Below W.heap.size W w') :
    Calls Tryz.prog 107 #[.slice (some ⟨b, off, none⟩) n c, .func (.func K) #[] #[cv]] w fun e w' => (∃ r : Int, e = .returned (.int .i64 r) ∧ IdxOf p n r) ∧ Below w.heap.size w w' := by
  have HL := Lib.hid hlen
  have HX := Lib.hid hX
  have HF := Lib.hid hf
  have HB := Lib.hid hbw
  clear hlen hX hf hbw
  go_enter Tryz.func107, Tryz.ntmps107
  go_wp2_with fail
  go_loopw [8, 5] (fun i _ wr => ∃ k : Nat, k ≤ n ∧ i = .int .i64 k ∧ Hid (∀ j, j < k → p j = false) ∧ Below w.heap.size w wr) (fun i _ _ => n - (intOf i).toNat)
  case atStart => exact ⟨0, Nat.zero_le _, rfl, Lib.hid (by omega), Below.refl _ _⟩
  case round =>
    obtain ⟨k, hk, rfl, hno, hb⟩ := hrel
    by_cases hlt : k < n
    · have h0 : (0 : Int) ≤ (k : Int) := by omega
      have hr : wr.rangeAt b (off + k * 5) (X k) := fun j v hj => (hb.cell (p := ⟨b, off + k * 5 + j, none⟩) (HB.out (by omega))).trans (HX.out k hlt j v hj)
      have hsz : (Tryz.prog.info? 50).map (·.size) = some (X k).length := by rw [HL.out]; exact size50f107
      have cf := HF.out k hlt wr hb
      generalize X k = cs at *
      cases hp : p k
      · rw [hp] at cf
        have CF := Lib.hid cf
        have HR := Lib.hid hr
        have HS := Lib.hid hsz
        have HB1 := Lib.hid hb
        have HP := Lib.hid hp
        clear cf hr hsz hb hp
        go_wp2_with (refine wpList_load_mid rfl 50 _ rfl b (off + k * 5) rfl cs _ HR.out Tryz.underlying50 rfl HS.out ?_)
        refine (CF.out).mono ?_
        rintro e w1 ⟨rfl, hb1⟩
        have HB2 := Lib.hid (HB1.out.trans (hb1.mono HB1.out.size))
        clear hb1
        go_wp2_with fail
        go_roundw
        case rel => exact ⟨k + 1, by omega, by go_num, Lib.hid (fun j hj => if e : j < k then hno.out j e else by rw [show j = k from by omega]; exact HP.out), HB2.out⟩
        case measure => simp [intOf]; omega
      · rw [hp] at cf
        have CF := Lib.hid cf
        have HR := Lib.hid hr
        have HS := Lib.hid hsz
        have HB1 := Lib.hid hb
        have HP := Lib.hid hp
        clear cf hr hsz hb hp
        go_wp2_with (refine wpList_load_mid rfl 50 _ rfl b (off + k * 5) rfl cs _ HR.out Tryz.underlying50 rfl HS.out ?_)
        refine (CF.out).mono ?_
        rintro e w1 ⟨rfl, hb1⟩
        have HB2 := Lib.hid (HB1.out.trans (hb1.mono HB1.out.size))
        clear hb1
        go_wp2_with fail
        go_ret
        exact ⟨⟨k, rfl, .inr ⟨k, hlt, rfl, HP.out, hno.out⟩⟩, HB2.out⟩
    · have e : k = n := by omega
      subst e
      have HB1 := Lib.hid hb
      clear hb
      go_wp2_with fail
      go_ret
      exact ⟨⟨-1, rfl, .inl ⟨rfl, hno.out⟩⟩, HB1.out⟩
theorem contains67 (s f : Value) (p : Nat → Bool) (n : Nat) (w : World)
    (h : Calls Tryz.prog 107 #[s, f] w fun e w' => (∃ r : Int, e = .returned (.int .i64 r) ∧ IdxOf p n r) ∧ Below w.heap.size w w') :
    Calls Tryz.prog 67 #[s, f] w fun e w' => e = .returned (.bool (anyB p n)) ∧ Below w.heap.size w w' := by
  have H := Lib.hid h
  clear h
  go_enter Tryz.func67, Tryz.ntmps67
  go_wp2_with fail
  refine (H.out).mono ?_
  rintro e w1 ⟨⟨r, rfl, hr⟩, hb⟩
  have HB := Lib.hid hb
  have HR := Lib.hid hr
  clear hb hr
  go_wp2_with fail
  go_ret
  exact ⟨by rw [← HR.out.any]; rfl, HB.out⟩
end Go.Proofs.YteflpdhgojcmcaaGreatDoor
