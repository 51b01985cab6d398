/- The walk of the graph's Commit. No conditions but those that each theorem names. -/
import Derived.Test.YteflpdhgojcmcaaGreatDoorU01
import Derived.Test.YteflpdhgojcmcaaGreatDoorU21
namespace Go.Proofs.YteflpdhgojcmcaaGreatDoor
open Go.RowKit PSet PMat
/-- What variables have behind a commit. -/
def putM (t : Option StepM) (vals : List Reg) : List Reg := match t with
  | some s => vals.set s.x.toNat (s.k, s.n)
  | none => vals
set_option maxRecDepth 100000 in
set_option maxHeartbeats 1000000 in
theorem gsCommit_none (B : Nat) (w : World) (g : Nat) (e : EngM) (t : Option StepM) (h : GrS B w g e) (hB : B ≤ w.heap.size) (hB0 : 0 < B) (hl : e.live = some t) (hwt : writesM t = none) (hfew : e.log.length < 100000) (hT : Tab w) :
    Calls Tryz.prog 330 #[.pointer (some ⟨g, 0, none⟩), .int .i64 (e.cnt : Int)] w fun en w' => en = .returned (.int .i64 0) ∧ GrS B w' g (e.over true t) ∧ Lim GT B w w' := by
  obtain ⟨L, v, K, lg, ct, s, lgs, z, h⟩ := h
  have h65 := h.live
  rw [hl] at h65
  obtain ⟨t67, t1, ta, tc, tk, to, tn, tx⟩ := h.tx t hl
  have hlen := h.len
  have hL := h.eng.lenL
  have hgl := h.eng.lt
  have ho1 := h.one
  have C1 := Lib.hid (grWho g z e.cnt e.cnt w (h.eng.pool h.size) (by rcases h.zz with rfl | rfl <;> decide) (h.eng.pool (by simpa using h65)) (h.eng.pool h.done) (h.eng.pool t67) (h.eng.pool h.cnt) (by omega) (Int.le_refl _) hT)
  have C2 := Lib.hid (fun (W : World) (hb : Below w.heap.size w W) => txnWrites t (.slice ta (optN t) tc) W ((RowAt.of_owns to).below hb) (fun st hst => ⟨(tx st hst).1, by have := (tx st hst).2.1; omega⟩))
  rw [hwt] at C2
  have C3 := Lib.hid (fun (W : World) (hch : Chg (fun b => b = g) w W) (ct2 : Int) (hE : EngAt W g L v K lg ct2) => by
    have hI : GrI B W g e L v K lg ct2 s lgs z := {
      eng := hE, base := h.base, one := h.one, size := h.size, zz := h.zz, live := h.live, done := h.done, cnt := h.cnt, few := h.few, mat := h.mat, ord := h.ord
      store := owns_g h.store hch h.eng.at0 (by decide)
      vals := h.vals, norm := h.norm, len := h.len
      log := owns_g h.log hch h.eng.at0 (by decide)
      logs := h.logs.keep fun _ _ _ ho => owns_g ho hch h.eng.at0 (by decide)
      lfew := h.lfew
      tx := fun t' ht' => by
        obtain ⟨a1, a2, ta, tc, a3, a4, a5⟩ := h.tx t' ht'
        exact ⟨a1, a2, ta, tc, a3, owns_g a4 hch h.eng.at0 (by decide), a5⟩ }
    exact gsOver B W g e true t hI (Nat.le_trans hB hch.size) hB0 hl hfew (fun j hj => (hch.cell (p := ⟨0, j, none⟩) (by show 0 < _; omega) (by have := h.base; show ¬ (0 = g); omega)).trans (hT j hj)))
  have HH := Lib.hid h
  have HE := Lib.hid h.eng
  have hlimg : ∀ W : World, Chg (fun b => b = g) w W → Lim GT B w W := fun W hc => chg_g HH.out hc
  have HLG := Lib.hid hlimg
  have k0 : w.cell? ⟨g, 101, none⟩ = some (.slice ta (optN t) tc) := h.eng.work (j := 0) tk
  have tke := Lib.hid tk
  have hbase := h.base
  clear h h65 t67 t1 hl hT hfew to tn tx tk hwt hlimg
  generalize e.over true t = e2 at *
  generalize (e.cnt : Int) = c at *
  generalize optN t = tnn at *
  go_enter Tryz.func330, Tryz.ntmps330
  go_wp2_with fail
  refine (C1.out).mono ?_
  rintro en y1 ⟨rfl, hb1⟩
  have j0 : y1.cell? ⟨g, 101, none⟩ = some (.slice ta tnn tc) := (hb1.cell (p := ⟨g, 101, none⟩) hgl).trans k0
  have C2' := Lib.hid (C2.out y1 hb1)
  have HB1 := Lib.hid hb1
  clear hb1 C2 k0
  go_wp2_with fail
  refine (C2'.out).mono ?_
  rintro en y2 ⟨v', rfl, hown, hnil, hb2⟩
  have hv' : v' = .slice none 0 0 := hnil.2 trivial
  subst hv'
  have hb12 := HB1.out.trans (hb2.mono HB1.out.size)
  have hE2 := HE.out.below hb12
  have HE2 := Lib.hid hE2
  have HB2 := Lib.hid hb12
  have hsy := hb12.size
  have hz1 := Go.heap_alloc_new y2 (.cells zeroPool 144)
  have HZ := Lib.hid hz1
  clear hown hnil hb2 hb12 hE2 hz1 j0
  go_upto_region 6 with (first
    | (refine wpList_load_mid rfl 144 _ rfl g 0 rfl L _ HE2.out.poolRange Tryz.underlying144 rfl (info144 hL) ?_)
    | (refine wpList_store_row rfl 144 _ _ rfl y2.heap.size L.toArray rfl rfl 144 zeroPool HZ.out (info144a (by simpa using hL)) (by simp [hL, zeroPool_size]) ho1 ?_))
  refine name_w ?_
  intro W6 hW6
  have r6 : W6.heap[y2.heap.size]? = some (.cells L.toArray 144) := by rw [hW6]; exact block_setRow_same HZ.out
  have hb6 : Below w.heap.size w W6 := by rw [hW6]; exact below_setRow' (HB2.out.alloc (by omega) _) (by omega) _
  have HE6 := Lib.hid (HE.out.below hb6)
  have R6 := Lib.hid r6
  have HB6 := Lib.hid hb6
  clear hW6 r6 hb6
  go_wp2_with fail
  refine wp_loop_rounds 1 ?_
  rw [rounds_succ]
  go_upto_region 15 with (first
    | (refine wpList_load_row rfl 144 _ rfl y2.heap.size rfl 144 L.toArray (0, 0) _ R6.out Tryz.underlying144 rfl (info144a (by simpa using hL)) ?_)
    | (refine wpList_store_mid rfl 144 _ _ rfl g 0 L.toArray rfl rfl (fun j hj => ⟨?t1, ?t2⟩) (info144a (by simpa using hL)) ho1 ?_))
  case t1 => exact HE6.out.poolRange.isSome j (by simp at hj; omega)
  case t2 => exact HE6.out.frozen _
  try rw [List.toList_toArray]
  have hE7 : EngAt (W6.setCells g 0 L) g L v K lg ct := HE6.out.setPool L hL
  have hc7 : Chg (fun b => b = g) w (W6.setCells g 0 L) := Chg.setCells (F := fun b => b = g) g (.inl rfl) L 0 _ (Chg.of_below HB6.out)
  generalize W6.setCells g 0 L = W7 at *
  have q166 := hE7.count
  have f166 := hE7.frozen 166
  have hE8 : EngAt (W7.setCell ⟨g, 166, none⟩ (.int .i64 (wrap64 (ct + 1)))) g L v K lg (wrap64 (ct + 1)) := hE7.setCount _
  have hc8 : Chg (fun b => b = g) w (W7.setCell ⟨g, 166, none⟩ (.int .i64 (wrap64 (ct + 1)))) := hc7.setCell (p := ⟨g, 166, none⟩) (.inl rfl) _
  have C3' := Lib.hid (C3.out _ hc8 _ hE8)
  have HL8 := Lib.hid (HLG.out _ hc8)
  clear hE7 hc7 hE8 hc8 C3
  go_wp2_with fail
  refine wp_loop_rounds 1 ?_
  rw [rounds_succ]
  go_wp2_with fail
  refine (C3'.out).mono ?_
  rintro en y9 ⟨rfl, p1, p2⟩
  have HF := Lib.hid (And.intro p1 (HL8.out.trans p2))
  clear p1 p2
  go_wp2_with fail
  go_ret
  exact ⟨rfl, HF.out.1, HF.out.2⟩
end Go.Proofs.YteflpdhgojcmcaaGreatDoor
