/- The walk of the graph's Commit, of a transaction that leaves a step. Either engine, as a model: what its methods answer, and leave. The recorder over either engine, as a model. No conditions but those that each theorem names. -/
import Derived.Test.YteflpdhgojcmcaaGreatDoorU01
import Derived.Test.YteflpdhgojcmcaaGreatDoorU22
import Derived.Test.YteflpdhgojcmcaaGreatDoorU23
namespace Go.Proofs.YteflpdhgojcmcaaGreatDoor
open Go.RowKit PSet PMat
theorem setRow_same_all {w : World} {g t : Nat} {cs : Array Value} (h : w.heap[g]? = some (.cells cs t (0, 0))) (k : Nat) : (w.setRow g cs).heap[k]? = w.heap[k]? := by
  by_cases e : k = g
  · subst e
    exact (block_setRow_same h).trans h.symm
  · exact setRow_other _ _ _ _ e
set_option maxRecDepth 100000 in
set_option maxHeartbeats 2000000 in
theorem gsCommit_some (B : Nat) (w : World) (g : Nat) (e : EngM) (t : Option StepM) (st : StepM) (h : GrS B w g e) (hB : B ≤ w.heap.size) (hB0 : 0 < B) (hl : e.live = some t) (hwt : writesM t = some st) (hfew : e.log.length < 100000) (hT : Tab w) :
    Calls Tryz.prog 330 #[.pointer (some ⟨g, 0, none⟩), .int .i64 (e.cnt : Int)] w fun en w' => en = .returned (.int .i64 0) ∧ GrS B w' g (EngM.over { e with vals := e.vals.set st.x.toNat (st.k, st.n) } true t) ∧ Lim GT B w w' := by
  obtain ⟨L, v, K, lg, ct, s, lgs, z, h⟩ := h
  have h65 := h.live
  rw [hl] at h65
  obtain ⟨t67, t1, ta, tc, tk, to, tn, tx⟩ := h.tx t hl
  have hst : t = some st := by
    unfold writesM at hwt
    exact (Option.filter_eq_some_iff.1 hwt).1
  obtain ⟨tx0, tx1, trv⟩ := tx st hst
  obtain ⟨sx, sk, sn, sw⟩ := st
  simp only at tx0 tx1 trv
  obtain ⟨x, rfl⟩ := Int.eq_ofNat_of_zero_le tx0
  have hxl : x < s.length := by omega
  obtain ⟨m, hm⟩ : ∃ m, s[x]? = some m := ⟨_, List.getElem?_eq_getElem hxl⟩
  obtain ⟨n1, n2, n3⟩ := h.norm m (List.mem_of_getElem? hm)
  have hlen := h.len
  have hL := h.eng.lenL
  have hgl := h.eng.lt
  have ho1 := h.one
  have hbase := h.base
  have C1 := Lib.hid (grWho g z e.cnt e.cnt w (h.eng.pool h.size) (by rcases h.zz with rfl | rfl <;> decide) (h.eng.pool (by simpa using h65)) (h.eng.pool h.done) (h.eng.pool t67) (h.eng.pool h.cnt) (by omega) (Int.le_refl _) hT)
  have C2 := Lib.hid (fun (W : World) (hb : Below w.heap.size w W) => txnWrites t (.slice ta (optN t) tc) W ((RowAt.of_owns to).below hb) (fun st hst => ⟨(tx st hst).1, by have := (tx st hst).2.1; omega⟩))
  rw [hwt] at C2
  have C4 := Lib.hid (fun (W : World) (hb : Below w.heap.size w W) => grAhead L m W hL ho1 n1 (by rcases n2 with e | e <;> simp [e, lessN, bitN]) (by rcases n2 with e | e <;> omega) (hT.below (by omega) hb))
  have hvo : ∀ W : World, Chg (fun b => b = g) w W → StoreAt W v s := fun W hc => RowAt.of_owns (owns_g h.store hc h.eng.at0 (by decide))
  have C5 := Lib.hid (fun (W : World) (hc : Chg (fun b => b = g) w W) (ver : Int) => put_yes' v s x sk sn ver 0 W (hvo W hc) hxl (by omega) trv (.inr (by decide)))
  have C3 := Lib.hid (fun (W : World) (hch : Chg (fun b => b = g) w W) (ct2 ver : Int) (v2 : Value) (hE : EngAt W g L v2 K lg ct2) (hs2 : W.ownsRow B 197 5 v2 s.length (storeC (s.set x ⟨sk, sn, ver, 0, 0⟩))) => by
    have hlen2 : (s.set x ⟨sk, sn, ver, 0, 0⟩).length = s.length := List.length_set
    have hn2 : ∀ a ∈ s.set x ⟨sk, sn, ver, 0, 0⟩, (a.wr = -1 ∨ a.wr = 0) ∧ (a.marks = 0 ∨ a.marks = 1) ∧ rightV a.k a.n = true := by
      intro a ha
      rcases List.mem_or_eq_of_mem_set ha with ha | rfl
      · exact ⟨.inl (h.norm a ha).1, (h.norm a ha).2⟩
      · exact ⟨.inr rfl, .inl rfl, trv⟩
    have hlgW := owns_g h.log hch h.eng.at0 (by decide)
    have htoW := owns_g to hch h.eng.at0 (by decide)
    have hvl : ∀ b, v2.ownBlock = some b → lg.ownBlock ≠ some b := by
      intro b hb hlb
      obtain ⟨_, h2⟩ := hlgW
      rcases h2 with ⟨e, _⟩ | ⟨b', cap, cur, e1, _, hg, _⟩
      · rw [e] at hlb; cases hlb
      · rw [e1] at hlb
        simp only [Value.ownBlock, Option.some.injEq] at hlb
        subst hlb
        exact owns_type hs2 hg (by decide) hb
    have hTW : Tab W := fun j hj => (hch.cell (p := ⟨0, j, none⟩) (by show 0 < _; omega) (by show ¬ (0 = g); omega)).trans (hT j hj)
    exact ((grOver B g L v2 K lg ct2 e.cnt ta tc true t (s.set x ⟨sk, sn, ver, 0, 0⟩) e.log.length lgs W hE h.one (by simpa using h65) h.done t67 h.mat tk (RowAt.of_owns htoW) (owns_type htoW hE.at0 (by decide)) (fun st hst => ⟨(tx st hst).1, by have := (tx st hst).2.1; omega⟩) (by rw [StoreAt, hlen2]; exact RowAt.of_owns hs2) (by omega) (fun a ha => by rcases (hn2 a ha).2.1 with e | e <;> omega) (owns_type hs2 hE.at0 (by decide)) hvl hlgW h.lfew (Nat.le_trans hB hch.size) hTW (by omega)).mono (R' := fun en w' => en = .returned (.tuple #[]) ∧ GrS B w' g (EngM.over { e with vals := e.vals.set x (sk, sn) } true t) ∧ Lim GT B W w') fun en w' ⟨he, hp⟩ => by
      have := GrI.over h (h.logs.keep fun _ _ _ ho => owns_g ho hch h.eng.at0 (by decide)) (Nat.le_trans hB hch.size) hlen2 hn2 hlgW hE hfew hp
      rw [List.map_set, h.vals] at this
      exact ⟨he, this⟩))
  have HH := Lib.hid h
  have HE := Lib.hid h.eng
  have hlimg : ∀ W : World, Chg (fun b => b = g) w W → Lim GT B w W := fun W hc => chg_g HH.out hc
  have HLG := Lib.hid hlimg
  have k0 : w.cell? ⟨g, 101, none⟩ = some (.slice ta (optN t) tc) := h.eng.work (j := 0) tk
  have hmr : ∀ W : World, Chg (fun b => b = g) w W → ∃ vb off vc, v = .slice (some ⟨vb, off, none⟩) s.length vc ∧ W.rangeAt vb (off + x * 5) m.cells := by
    intro W hc
    obtain ⟨_, a, c, e1, h2⟩ := hvo W hc
    obtain ⟨vb, off, rfl, _, hr⟩ := h2 (by omega)
    exact ⟨vb, off, c, e1, chunk_range (f := VarM.cells) (k := 5) (fun _ => rfl) hr hm⟩
  have HMR := Lib.hid hmr
  clear h h65 t67 t1 hl hT hfew to tn tx tk hwt hlimg hst trv hm n1 n2 n3 hvo hmr
  have hre : (Int.ofNat x).toNat = x := rfl
  simp only [Int.toNat_natCast]
  generalize EngM.over { e with vals := e.vals.set x (sk, sn) } true t = e2 at *
  generalize (e.cnt : Int) = c at *
  generalize optN t = tnn at *
  go_enter Tryz.func330, Tryz.ntmps330
  go_wp2_with fail
  refine (C1.out).mono ?_
  rintro en y1 ⟨rfl, hb1⟩
  have j0 : y1.cell? ⟨g, 101, none⟩ = some (.slice ta tnn tc) := (hb1.cell (p := ⟨g, 101, none⟩) hgl).trans k0
  have C2' := Lib.hid (C2.out y1 hb1)
  have HB1 := Lib.hid hb1
  clear hb1 C2 k0
  go_wp2_with fail
  refine (C2'.out).mono ?_
  rintro en y2 ⟨v', rfl, hown, hnil, hb2⟩
  obtain ⟨_, ra, rc, rfl, hr⟩ := RowAt.of_owns hown
  obtain ⟨rb, ro, rfl, hrl, hr⟩ := hr (by simp [optN])
  have hrg : rb ≠ g := by
    have h1 := (hown.lt rb rfl).1
    have h2 := HB1.out.size
    omega
  have hb12 := HB1.out.trans (hb2.mono HB1.out.size)
  have hE2 := HE.out.below hb12
  have HE2 := Lib.hid hE2
  have HB2 := Lib.hid hb12
  have hsy := hb12.size
  have hz1 := Go.heap_alloc_new y2 (.cells zeroPool 144)
  have HZ := Lib.hid hz1
  have HR := Lib.hid hr
  clear hown hnil hb2 hb12 hE2 hz1 j0 hr
  go_upto_region 6 with (first
    | (refine wpList_load_mid rfl 144 _ rfl g 0 rfl L _ HE2.out.poolRange Tryz.underlying144 rfl (info144 hL) ?_)
    | (refine wpList_store_row rfl 144 _ _ rfl y2.heap.size L.toArray rfl rfl 144 zeroPool HZ.out (info144a (by simpa using hL)) (by simp [hL, zeroPool_size]) ho1 ?_))
  refine name_w ?_
  intro W6 hW6
  have r6 : W6.heap[y2.heap.size]? = some (.cells L.toArray 144) := by rw [hW6]; exact block_setRow_same HZ.out
  have hb6 : Below w.heap.size w W6 := by rw [hW6]; exact below_setRow' (HB2.out.alloc (by omega) _) (by omega) _
  have hr6 : W6.rangeAt rb ro [.int .i64 (x : Int), .int .i64 sk, .int .i64 sn, .bool sw] := range_keep (World.rangeAt_alloc HR.out _) (by rw [hW6]; exact setRow_other _ _ _ _ (by omega))
  have l6 : y2.heap.size < W6.heap.size := block_lt r6
  have p0 : W6.cell? ⟨rb, ro, none⟩ = some (.int .i64 (x : Int)) := hr6 0 _ rfl
  have p1 : W6.cell? ⟨rb, ro + 1, none⟩ = some (.int .i64 sk) := hr6 1 _ rfl
  have p2 : W6.cell? ⟨rb, ro + 2, none⟩ = some (.int .i64 sn) := hr6 2 _ rfl
  have p3 : W6.cell? ⟨rb, ro + 3, none⟩ = some (.bool sw) := hr6 3 _ rfl
  have HE6 := Lib.hid (HE.out.below hb6)
  have R6 := Lib.hid r6
  have HB6 := Lib.hid hb6
  have HR6 := Lib.hid hr6
  clear hW6 r6 hb6 hr6
  simp only [optN]
  go_wp2_with fail
  refine wp_loop_rounds 2 ?_
  rw [rounds_succ]
  go_upto_region 9 with (fail)
  have hp10 := Go.heap_alloc_new W6 (.cells #[.int .i64 (x : Int), .int .i64 sk, .int .i64 sn, .bool sw] 155)
  have hbA : Below W6.heap.size W6 (W6.alloc (.cells #[.int .i64 (x : Int), .int .i64 sk, .int .i64 sn, .bool sw] 155)) := (Below.refl _ _).alloc (Nat.le_refl _) _
  generalize W6.alloc (.cells #[.int .i64 (x : Int), .int .i64 sk, .int .i64 sn, .bool sw] 155) = W8 at *
  have hE8 := HE6.out.below hbA
  have hb8 := HB6.out.trans (hbA.mono HB6.out.size)
  have r8 := (hbA.block _ l6).trans R6.out
  have hr8 := range_keep HR6.out (hbA.block rb (by omega))
  obtain ⟨vb, voff, vc, rfl, hm8⟩ := HMR.out W8 (Chg.of_below hb8)
  have l8 : W6.heap.size < W8.heap.size := block_lt hp10
  have s100 := hE8.store
  have x10 := cell_of_row _ _ 0 _ _ _ hp10
  have HE8 := Lib.hid hE8
  have HB8 := Lib.hid hb8
  have R8 := Lib.hid r8
  have HR8 := Lib.hid hr8
  have HM8 := Lib.hid hm8
  clear hp10 hbA p0 p1 p2 p3
  have hS0 : (fun w' : World => w'.cell? ⟨g, 100, none⟩ = some (.slice (some ⟨vb, voff, none⟩) s.length vc) ∧ w'.cell? ⟨W6.heap.size, 0, none⟩ = some (.int .i64 (x : Int)) ∧ w'.rangeAt y2.heap.size 0 L ∧ w'.rangeAt vb (voff + x * 5) m.cells) W8.drew := ⟨s100, x10, range_of_block r8, hm8⟩
  refine wp_region_held_drew (S := fun w' => w'.cell? ⟨g, 100, none⟩ = some (.slice (some ⟨vb, voff, none⟩) s.length vc) ∧ w'.cell? ⟨W6.heap.size, 0, none⟩ = some (.int .i64 (x : Int)) ∧ w'.rangeAt y2.heap.size 0 L ∧ w'.rangeAt vb (voff + x * 5) m.cells) (by kernel_rfl) hS0 (fun hHeld => ?_)
  clear hS0 r8 hm8 hE8 hb8 hr8
  have hx0 : (0 : Int) ≤ (x : Int) := by omega
  have hxs : (x : Int) < (s.length : Int) := by omega
  refine held_long 0 144 _ y2.heap.size 0 L _ rfl rfl (by kernel_rfl) (by kernel_rfl) (by kernel_rfl) (fun _ _ _ h => h) (by rfl) rfl Tryz.underlying144 rfl (info144 hL) (fun _ h => h.2.2.1) (by assumption) ?_
  simp only [Act.put, pt1, pt2, pt3]
  refine hd 1 (v := ?_) ?_ ?_
  rotate_left
  · rintro w ⟨hS1, hS2, hS3, hS4⟩; go_simp; try with_reducible rfl
  simp only [Act.put, pt1, pt2, pt3]
  refine hd 2 (v := ?_) ?_ ?_
  rotate_left
  · rintro w ⟨hS1, hS2, hS3, hS4⟩; go_simp; try with_reducible rfl
  simp only [Act.put, pt1, pt2, pt3]
  refine hd 3 (v := ?_) ?_ ?_
  rotate_left
  · rintro w ⟨hS1, hS2, hS3, hS4⟩; go_simp; try with_reducible rfl
  simp only [Act.put, pt1, pt2, pt3]
  refine hd 4 (v := ?_) ?_ ?_
  rotate_left
  · rintro w ⟨hS1, hS2, hS3, hS4⟩; go_simp; try with_reducible rfl
  simp only [Act.put, pt1, pt2, pt3]
  refine hd 5 (v := ?_) ?_ ?_
  rotate_left
  · rintro w ⟨hS1, hS2, hS3, hS4⟩; go_simp; try with_reducible rfl
  simp only [Act.put, pt1, pt2, pt3]
  refine hd 6 (v := ?_) ?_ ?_
  rotate_left
  · rintro w ⟨hS1, hS2, hS3, hS4⟩; go_simp; try with_reducible rfl
  simp only [Act.put, pt1, pt2, pt3]
  refine hd 7 (v := ?_) ?_ ?_
  rotate_left
  · rintro w ⟨hS1, hS2, hS3, hS4⟩; go_simp; try with_reducible rfl
  simp only [Act.put, pt1, pt2, pt3]
  refine hd 8 (v := ?_) ?_ ?_
  rotate_left
  · rintro w ⟨hS1, hS2, hS3, hS4⟩; go_simp; try with_reducible rfl
  simp only [Act.put, pt1, pt2, pt3]
  refine held_long 9 197 _ vb (voff + x * 5) m.cells _ rfl rfl (by kernel_rfl) (by kernel_rfl) (by kernel_rfl) (fun _ _ _ h => h) (by rfl) rfl Tryz.underlying197 rfl (by rw [VarM.len]; exact size197) (fun _ h => h.2.2.2) (by assumption) ?_
  simp only [Act.put, pt1, pt2, pt3]
  have C4' := Lib.hid (C4.out W8.drew HB8.out.drew)
  refine hcl 10 (fun K' hK => ?_)
  go_simp
  go_at_call 339
  refine (C4'.out).mono ?_
  rintro en y9 ⟨rfl, hb9⟩
  have hb89 := HB8.out.drew.trans (hb9.mono HB8.out.drew.size)
  have hE9 := HE.out.below hb89
  have r9 := (hb9.block _ (block_lt R8.out)).trans R8.out
  have hr9 := range_keep HR8.out (hb9.block rb (by show rb < W8.heap.size; omega))
  have hS9 : (fun w' : World => w'.cell? ⟨g, 100, none⟩ = some (.slice (some ⟨vb, voff, none⟩) s.length vc) ∧ w'.cell? ⟨W6.heap.size, 0, none⟩ = some (.int .i64 (x : Int)) ∧ w'.rangeAt y2.heap.size 0 L ∧ w'.rangeAt vb (voff + x * 5) m.cells) y9 := by
    refine ⟨hE9.store, (hb9.cell (p := ⟨W6.heap.size, 0, none⟩) l8).trans x10, range_of_block r9, ?_⟩
    obtain ⟨vb', voff', vc', e1, hm9⟩ := HMR.out y9 (Chg.of_below hb89)
    cases e1
    exact hm9
  have HB9 := Lib.hid hb89
  have HE9 := Lib.hid hE9
  have R9 := Lib.hid r9
  have HR9 := Lib.hid hr9
  clear hb89 hE9 r9 hr9 hb9
  go_wp2_with fail
  refine hK.out _ _ ?_ (fun hHeld => ?_)
  · exact hS9
  clear hK K'
  try simp only [Act.put, pt1, pt2, pt3]
  refine hd 11 (v := ?_) ?_ ?_
  rotate_left
  · rintro w ⟨hS1, hS2, hS3, hS4⟩; go_simp; try with_reducible rfl
  simp only [Act.put, pt1, pt2, pt3]
  refine hd 12 (v := ?_) ?_ ?_
  rotate_left
  · rintro w ⟨hS1, hS2, hS3, hS4⟩; go_simp; try with_reducible rfl
  simp only [Act.put, pt1, pt2, pt3]
  refine hd 13 (v := ?_) ?_ ?_
  rotate_left
  · rintro w ⟨hS1, hS2, hS3, hS4⟩; go_simp; try with_reducible rfl
  simp only [Act.put, pt1, pt2, pt3]
  have hS10 : (fun w' : World => w'.cell? ⟨g, 100, none⟩ = some (.slice (some ⟨vb, voff, none⟩) s.length vc) ∧ w'.cell? ⟨W6.heap.size, 0, none⟩ = some (.int .i64 (x : Int)) ∧ w'.rangeAt y2.heap.size 0 L ∧ w'.rangeAt vb (voff + x * 5) m.cells) (y9.setRow y2.heap.size L.toArray) := ⟨(World.cell?_of_block (a := ⟨g, 100, none⟩) (setRow_same_all R9.out _)).trans hS9.1, (World.cell?_of_block (a := ⟨W6.heap.size, 0, none⟩) (setRow_same_all R9.out _)).trans hS9.2.1, range_keep hS9.2.2.1 (setRow_same_all R9.out _), range_keep hS9.2.2.2 (setRow_same_all R9.out _)⟩
  refine held_store 14 144 _ _ y2.heap.size L.toArray L.toArray 144 rfl rfl (by kernel_rfl) (by rfl) rfl rfl R9.out (info144a (by simpa using hL)) rfl ho1 hS10 ?_
  have hb10 : Below w.heap.size w (y9.setRow y2.heap.size L.toArray) := below_setRow' HB9.out (by omega) _
  have r10 := (setRow_same_all R9.out y2.heap.size).trans R9.out
  have hr10 := range_keep HR9.out (setRow_same_all R9.out rb)
  clear hS9
  generalize y9.setRow y2.heap.size L.toArray = W10 at *
  have HE10 := Lib.hid (HE.out.below hb10)
  have HB10 := Lib.hid hb10
  have R10 := Lib.hid r10
  have HR10 := Lib.hid hr10
  clear hb10 r10 hr10 hHeld
  simp only [Act.put]
  refine hd 15 (v := ?_) ?_ ?_
  rotate_left
  · rintro w ⟨hS1, hS2, hS3, hS4⟩; go_simp; try with_reducible rfl
  simp only [Act.put, pt1, pt2, pt3]
  refine held_done (by kernel_rfl) ?_
  clear hHeld
  go_wp2_with fail
  rw [rounds_succ]
  go_upto_region 15 with (first
    | (refine wpList_load_row rfl 144 _ rfl y2.heap.size rfl 144 L.toArray (0, 0) _ R10.out Tryz.underlying144 rfl (info144a (by simpa using hL)) ?_)
    | (refine wpList_store_mid rfl 144 _ _ rfl g 0 L.toArray rfl rfl (fun j hj => ⟨?t1, ?t2⟩) (info144a (by simpa using hL)) ho1 ?_))
  case t1 => exact HE10.out.poolRange.isSome j (by simp at hj; omega)
  case t2 => exact HE10.out.frozen _
  try rw [List.toList_toArray]
  have hE11 : EngAt (W10.setCells g 0 L) g L (.slice (some ⟨vb, voff, none⟩) s.length vc) K lg ct := HE10.out.setPool L hL
  have hc11 : Chg (fun b => b = g) w (W10.setCells g 0 L) := Chg.setCells (F := fun b => b = g) g (.inl rfl) L 0 _ (Chg.of_below HB10.out)
  have hr11 := range_keep HR10.out (setCells_other g L 0 W10 rb hrg)
  generalize W10.setCells g 0 L = W11 at *
  have q166 := hE11.count
  have f166 := hE11.frozen 166
  have hE12 : EngAt (W11.setCell ⟨g, 166, none⟩ (.int .i64 (wrap64 (ct + 1)))) g L (.slice (some ⟨vb, voff, none⟩) s.length vc) K lg (wrap64 (ct + 1)) := hE11.setCount _
  have hc12 : Chg (fun b => b = g) w (W11.setCell ⟨g, 166, none⟩ (.int .i64 (wrap64 (ct + 1)))) := hc11.setCell (p := ⟨g, 166, none⟩) (.inl rfl) _
  have hr12 : (W11.setCell ⟨g, 166, none⟩ (.int .i64 (wrap64 (ct + 1)))).rangeAt rb ro [.int .i64 (x : Int), .int .i64 sk, .int .i64 sn, .bool sw] := range_keep hr11 (heap_setCell_other _ _ _ _ hrg)
  have l11 := hc11.size
  have HF12 := Lib.hid (And.intro hE12 (And.intro hc12 hr12))
  clear hE11 hc11 hE12 hc12 hr11 hr12
  go_upto_region 16 with (fail)
  generalize W11.setCell ⟨g, 166, none⟩ (.int .i64 (wrap64 (ct + 1))) = W12 at *
  have hr12 := HF12.out.2.2
  have p0 : W12.cell? ⟨rb, ro, none⟩ = some (.int .i64 (x : Int)) := hr12 0 _ rfl
  have p1 : W12.cell? ⟨rb, ro + 1, none⟩ = some (.int .i64 sk) := hr12 1 _ rfl
  have p2 : W12.cell? ⟨rb, ro + 2, none⟩ = some (.int .i64 sn) := hr12 2 _ rfl
  have p3 : W12.cell? ⟨rb, ro + 3, none⟩ = some (.bool sw) := hr12 3 _ rfl
  have hlr : rb < W12.heap.size := block_lt_of_cell p0
  clear hr12
  clear q166 f166
  go_wp2_with fail
  refine wp_loop_rounds 2 ?_
  rw [rounds_succ]
  go_upto_region 19 with (fail)
  have hpA := Go.heap_alloc_new W12 (.cells #[.int .i64 (x : Int), .int .i64 sk, .int .i64 sn, .bool sw] 155)
  have hbA : Below W12.heap.size W12 (W12.alloc (.cells #[.int .i64 (x : Int), .int .i64 sk, .int .i64 sn, .bool sw] 155)) := (Below.refl _ _).alloc (Nat.le_refl _) _
  generalize W12.alloc (.cells #[.int .i64 (x : Int), .int .i64 sk, .int .i64 sn, .bool sw] 155) = W13 at *
  have hE13 := HF12.out.1.below hbA
  have hc13 := HF12.out.2.1.below hbA HF12.out.2.1.size
  have s100 := hE13.store
  have s166 := hE13.count
  have f100 := hE13.frozen 100
  have a0 := cell_of_row _ _ 0 _ _ _ hpA
  have a1 := cell_of_row _ _ 1 _ _ _ hpA
  have a2 := cell_of_row _ _ 2 _ _ _ hpA
  have HE13 := Lib.hid hE13
  have HC13 := Lib.hid hc13
  have HPA := Lib.hid hpA
  have l13 : W12.heap.size < W13.heap.size := block_lt hpA
  have gl12 : g < W12.heap.size := HF12.out.1.lt
  clear hpA hbA hE13 hc13 p0 p1 p2 p3
  have hS0 : (fun w' : World => w'.cell? ⟨W12.heap.size, 0, none⟩ = some (.int .i64 (x : Int)) ∧ w'.cell? ⟨W12.heap.size, 1, none⟩ = some (.int .i64 sk) ∧ w'.cell? ⟨W12.heap.size, 2, none⟩ = some (.int .i64 sn) ∧ w'.cell? ⟨g, 166, none⟩ = some (.int .i64 (wrap64 (ct + 1)))) W13.drew := ⟨a0, a1, a2, s166⟩
  refine wp_region_held_drew (S := fun w' => w'.cell? ⟨W12.heap.size, 0, none⟩ = some (.int .i64 (x : Int)) ∧ w'.cell? ⟨W12.heap.size, 1, none⟩ = some (.int .i64 sk) ∧ w'.cell? ⟨W12.heap.size, 2, none⟩ = some (.int .i64 sn) ∧ w'.cell? ⟨g, 166, none⟩ = some (.int .i64 (wrap64 (ct + 1)))) (by kernel_rfl) hS0 (fun hHeld => ?_)
  clear hS0
  refine hd 0 (v := ?_) ?_ ?_
  rotate_left
  · rintro w ⟨hS1, hS2, hS3, hS4⟩; go_simp; try with_reducible rfl
  simp only [Act.put, pt1, pt2, pt3]
  refine hd 1 (v := ?_) ?_ ?_
  rotate_left
  · rintro w ⟨hS1, hS2, hS3, hS4⟩; go_simp; try with_reducible rfl
  simp only [Act.put, pt1, pt2, pt3]
  refine hd 2 (v := ?_) ?_ ?_
  rotate_left
  · rintro w ⟨hS1, hS2, hS3, hS4⟩; go_simp; try with_reducible rfl
  simp only [Act.put, pt1, pt2, pt3]
  refine hd 3 (v := ?_) ?_ ?_
  rotate_left
  · rintro w ⟨hS1, hS2, hS3, hS4⟩; go_simp; try with_reducible rfl
  simp only [Act.put, pt1, pt2, pt3]
  refine hd 5 (v := ?_) ?_ ?_
  rotate_left
  · rintro w ⟨hS1, hS2, hS3, hS4⟩; go_simp; try with_reducible rfl
  simp only [Act.put, pt1, pt2, pt3]
  refine hd 6 (v := ?_) ?_ ?_
  rotate_left
  · rintro w ⟨hS1, hS2, hS3, hS4⟩; go_simp; try with_reducible rfl
  simp only [Act.put, pt1, pt2, pt3]
  refine hd 7 (v := ?_) ?_ ?_
  rotate_left
  · rintro w ⟨hS1, hS2, hS3, hS4⟩; go_simp; try with_reducible rfl
  simp only [Act.put, pt1, pt2, pt3]
  refine hd 8 (v := ?_) ?_ ?_
  rotate_left
  · rintro w ⟨hS1, hS2, hS3, hS4⟩; go_simp; try with_reducible rfl
  simp only [Act.put, pt1, pt2, pt3]
  refine hd 9 (v := ?_) ?_ ?_
  rotate_left
  · rintro w ⟨hS1, hS2, hS3, hS4⟩; go_simp; try with_reducible rfl
  simp only [Act.put, pt1, pt2, pt3]
  refine hd 10 (v := ?_) ?_ ?_
  rotate_left
  · rintro w ⟨hS1, hS2, hS3, hS4⟩; go_simp; try with_reducible rfl
  simp only [Act.put, pt1, pt2, pt3]
  refine hd 11 (v := ?_) ?_ ?_
  rotate_left
  · rintro w ⟨hS1, hS2, hS3, hS4⟩; go_simp; try with_reducible rfl
  simp only [Act.put, pt1, pt2, pt3]
  refine hd 12 (v := ?_) ?_ ?_
  rotate_left
  · rintro w ⟨hS1, hS2, hS3, hS4⟩; go_simp; try with_reducible rfl
  simp only [Act.put, pt1, pt2, pt3]
  refine hd 13 (v := ?_) ?_ ?_
  rotate_left
  · rintro w ⟨hS1, hS2, hS3, hS4⟩; go_simp; try with_reducible rfl
  simp only [Act.put, pt1, pt2, pt3]
  have s100' : W13.drew.cell? ⟨g, 100, none⟩ = some (.slice (some ⟨vb, voff, none⟩) s.length vc) := s100
  refine hcl 4 (fun K' hK => ?_)
  go_simp
  refine hK.out _ _ ?_ (fun hHeld => ?_)
  · assumption
  clear hK K'
  try simp only [Act.put, pt1, pt2, pt3]
  have C5' := Lib.hid (C5.out W13.drew HC13.out.drew (wrap64 (ct + 1)))
  refine hcl 14 (fun K' hK => ?_)
  go_simp
  go_at_call 320
  refine (C5'.out).mono ?_
  rintro en y14 ⟨v2, rfl, hown2, hb14⟩
  obtain ⟨_, ua, uc, rfl, _⟩ := RowAt.of_owns hown2
  have hE14 := HE13.out.keep (w' := W13.drew) rfl |>.below hb14
  have hc14 := HC13.out.drew.below hb14 HC13.out.drew.size
  have t0 : y14.cell? ⟨W12.heap.size, 0, none⟩ = some (.int .i64 (x : Int)) := (hb14.cell (p := ⟨W12.heap.size, 0, none⟩) l13).trans a0
  have t1 : y14.cell? ⟨W12.heap.size, 1, none⟩ = some (.int .i64 sk) := (hb14.cell (p := ⟨W12.heap.size, 1, none⟩) l13).trans a1
  have t2 : y14.cell? ⟨W12.heap.size, 2, none⟩ = some (.int .i64 sn) := (hb14.cell (p := ⟨W12.heap.size, 2, none⟩) l13).trans a2
  have t3 := hE14.count
  have u100 := hE14.store
  have g100 := hE14.frozen 100
  have HE14 := Lib.hid hE14
  have HC14 := Lib.hid hc14
  have HO14 := Lib.hid (owns_mono hown2 (show B ≤ _ by have := HC13.out.size; simp; omega))
  clear hE14 hc14 hown2 hb14 C5' C5
  go_wp2_with fail
  refine hK.out _ _ ?_ (fun hHeld => ?_)
  · exact ⟨t0, t1, t2, t3⟩
  clear hK K'
  try simp only [Act.put, pt1, pt2, pt3]
  refine hd 15 (v := ?_) ?_ ?_
  rotate_left
  · rintro w ⟨hS1, hS2, hS3, hS4⟩; go_simp; try with_reducible rfl
  simp only [Act.put, pt1, pt2, pt3]
  refine hd 16 (v := ?_) ?_ ?_
  rotate_left
  · rintro w ⟨hS1, hS2, hS3, hS4⟩; go_simp; try with_reducible rfl
  simp only [Act.put, pt1, pt2, pt3]
  refine hd 17 (v := ?_) ?_ ?_
  rotate_left
  · rintro w ⟨hS1, hS2, hS3, hS4⟩; go_simp; try with_reducible rfl
  simp only [Act.put, pt1, pt2, pt3]
  refine hd 18 (v := ?_) ?_ ?_
  rotate_left
  · rintro w ⟨hS1, hS2, hS3, hS4⟩; go_simp; try with_reducible rfl
  simp only [Act.put, pt1, pt2, pt3]
  refine hd 19 (v := ?_) ?_ ?_
  rotate_left
  · rintro w ⟨hS1, hS2, hS3, hS4⟩; go_simp; try with_reducible rfl
  simp only [Act.put, pt1, pt2, pt3]
  refine hcl 20 (fun K' hK => ?_)
  go_simp
  have hE15 : EngAt (y14.setCell ⟨g, 100, none⟩ (.slice ua s.length uc)) g L (.slice ua s.length uc) K lg (wrap64 (ct + 1)) := HE14.out.setStore _
  have hc15 : Chg (fun b => b = g) w (y14.setCell ⟨g, 100, none⟩ (.slice ua s.length uc)) := HC14.out.setCell (p := ⟨g, 100, none⟩) (.inl rfl) _
  have ho15 := ownsRow_setCell_other HO14.out (a := ⟨g, 100, none⟩) (owns_type HO14.out HE14.out.at0 (by decide)) (.slice ua s.length uc)
  have C3' := Lib.hid (C3.out _ hc15 _ _ _ hE15 ho15)
  have HL15 := Lib.hid (HLG.out _ hc15)
  refine hK.out _ _ ?_ (fun hHeld => ?_)
  · exact ⟨(World.cell?_setCell_far _ _ _ _ (by simp; omega)).trans t0, (World.cell?_setCell_far _ _ _ _ (by simp; omega)).trans t1, (World.cell?_setCell_far _ _ _ _ (by simp; omega)).trans t2, hE15.count⟩
  clear hE15 hc15 ho15 C3
  clear hK K'
  try simp only [Act.put, pt1, pt2, pt3]
  refine held_done (by kernel_rfl) ?_
  clear hHeld
  go_wp2_with fail
  rw [rounds_succ]
  go_wp2_with fail
  refine (C3'.out).mono ?_
  rintro en y16 ⟨rfl, p1, p2⟩
  have HF := Lib.hid (And.intro p1 (HL15.out.trans p2))
  clear p1 p2
  go_wp2_with fail
  go_ret
  exact ⟨rfl, HF.out.1, HF.out.2⟩
end Go.Proofs.YteflpdhgojcmcaaGreatDoor
namespace Go.Proofs.YteflpdhgojcmcaaGreatDoor
open Go.RowKit PSet PMat
/-- An engine: the clock's, or the graph's. -/
def EngS (kd : Bool) (B : Nat) (w : World) (g : Nat) (e : EngM) : Prop := match kd with | true => ClS B w g e | false => GrS B w g e
/-- The types of the blocks that an engine changes. -/
def ET (t : Nat) : Bool := GT t || CT t
theorem EngS.lim {kd : Bool} {E : Nat → Bool} {B B' : Nat} {w w' : World} {g : Nat} {e : EngM} (h : EngS kd B w g e) (hc : Lim E B' w w') (hE : ∀ t ∈ [151, 42, 155, 197, 126, 129, 136], E t = false) : EngS kd B w' g e := by
  cases kd with
  | true => exact ClS.lim h hc (hE _ (by simp)) (hE _ (by simp)) (hE _ (by simp)) (hE _ (by simp)) (hE _ (by simp))
  | false => exact GrS.lim h hc (hE _ (by simp)) (hE _ (by simp)) (hE _ (by simp)) (hE _ (by simp))
theorem gt_et {B : Nat} {a b : World} (h : Lim GT B a b) : Lim ET B a b := h.mono fun t ht => by simp [ET, ht]
theorem ct_et {B : Nat} {a b : World} (h : Lim CT B a b) : Lim ET B a b := h.mono fun t ht => by simp [ET, ht]
def engT : Bool → Nat | true => 98 | false => 101
def fBegin : Bool → Nat | true => 310 | false => 329
def fRead : Bool → Nat | true => 313 | false => 331
def fWrite : Bool → Nat | true => 316 | false => 334
def fCommit : Bool → Nat | true => 312 | false => 330
def fAbort : Bool → Nat | true => 308 | false => 327
def fValues : Bool → Nat | true => 315 | false => 333
/-- A commit's work on the model. -/
def EngM.commit (e : EngM) (t : Option StepM) : EngM := EngM.over { e with vals := putM (writesM t) e.vals } true t
def EngM.begun (e : EngM) : EngM := { e with live := some none, cnt := e.cnt + 1 }
def EngM.step (e : EngM) (s : StepM) : EngM := { e with live := some (some s) }
theorem enBegin (kd : Bool) (B : Nat) (w : World) (g : Nat) (e : EngM) (h : EngS kd B w g e) (hB : B ≤ w.heap.size) (hl : e.live = none) (hc : e.cnt < 100000) (hT : Tab w) :
    Calls Tryz.prog (fBegin kd) #[.pointer (some ⟨g, 0, none⟩)] w fun en w' => en = .returned (.tuple #[.int .i64 ((e.cnt + 1 : Nat) : Int), .int .i64 0]) ∧ EngS kd B w' g e.begun ∧ Lim ET B w w' := by
  cases kd with
  | true => exact (csBegin B w g e h hB hl hc).mono fun en w' h => ⟨h.1, h.2.1, ct_et h.2.2⟩
  | false => exact (gsBegin B w g e h hl hc hT).mono fun en w' h => ⟨h.1, h.2.1, gt_et h.2.2⟩
theorem enValues (kd : Bool) (B : Nat) (w : World) (g : Nat) (e : EngM) (h : EngS kd B w g e) :
    Calls Tryz.prog (fValues kd) #[.pointer (some ⟨g, 0, none⟩)] w fun en w' => ∃ v', en = .returned v' ∧ w'.ownsRow w.heap.size 53 2 v' e.vals.length (regsC e.vals) ∧ Below w.heap.size w w' := by
  cases kd with
  | true => exact csValues B w g e h
  | false => exact gsValues B w g e h
theorem enRead (kd : Bool) (B : Nat) (w : World) (g : Nat) (e : EngM) (x : Nat) (k n : Int) (h : EngS kd B w g e) (hB : B ≤ w.heap.size) (hl : e.live = some none) (hx : e.vals[x]? = some (k, n)) (hT : Tab w) :
    Calls Tryz.prog (fRead kd) #[.pointer (some ⟨g, 0, none⟩), .int .i64 (e.cnt : Int), .int .i64 (x : Int)] w fun en w' => en = .returned (.tuple #[.agg #[.int .i64 k, .int .i64 n], .int .i64 0]) ∧ EngS kd B w' g (e.step ⟨x, k, n, false⟩) ∧ Lim ET B w w' := by
  cases kd with
  | true => exact (csRead B w g e x k n h hB hl hx).mono fun en w' h => ⟨h.1, h.2.1, ct_et h.2.2⟩
  | false => exact (gsRead B w g e x k n h hB hl hx hT).mono fun en w' h => ⟨h.1, h.2.1, gt_et h.2.2⟩
theorem enWrite (kd : Bool) (B : Nat) (w : World) (g : Nat) (e : EngM) (x : Nat) (k n : Int) (h : EngS kd B w g e) (hB : B ≤ w.heap.size) (hl : e.live = some none) (hx : x < e.vals.length) (hv : rightV k n = true) (hT : Tab w) :
    Calls Tryz.prog (fWrite kd) #[.pointer (some ⟨g, 0, none⟩), .int .i64 (e.cnt : Int), .int .i64 (x : Int), .agg #[.int .i64 k, .int .i64 n]] w fun en w' => en = .returned (.int .i64 0) ∧ EngS kd B w' g (e.step ⟨x, k, n, true⟩) ∧ Lim ET B w w' := by
  cases kd with
  | true => exact (csWrite B w g e x k n h hB hl hx hv).mono fun en w' h => ⟨h.1, h.2.1, ct_et h.2.2⟩
  | false => exact (gsWrite B w g e x k n h hB hl hx hv hT).mono fun en w' h => ⟨h.1, h.2.1, gt_et h.2.2⟩
theorem enAbort (kd : Bool) (B : Nat) (w : World) (g : Nat) (e : EngM) (t : Option StepM) (h : EngS kd B w g e) (hB : B ≤ w.heap.size) (hB0 : 0 < B) (hl : e.live = some t) (hfew : e.log.length < 100000) (hT : Tab w) :
    Calls Tryz.prog (fAbort kd) #[.pointer (some ⟨g, 0, none⟩), .int .i64 (e.cnt : Int)] w fun en w' => en = .returned (.int .i64 0) ∧ EngS kd B w' g (e.over false t) ∧ Lim ET B w w' := by
  cases kd with
  | true => exact (csAbort B w g e t h hl).mono fun en w' h => ⟨h.1, h.2.1, ct_et h.2.2⟩
  | false => exact (gsAbort B w g e t h hB hB0 hl hfew hT).mono fun en w' h => ⟨h.1, h.2.1, gt_et h.2.2⟩
theorem enCommit (kd : Bool) (B : Nat) (w : World) (g : Nat) (e : EngM) (t : Option StepM) (h : EngS kd B w g e) (hB : B ≤ w.heap.size) (hB0 : 0 < B) (hl : e.live = some t) (hfew : e.log.length < 100000) (hT : Tab w) :
    Calls Tryz.prog (fCommit kd) #[.pointer (some ⟨g, 0, none⟩), .int .i64 (e.cnt : Int)] w fun en w' => en = .returned (.int .i64 0) ∧ EngS kd B w' g (e.commit t) ∧ Lim ET B w w' := by
  unfold EngM.commit
  cases hwt : writesM t with
  | none =>
    cases kd with
    | true => exact (csCommit_none B w g e t h hl hwt).mono fun en w' h => ⟨h.1, h.2.1, ct_et h.2.2⟩
    | false => exact (gsCommit_none B w g e t h hB hB0 hl hwt hfew hT).mono fun en w' h => ⟨h.1, h.2.1, gt_et h.2.2⟩
  | some st =>
    cases kd with
    | true => exact (csCommit_some B w g e t st h hB hl hwt).mono fun en w' h => ⟨h.1, h.2.1, ct_et h.2.2⟩
    | false => exact (gsCommit_some B w g e t st h hB hB0 hl hwt hfew hT).mono fun en w' h => ⟨h.1, h.2.1, gt_et h.2.2⟩
end Go.Proofs.YteflpdhgojcmcaaGreatDoor
namespace Go.Proofs.YteflpdhgojcmcaaGreatDoor
open Go.RowKit PSet PMat
/-- Something that happened: its kind, its transaction, its variable, its value. -/
structure EvM where
  kind : Int
  id : Int
  x : Int
  k : Int
  n : Int
def EvM.cells (v : EvM) : List Value := [.int .i64 v.kind, .int .i64 v.id, .int .i64 v.x, .int .i64 v.k, .int .i64 v.n]
def evsC (l : List EvM) : List Value := l.flatMap EvM.cells
theorem evsC_push (l : List EvM) (v : EvM) : evsC (l ++ [v]) = evsC l ++ v.cells := by simp [evsC]
/-- The types of the blocks that a recorder changes by itself; with its engine. -/
def KT (t : Nat) : Bool := t == 128 || t == 193
def RT (t : Nat) : Bool := ET t || KT t
structure RecI (kd : Bool) (B : Nat) (w : World) (r g : Nat) (hv : Value) (e : EngM) (evs : List EvM) : Prop where
  rec_ : w.heap[r]? = some (.cells #[.iface (engT kd) (.pointer (some ⟨g, 0, none⟩)), hv] 128 (0, 0))
  base : B ≤ r
  eng : EngS kd B w g e
  row : w.ownsRow B 193 5 hv evs.length (evsC evs)
  few : evs.length ≤ 90000
/-- Which engine, and its block. -/
structure Kd where
  b : Bool
  g : Nat
def RecS (kd : Kd) (B : Nat) (w : World) (r : Nat) (e : EngM) (evs : List EvM) : Prop := ∃ hv, RecI kd.b B w r kd.g hv e evs
theorem RecI.lim {kd : Bool} {E : Nat → Bool} {B B' : Nat} {w w' : World} {r g : Nat} {hv : Value} {e : EngM} {evs : List EvM} (h : RecI kd B w r g hv e evs) (hc : Lim E B' w w') (hE : ∀ t ∈ [151, 42, 155, 197, 126, 129, 136, 128, 193], E t = false) : RecI kd B w' r g hv e evs where
  rec_ := block_lim h.rec_ hc (hE _ (by simp))
  base := h.base
  eng := h.eng.lim hc (fun t ht => hE t (by simp at ht ⊢; omega))
  row := owns_lim h.row hc (hE _ (by simp))
  few := h.few
theorem RecS.lim {kd : Kd} {E : Nat → Bool} {B B' : Nat} {w w' : World} {r : Nat} {e : EngM} {evs : List EvM} (h : RecS kd B w r e evs) (hc : Lim E B' w w') (hE : ∀ t ∈ [151, 42, 155, 197, 126, 129, 136, 128, 193], E t = false) : RecS kd B w' r e evs := by
  obtain ⟨hv, h⟩ := h
  exact ⟨hv, h.lim hc hE⟩
/-- keep, in the words of the model. -/
theorem keepM (kd : Bool) (B : Nat) (w : World) (r g : Nat) (hv : Value) (e : EngM) (evs : List EvM) (v : EvM) (h : RecI kd B w r g hv e evs) (hB : B ≤ w.heap.size) (hf : evs.length < 90000) :
    Calls Tryz.prog 307 #[.pointer (some ⟨r, 0, none⟩), .agg v.cells.toArray, .int .i64 0] w fun en w' => en = .returned (.tuple #[]) ∧ RecS ⟨kd, g⟩ B w' r e (evs ++ [v]) ∧ Lim RT B w w' := by
  refine (reKeep B r evs.length hv (evsC evs) v.kind v.id v.x v.k v.n w _ h.rec_ h.row (by omega) hB).mono ?_
  rintro en w' ⟨rfl, hv', h1, h2, h3⟩
  have hlim : Lim KT B w w' := Chg.weak (F := fun b => b = r ∨ hv.ownBlock = some b) (G := InT KT B w) h3 fun i hi => .inl (by
    rcases hi with rfl | hi
    · exact ⟨h.base, _, _, _, h.rec_, rfl⟩
    · obtain ⟨_, h2⟩ := h.row
      rcases h2 with ⟨e, _⟩ | ⟨b, cap, cur, e1, hb, hg, rest⟩
      · rw [e] at hi; cases hi
      · rw [e1] at hi
        simp only [Value.ownBlock, Option.some.injEq] at hi
        subst hi
        exact ⟨hb, _, _, _, hg, rfl⟩)
  refine ⟨rfl, ⟨hv', h1, h.base, h.eng.lim hlim (by decide), ?_, by simp; omega⟩, hlim.mono fun t ht => by simp [RT, ht]⟩
  rw [evsC_push, List.length_append]
  exact h2
theorem et_rt {B : Nat} {a b : World} (h : Lim ET B a b) : Lim RT B a b := h.mono fun t ht => by simp [RT, ht]
theorem rec_eng {kd : Bool} {B : Nat} {w w' : World} {r g : Nat} {hv : Value} {e e' : EngM} {evs : List EvM} (h : RecI kd B w r g hv e evs) (he : EngS kd B w' g e') (hc : Lim ET B w w') : RecI kd B w' r g hv e' evs where
  rec_ := block_lim h.rec_ hc rfl
  base := h.base
  eng := he
  row := owns_lim h.row hc rfl
  few := h.few
theorem rec_cell {kd : Bool} {B : Nat} {w : World} {r g : Nat} {hv : Value} {e : EngM} {evs : List EvM} (h : RecI kd B w r g hv e evs) : w.cell? ⟨r, 0, none⟩ = some (.iface (engT kd) (.pointer (some ⟨g, 0, none⟩))) := cell_of_row _ _ 0 _ _ _ h.rec_
set_option maxRecDepth 100000 in
theorem rmBegin (kd : Kd) (B : Nat) (w : World) (r : Nat) (e : EngM) (evs : List EvM) (h : RecS kd B w r e evs) (hB : B ≤ w.heap.size) (hf : evs.length < 90000) (hl : e.live = none) (hc : e.cnt < 100000) (hT : Tab w) :
    Calls Tryz.prog 301 #[.pointer (some ⟨r, 0, none⟩)] w fun en w' => en = .returned (.tuple #[.int .i64 ((e.cnt + 1 : Nat) : Int), .int .i64 0]) ∧ RecS kd B w' r e.begun (evs ++ [⟨0, ((e.cnt + 1 : Nat) : Int), 0, 0, 0⟩]) ∧ Lim RT B w w' := by
  obtain ⟨kd, g⟩ := kd
  obtain ⟨hv, h⟩ := h
  have h : RecI kd B w r g hv e evs := h
  have h0 := rec_cell h
  have C1 := Lib.hid (reGood r (engT kd) _ w h0)
  have C2 := Lib.hid (enBegin kd B w g e h.eng hB hl hc hT)
  have HH := Lib.hid h
  have C3 := Lib.hid (fun (W : World) (hE : EngS kd B W g e.begun) (hl : Lim ET B w W) => keepM kd B W r g hv e.begun evs ⟨0, ((e.cnt + 1 : Nat) : Int), 0, 0, 0⟩ (rec_eng HH.out hE hl) (Nat.le_trans hB hl.size) hf)
  clear h hl hT hc
  generalize e.begun = e2 at *
  generalize ((e.cnt + 1 : Nat) : Int) = c at *
  cases kd
  all_goals
    simp only [engT, fBegin] at h0 C1 C2
    go_enter Tryz.func301, Tryz.ntmps301
    go_wp2_with fail
    refine (C1.out).mono ?_
    rintro en y ⟨rfl, rfl⟩
    go_wp2_with fail
    refine (C2.out).mono ?_
    rintro en y ⟨rfl, hE, hli⟩
    have C3' := Lib.hid (C3.out y hE hli)
    have HL := Lib.hid hli
    clear hE hli
    simp only [EvM.cells] at C3'
    go_wp2_with fail
    refine (C3'.out).mono ?_
    rintro en y2 ⟨rfl, p1, p2⟩
    have HF := Lib.hid (And.intro p1 ((et_rt HL.out).trans p2))
    clear p1 p2
    go_wp2_with fail
    go_ret2
    exact ⟨rfl, HF.out.1, HF.out.2⟩
end Go.Proofs.YteflpdhgojcmcaaGreatDoor
