/- The walks of the document's Reach and Free (package ref03). -/
import Derived.Test.YtkgfepnkikcpiaaDoorN4
namespace Go.Proofs.YtkgfepnkikcpiaaDoor
open Go.RowKit
open PSet PMat PWay

/-- Where Reach stands: the graph, the two arrays. -/
structure RAt (w X : World) (m : List Nat) (gi gh : Nat) (li lh : List Bool) : Prop where
  m : Nums X w.heap.size 41 m
  i : Bools X gi 65 li
  h : Bools X gh 65 lh
  b : Below w.heap.size w X
  lo : w.heap.size < gi
  lt : gi < gh
theorem RAt.to {w X Y : World} {m : List Nat} {gi gh : Nat} {li lh : List Bool} (k : RAt w X m gi gh li lh) (hb : Below X.heap.size X Y) : RAt w Y m gi gh li lh :=
  ⟨k.m.below hb k.m.lt, k.i.below hb k.i.lt, k.h.below hb k.h.lt, k.b.trans (hb.mono k.b.size), k.lo, k.lt⟩
theorem RAt.setH {w X : World} {m : List Nat} {gi gh : Nat} {li lh : List Bool} (k : RAt w X m gi gh li lh) (j : Nat) (b : Bool) : RAt w (X.setCell ⟨gh, j, none⟩ (.bool b)) m gi gh li (lh.set j b) :=
  ⟨k.m.of_block (heap_setCell_other _ _ _ _ (by have := k.lo; have := k.lt; simp; omega)), k.i.of_block (heap_setCell_other _ _ _ _ (by have := k.lt; simp; omega)), k.h.set j b, k.b.setCell (p := ⟨gh, j, none⟩) (by have := k.lo; have := k.lt; simp; omega) _, k.lo, k.lt⟩
theorem RAt.setI {w X : World} {m : List Nat} {gi gh : Nat} {li lh : List Bool} (k : RAt w X m gi gh li lh) (j : Nat) (b : Bool) : RAt w (X.setCell ⟨gi, j, none⟩ (.bool b)) m gi gh (li.set j b) lh :=
  ⟨k.m.of_block (heap_setCell_other _ _ _ _ (by have := k.lo; simp; omega)), k.i.set j b, k.h.of_block (heap_setCell_other _ _ _ _ (by have := k.lt; simp; omega)), k.b.setCell (p := ⟨gi, j, none⟩) (by have := k.lo; simp; omega) _, k.lo, k.lt⟩
theorem RAt.start {w W : World} {m : List Nat} (hm : Nums W w.heap.size 41 m) (hb : Below w.heap.size w W) (l : List Bool) (z : Array Value) :
    RAt w (((W.alloc (.cells z 65)).setRow W.heap.size (boolsV l)).alloc (.cells (boolsV (bitsL 0)) 65)) m W.heap.size (W.heap.size + 1) l (bitsL 0) := by
  have h1 := below_bools W (boolsV l) z
  have h2 : Below ((W.alloc (.cells z 65)).setRow W.heap.size (boolsV l)).heap.size ((W.alloc (.cells z 65)).setRow W.heap.size (boolsV l)) (((W.alloc (.cells z 65)).setRow W.heap.size (boolsV l)).alloc (.cells (boolsV (bitsL 0)) 65)) := (Below.refl _ _).alloc (Nat.le_refl _) _
  have hs : ((W.alloc (.cells z 65)).setRow W.heap.size (boolsV l)).heap.size = W.heap.size + 1 := by simp
  have b1 : Bools ((W.alloc (.cells z 65)).setRow W.heap.size (boolsV l)) W.heap.size 65 l := bools_stored l z W
  have h3 := h1.trans (h2.mono h1.size)
  refine ⟨hm.below h3 hm.lt, b1.below h2 b1.lt, ?_, hb.trans (h3.mono hb.size), hm.lt, Nat.lt_succ_self _⟩
  rw [← hs]
  exact heap_alloc_new _ _

/-- How far Reach may still go. -/
noncomputable def roomIn (X : World) (g : Nat) (v : Value) : Nat := 2 * (2 ^ 64 - setIn X g) + (match v with | .bool true => 1 | _ => 0)
theorem room_yes {X : World} {g H : Nat} (h : setIn X g = H) : roomIn X g (.bool true) = 2 * (2 ^ 64 - H) + 1 := by unfold roomIn; rw [h]
theorem room_no {X : World} {g H : Nat} (h : setIn X g = H) : roomIn X g (.bool false) = 2 * (2 ^ 64 - H) := by unfold roomIn; rw [h]; rfl

set_option maxHeartbeats 2000000 in
set_option maxRecDepth 100000 in
/-- ref03.Reach. -/
theorem rreach_any (m : List Nat) (a : Int) (w : World) (hm : Mat m) :
    Calls Tryd.prog 44 #[matV m, .int .i64 a] w fun e w' => e = .returned (.int .u64 (reachN m a : Nat)) ∧ Below w.heap.size w w' := by
  obtain ⟨room, hroom⟩ : ∃ room : World → Nat → Value → Nat, room = roomIn := ⟨_, rfl⟩
  have HROOM := Lib.hid hroom
  clear hroom
  have c1 := fun W => routs_any m a W hm
  have c2 := fun (k : Nat) W => routs_any m (k : Int) W hm
  unfold matV at c1 c2 ⊢
  have hlow : ∀ (b : Int) j, (outsN m b).testBit j = true → j < 32 := fun b j h => by rw [testBit_outsN] at h; simp at h; omega
  have hreach : ∀ had ins, Seen (outsN m a) (fun i => outsN m (i : Int)) had ins → (∀ j, j < 32 → ins.testBit j = true → had.testBit j = true) → ins = reachN m a := fun had ins h k => h.done k
  have hstart : Seen (outsN m a) (fun i => outsN m (i : Int)) 0 (outsN m a) := Seen.start (outsN_lt _ _) (hlow a)
  have hstep : ∀ (k had ins : Nat), Seen (outsN m a) (fun i => outsN m (i : Int)) had ins → ins.testBit k = true → Seen (outsN m a) (fun i => outsN m (i : Int)) (withN had (k : Int)) (ins ||| outsN m (k : Int)) := fun k had ins h hk => h.step hk (outsN_lt _ _) (hlow _)
  have hbits := fun (k : Nat) W => rbits_any (outsN m (k : Int)) W (outsN_lt _ _)
  have hbits0 := fun W => rbits_any (outsN m a) W (outsN_lt _ _)
  have hfacts : ∀ had ins, Seen (outsN m a) (fun i => outsN m (i : Int)) had ins → had < 2 ^ 64 ∧ ins < 2 ^ 64 := fun had ins h => ⟨h.hl, h.il⟩
  generalize outsN m a = s0 at *
  generalize reachN m a = R at *
  generalize hS : Seen s0 (fun i => outsN m (i : Int)) = S at *
  have HM := Lib.hid hm
  have HFA := Lib.hid hfacts
  have C1 := Lib.hid c1
  have C2 := Lib.hid c2
  have B0 := Lib.hid hbits0
  have B1 := Lib.hid hbits
  have HR := Lib.hid hreach
  have H0 := Lib.hid hstart
  have HP := Lib.hid hstep
  have HLO := Lib.hid hlow
  clear hm hS c1 c2 hbits hbits0 hreach hstart hstep hlow hfacts
  go_enter Tryd.func44, Tryd.ntmps44
  go_wp2_with (refine wpList_load_row rfl 41 _ rfl w.heap.size rfl 41 _ (0, 0) _ (nums_new41 m w) Tryd.underlying41 rfl (size_rmat HM.out.1) ?_)
  refine (C1.out _).mono ?_
  rintro e w1 ⟨rfl, hB⟩
  have N1 := Lib.hid ((nums_new41 m w).below hB (nums_new41 m w).lt)
  have E1 := Lib.hid (((Below.refl w.heap.size w).alloc (Nat.le_refl _) (.cells (numsV m) 41)).trans (hB.mono (by simp)))
  clear hB C1
  go_wp2_with fail
  refine (B0.out _).mono ?_
  rintro e w2 ⟨rfl, hB⟩
  have N2 := Lib.hid (N1.out.below hB N1.out.lt)
  have E2 := Lib.hid (E1.out.trans (hB.mono E1.out.size))
  clear hB B0 N1 E1
  go_wp2_with (refine wpList_store_row rfl 65 _ _ rfl w2.heap.size _ rfl rfl 65 _ (heap_alloc_new _ _) (by rw [size_boolsV, bitsL_length]; exact size65) (by rw [size_boolsV, bitsL_length]; rfl) (one_boolsV _) ?_)
  refine code_inN (fun X => RAt w X m w2.heap.size (w2.heap.size + 1) (bitsL s0) (bitsL 0)) (by rw [bitsL_none]; exact RAt.start N2.out E2.out (bitsL s0) _) ?_
  clear N2 E2
  generalize w2.heap.size = gi at *
  generalize gi + 1 = gh at *
  intro X hX
  have K := Lib.hid hX
  clear hX
  go_loopw [7] (fun v wr => ∃ (I H : Nat) (more : Bool), v = .bool more ∧ Hid (S H I ∧ RAt w wr m gi gh (bitsL I) (bitsL H) ∧ (more = false → ∀ j, j < 32 → I.testBit j = true → H.testBit j = true))) (fun v wr => room wr gh v)
  case atStart => exact ⟨s0, 0, true, rfl, Lib.hid ⟨H0.out, K.out, fun h => by cases h⟩⟩
  case round =>
    obtain ⟨I, H, more, rfl, hrel2⟩ := hrel
    obtain ⟨hSn, hK, hno⟩ := hrel2.out
    clear hrel2
    have KS := Lib.hid hSn
    have K1 := Lib.hid hK
    have KN := Lib.hid hno
    clear hSn hK hno K H0
    cases more
    · have hR := HR.out H I KS.out (KN.out rfl)
      have hI := (HFA.out H I KS.out).2
      subst hR
      have HI := Lib.hid hI
      clear hI
      go_wp2_with (refine wpList_load_row rfl 65 _ rfl gi rfl 65 _ (0, 0) _ K1.out.i Tryd.underlying65 rfl (by rw [size_boolsV, bitsL_length]; exact size65) ?_)
      refine (sum_any I _ HI.out).mono ?_
      rintro e y ⟨rfl, hY⟩
      have E3 := Lib.hid (K1.out.b.trans (hY.mono K1.out.b.size))
      clear hY
      go_wp2_with fail
      go_ret
      exact ⟨rfl, E3.out⟩
    · have hmeas : setIn wr gh = H := setIn_eq (HFA.out H I KS.out).1 K1.out.h
      have HME := Lib.hid hmeas
      clear hmeas KN
      go_wp2_with fail
      go_loopw [7, 8] (fun v i wr' => ∃ (b I1 H1 : Nat) (more1 : Bool), b ≤ 32 ∧ i = .int .i64 b ∧ v = .bool more1 ∧ Hid (S H1 I1 ∧ RAt w wr' m gi gh (bitsL I1) (bitsL H1) ∧ ((more1 = false ∧ H1 = H ∧ I1 = I ∧ ∀ j, j < b → I1.testBit j = true → H1.testBit j = true) ∨ (more1 = true ∧ H < H1)))) (fun _ i _ => 32 - (intOf i).toNat)
      case atStart => exact ⟨0, I, H, false, Nat.zero_le _, rfl, rfl, Lib.hid ⟨KS.out, K1.out, .inl ⟨rfl, rfl, rfl, fun j hj => absurd hj (Nat.not_lt_zero _)⟩⟩⟩
      case round =>
        obtain ⟨b, I1, H1, more1, hb, rfl, rfl, hrel2⟩ := hrel
        obtain ⟨hSn, hK, hno⟩ := hrel2.out
        clear hrel2
        have LS := Lib.hid hSn
        have L1 := Lib.hid hK
        have LN := Lib.hid hno
        clear hSn hK hno K1
        by_cases hlt : b < 32
        · have hbi : ((b : Int) < 32) := by omega
          have hc1 := L1.out.i.cell (k := b) (by rw [bitsL_length]; omega)
          rw [bitsL_get I1 b (by omega)] at hc1
          have hc2 := L1.out.h.cell (k := b) (by rw [bitsL_length]; omega)
          rw [bitsL_get H1 b (by omega)] at hc2
          have hf2 := L1.out.h.free b
          cases hi : I1.testBit b
          · rw [hi] at hc1
            have HI := Lib.hid hi
            clear hi hc2 hf2
            go_wp2_with fail
            refine ⟨⟨b + 1, I1, H1, more1, by omega, by go_num, rfl, Lib.hid ⟨LS.out, L1.out, ?_⟩⟩, by simp [intOf]; omega⟩
            rcases LN.out with ⟨h1, h2, h3, h4⟩ | h
            · refine .inl ⟨h1, h2, h3, fun j hj hjt => ?_⟩
              by_cases e : j = b
              · subst e; rw [HI.out] at hjt; cases hjt
              · exact h4 j (by omega) hjt
            · exact .inr h
          · rw [hi] at hc1
            cases hh : H1.testBit b
            · rw [hh] at hc2
              have hgrow := withN_grows hh (by omega : b < 64)
              have hsn := HP.out b H1 I1 LS.out hi
              have hset := L1.out.setH b true
              rw [bitsL_with H1 b (by omega)] at hset
              have hle : H ≤ H1 := by
                rcases LN.out with ⟨_, h2, _, _⟩ | h
                · omega
                · omega
              have HG := Lib.hid (Nat.lt_of_le_of_lt hle hgrow)
              have MS := Lib.hid hsn
              have M1 := Lib.hid hset
              have D1 := Lib.hid (C2.out b)
              have D2 := Lib.hid (B1.out b)
              have DL := Lib.hid (HLO.out (b : Int))
              clear hgrow hsn hset hle hi hh LN LS
              generalize withN H1 (b : Int) = H2 at *
              generalize outsN m (b : Int) = O at *
              go_wp2_with (refine wpList_load_row rfl 41 _ rfl w.heap.size rfl 41 _ (0, 0) _ M1.out.m Tryd.underlying41 rfl (size_rmat HM.out.1) ?_)
              refine (D1.out _).mono ?_
              rintro e y1 ⟨rfl, hY⟩
              have M2 := Lib.hid (M1.out.to hY)
              clear hY M1 L1
              go_wp2_with fail
              refine (D2.out _).mono ?_
              rintro e y2 ⟨rfl, hY⟩
              have M3 := Lib.hid (M2.out.to hY)
              clear hY M2
              go_wp2_with (refine wpList_store_row rfl 65 _ _ rfl y2.heap.size _ rfl rfl 65 _ (heap_alloc_new _ _) (by rw [size_boolsV, bitsL_length]; exact size65) (by rw [size_boolsV, bitsL_length]; rfl) (one_boolsV _) ?_)
              refine code_inN (fun X => RAt w X m gi gh (orTo I1 O 0) (bitsL H2) ∧ Bools X y2.heap.size 65 (bitsL O) ∧ gh < y2.heap.size) (by rw [orTo_zero]; exact ⟨M3.out.to (below_bools _ _ _), bools_stored _ _ _, M3.out.h.lt⟩) ?_
              clear M3
              generalize y2.heap.size = go at *
              rintro X2 ⟨hX, hBo, hgo⟩
              have M4 := Lib.hid hX
              have M5 := Lib.hid hBo
              clear hX hBo
              go_loopw [10] (fun i wr'' => ∃ c : Nat, c ≤ 32 ∧ i = .int .i64 c ∧ RAt w wr'' m gi gh (orTo I1 O c) (bitsL H2) ∧ Bools wr'' go 65 (bitsL O)) (fun i _ => 32 - (intOf i).toNat)
              case atStart => exact ⟨0, Nat.zero_le _, rfl, M4.out, M5.out⟩
              case round =>
                obtain ⟨c, hc, rfl, hK, hBo⟩ := hrel
                have P1 := Lib.hid hK
                have P2 := Lib.hid hBo
                clear hK hBo M4 M5
                by_cases hclt : c < 32
                · have hci : ((c : Int) < 32) := by omega
                  have hd1 := P1.out.i.cell (k := c) (by rw [orTo_length]; omega)
                  rw [orTo_get I1 O c c (by omega), decide_eq_false (Nat.lt_irrefl c), Bool.false_and, Bool.or_false] at hd1
                  have hd2 := P2.out.cell (k := c) (by rw [bitsL_length]; omega)
                  rw [bitsL_get O c (by omega)] at hd2
                  have hfr := P1.out.i.free c
                  have hs := P1.out.setI c (I1.testBit c || O.testBit c)
                  rw [orTo_succ] at hs
                  have hbo : Bools (wr.setCell ⟨gi, c, none⟩ (.bool (I1.testBit c || O.testBit c))) go 65 (bitsL O) := P2.out.of_block (heap_setCell_other _ _ _ _ (by have := P1.out.lt; simp; omega))
                  cases hv : I1.testBit c
                  · rw [hv, Bool.false_or] at hs hbo
                    rw [hv] at hd1
                    generalize O.testBit c = ob at *
                    have P3 := Lib.hid hs
                    have P4 := Lib.hid hbo
                    clear hs hbo hv
                    go_wp2_with fail
                    refine ⟨⟨c + 1, by omega, by go_num, P3.out, P4.out⟩, by simp [intOf]; omega⟩
                  · rw [hv, Bool.true_or] at hs hbo
                    rw [hv] at hd1
                    have P3 := Lib.hid hs
                    have P4 := Lib.hid hbo
                    clear hs hbo hv hd2
                    go_wp2_with fail
                    refine ⟨⟨c + 1, by omega, by go_num, P3.out, P4.out⟩, by simp [intOf]; omega⟩
                · have e : c = 32 := by omega
                  subst e
                  have hall := P1.out
                  rw [orTo_all I1 O DL.out] at hall
                  have P3 := Lib.hid hall
                  clear hall
                  go_wp2_with fail
                  refine ⟨⟨b + 1, I1 ||| O, H2, true, by omega, by go_num, rfl, Lib.hid ⟨MS.out, P3.out, .inr ⟨rfl, HG.out⟩⟩⟩, by simp [intOf]; omega⟩
            · rw [hh] at hc2
              have HH := Lib.hid hh
              clear hi hh hf2
              go_wp2_with fail
              refine ⟨⟨b + 1, I1, H1, more1, by omega, by go_num, rfl, Lib.hid ⟨LS.out, L1.out, ?_⟩⟩, by simp [intOf]; omega⟩
              rcases LN.out with ⟨h1, h2, h3, h4⟩ | h
              · refine .inl ⟨h1, h2, h3, fun j hj hjt => ?_⟩
                by_cases e : j = b
                · subst e; exact HH.out
                · exact h4 j (by omega) hjt
              · exact .inr h
        · have e : b = 32 := by omega
          subst e
          have hm2 : setIn wr gh = H1 := setIn_eq (HFA.out H1 I1 LS.out).1 L1.out.h
          have hfa := (HFA.out H1 I1 LS.out).1
          have HM2 := Lib.hid hm2
          have HF2 := Lib.hid hfa
          clear hm2 hfa
          go_wp2_with fail
          refine ⟨⟨I1, H1, more1, rfl, Lib.hid ⟨LS.out, L1.out, ?_⟩⟩, ?_⟩
          · intro h
            rcases LN.out with ⟨_, _, _, h4⟩ | ⟨h1, _⟩
            · exact fun j hj hjt => h4 j hj hjt
            · rw [h1] at h; cases h
          · have q1 := HM2.out
            have q2 := HME.out
            have q3 := HF2.out
            rcases LN.out with ⟨h1, h2, _, _⟩ | ⟨h1, h2⟩
            · subst h1 h2
              have q4 := room_no q1
              show room _ gh _ < room _ gh _
              rw [HROOM.out]
              rw [room_yes q2, q4]
              omega
            · subst h1
              have q4 := room_yes q1
              show room _ gh _ < room _ gh _
              rw [HROOM.out]
              rw [room_yes q2, q4]
              omega
end Go.Proofs.YtkgfepnkikcpiaaDoor
