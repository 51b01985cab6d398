/- The walk of SetBack: a set is all its numbers, in whatever order; with one of them more it is the same. -/
import Derived.Test.YtkgfepnkikcpiaaDoorL4
import Derived.Deep.RegionLaw
namespace Go.Proofs.YtkgfepnkikcpiaaDoor
open Go.RowKit
open PSet

theorem with_has (s : Nat) (x : Int) (h : hasB s x = true) : withN s x = s := by
  have hx : 0 ≤ x ∧ x ≤ 63 := by
    by_cases hh : 0 ≤ x ∧ x ≤ 63
    · exact hh
    · rw [hasB_far s hh] at h; cases h
  obtain ⟨n, rfl⟩ := Int.eq_ofNat_of_zero_le hx.1
  rw [hasB_nat s n (by omega)] at h
  apply Nat.eq_of_testBit_eq
  intro j
  rw [testBit_withN]
  by_cases e : (n : Int) = (j : Int) ∧ j < 64
  · have : n = j := by omega
    subst this
    rw [h, Bool.true_or]
  · rw [decide_eq_false e, Bool.or_false]
theorem with_less (s : Nat) (hs : s < 2 ^ 64) (x : Int) (h : hasB s x = true) : withN (lessN s x) x = s := by
  apply eq_of_low (withN_lt (lessN_lt hs x) x) hs
  intro j hj
  rw [testBit_withN, testBit_lessN, decide_eq_true hj, Bool.and_true]
  by_cases e : x = (j : Int)
  · subst e
    rw [hasB_nat s j hj] at h
    simp [h, hj]
  · have : ¬ (x = (j : Int) ∧ j < 64) := fun h => e h.1
    rw [decide_eq_false e, decide_eq_false this, Bool.or_false, Bool.not_false, Bool.and_true]

/-- The append of a row to a row of the call's own, as one step of a region that draws its order. -/
theorem step_append_row {ops : Array Oper} {o : Oper} {a : Act} {w : World} {K : Act → World → Prop} {Q : Exit → Act → World → Prop} {E : Prop} (hg : o.guard = none) (s x : Operand)
    (ho : o.op = .call { callee := .builtin .append, args := #[s, x], argTypes := #[23, 23] })
    (base : Nat) (v : Value) (n : Nat) (xs : List Int) (hs : a.eval s = v) (hown : w.ownsRow base 3 1 v n (xs.map intI))
    (ad : Addr) (m c : Nat) (l : List Int) (hm : l.length = m) (hx : a.eval x = .slice (some ad) m c) (hI : IntsAt w (some ad) l) (hlen : n + l.length ≤ 1000) (hbase : base ≤ w.heap.size)
    (h : ∀ v' w', w'.ownsRow base 3 1 v' (n + l.length) ((xs ++ l).map intI) → w.grownBy w' v.ownBlock → K (a.put o.dst v') w') :
    if Region.wanted o (yielded ops a.tmps) = true then Oper.wp Tryd.prog o a w K Q else E := by
  have hw : Region.wanted o (yielded ops a.tmps) = true := by simp [Region.wanted, hg]
  rw [if_pos hw]
  subst hm
  obtain ⟨i0, hi, hz0, hz1, hz2⟩ := info_parts info3
  refine wp_append_own w s x 23 ho base 3 i0 (.int .i64 0) 1 8 Tryd.underlying23 hi hz0 hz1 hz2 rfl (by decide) v n (xs.map intI) hs hown ad l.length c (l.map intI) hx (by simp) ?_ ?_ (by unfold maxLen; omega) (by omega) hbase ?_
  · intro j u hu
    by_cases hj : j < l.length
    · obtain ⟨b, off, e⟩ := hI.some (by omega)
      injection e with e
      subst e
      have hadd : (⟨b, off, none⟩ : Addr).add j = ⟨b, off + j, none⟩ := by unfold Addr.add; split <;> simp_all
      rw [hadd, hI.cell hj]
      have : u = intI l[j] := by simpa [hj] using hu.symm
      rw [this]
      simp [intI, List.getD, hj]
    · have : (l.map intI)[j]? = none := by simp; omega
      rw [this] at hu; cases hu
  · intro u hu
    obtain ⟨y, _, rfl⟩ := List.mem_map.1 hu
    rfl
  · intro v' w' h1 h2 _
    exact h v' w' (by rw [List.map_append]; exact h1) h2

/-- set.Of of a row of the call's own. -/
theorem of_owned {w : World} {base : Nat} {v : Value} {n : Nat} {l : List Int} (h : w.ownsRow base 3 1 v n (l.map intI)) (hn : l.length = n) (hl : n ≤ 1000) :
    Calls Tryd.prog 28 #[v] w fun e w' => e = .returned (.int .u64 (ofN l : Nat)) ∧ w = w' := by
  subst hn
  obtain ⟨a, cap, rfl, hI, _, _⟩ := ints_of_owns_cap h
  exact of_any a cap l w (by omega) hI

theorem ints_drop {w : World} {b o : Nat} {q : List Int} (h : IntsAt w (some ⟨b, o, none⟩) q) (k : Nat) : IntsAt w (some ⟨b, o + k, none⟩) (q.drop k) := fun j hj => by
  rw [List.length_drop] at hj
  refine ⟨b, o + k, rfl, ?_⟩
  have hc := h.cell (k := k + j) (by omega)
  rw [Nat.add_assoc, hc]
  simp [List.getD]
theorem ints_take {w : World} {b o : Nat} {q : List Int} (h : IntsAt w (some ⟨b, o, none⟩) q) (k : Nat) : IntsAt w (some ⟨b, o, none⟩) (q.take k) := fun j hj => by
  rw [List.length_take] at hj
  refine ⟨b, o, rfl, ?_⟩
  rw [h.cell (k := j) (by omega)]
  have : j < k := by omega
  simp [List.getD, this]

/-- set.Items of the empty set. -/
theorem items_zero (w : World) : Calls Tryd.prog 23 #[.int .u64 0] w fun e w' => e = .returned (.slice none 0 0) ∧ w = w' := by
  go_enter Tryd.func23, Tryd.ntmps23
  go_wp2_with fail
  go_step3
  go_wp2_with fail
  go_step3
  go_wp2_with fail
  rw [Exit.noGoto_ret]
  go_ret
  exact ⟨rfl, rfl⟩

/-- append(nil, nil...), as one step of a region that draws its order. -/
theorem step_append_nils {ops : Array Oper} {o : Oper} {a : Act} {w : World} {K : Act → World → Prop} {Q : Exit → Act → World → Prop} {E : Prop} (hg : o.guard = none) (s x : Operand)
    (ho : o.op = .call { callee := .builtin .append, args := #[s, x], argTypes := #[23, 23] }) (hs : a.eval s = .slice none 0 0) (hx : a.eval x = .slice none 0 0)
    (h : K (a.put o.dst (.slice none 0 0)) w) : if Region.wanted o (yielded ops a.tmps) = true then Oper.wp Tryd.prog o a w K Q else E := by
  have hw : Region.wanted o (yielded ops a.tmps) = true := by simp [Region.wanted, hg]
  rw [if_pos hw]
  obtain ⟨i0, hi, hz0, hz1, hz2⟩ := info_parts info3
  have hrun := run_append_owned_none (P := Tryd.prog) (w := w) 0 23 o.type 3 i0 1 Tryd.underlying23 hi (.slice none 0 0) 0 [] (World.ownsRow_nil _ _ _ _)
  unfold Oper.wp
  simp [execOp, ho, resolve, invoke, builtin, hs, hx, hrun, Result.andThen]
  exact h

set_option maxHeartbeats 1000000 in
set_option maxRecDepth 100000 in
theorem back_zero (p : Nat) (w : World) (hT : Tab w) :
    Calls Tryd.prog 4 #[.int .u64 0, .int .u8 p] w fun e w' => e = .returned (.bool true) ∧ Below w.heap.size w w' := by
  have A := Lib.hid (alive1 w hT)
  clear hT
  go_enter Tryd.func4, Tryd.ntmps4
  go_wp2_with fail
  refine (A.out).mono ?_
  rintro e w1 ⟨rfl, hB⟩
  have HB := Lib.hid hB
  clear hB
  go_wp2_with fail
  refine (items_zero w1).mono ?_
  rintro e w2 ⟨rfl, rfl⟩
  go_wp2_with fail
  have hc : Calls Tryd.prog 27 #[.int .u64 0] w1 fun e w' => e = .returned (.int .i64 0) ∧ w1 = w' := by
    have h := count_any 0 w1 (by decide)
    rw [itemsN_zero] at h
    exact h
  refine hc.mono ?_
  rintro e w2 ⟨rfl, rfl⟩
  clear hc
  go_wp2_with fail
  have hof : ∀ w' : World, Calls Tryd.prog 28 #[.slice none 0 0] w' fun e w'' => e = .returned (.int .u64 0) ∧ w' = w'' := fun w' => of_empty none 0 w'
  have HO := Lib.hid hof
  clear hof
  go_region_law (first
    | (refine step_append_nils rfl (.tmp 61) (.tmp 64) rfl (by simp [Act.eval, Act.put]) (by simp [Act.eval, Act.put]) ?_)
    | (refine step_append_nils rfl (.const (.slice none 0 0)) (.tmp 60) rfl rfl (by simp [Act.eval, Act.put]) ?_)
    | (go_simp; go_at_call 28; refine (HO.out _).mono ?_; rintro e w5 ⟨rfl, rfl⟩))
  go_wp2_with fail
  go_ret
  exact ⟨by simp [Act.put], HB.out.drew⟩

set_option maxHeartbeats 1000000 in
set_option maxRecDepth 100000 in
theorem back_walk (s p : Nat) (w : World) (hs : s < 2 ^ 64) (hp : p ≤ 255) (hT : Tab w) :
    Calls Tryd.prog 4 #[.int .u64 s, .int .u8 p] w fun e w' => e = .returned (.bool true) ∧ Below w.heap.size w w' := by
  by_cases hs0 : s = 0
  · subst hs0; exact back_zero p w hT
  have A := Lib.hid (alive1 w hT)
  have HS := Lib.hid hs
  have HT := Lib.hid hT
  clear hs hT
  go_enter Tryd.func4, Tryd.ntmps4
  go_wp2_with fail
  refine (A.out).mono ?_
  rintro e w1 ⟨rfl, hB⟩
  have HB := Lib.hid hB
  clear hB
  go_wp2_with fail
  refine (items_cap s w1 HS.out (Tab.below HT.out HT.out.pos HB.out)).mono ?_
  rintro e w2 ⟨a, c, rfl, hI, hcap, hnil, hB2⟩
  have HI := Lib.hid hI
  have HB2 := Lib.hid (HB.out.trans (hB2.mono HB.out.size))
  have T2 := Lib.hid (Tab.below HT.out HT.out.pos HB2.out)
  have hcount := count_any s w2 HS.out
  rw [← itemsI_length] at hcount
  have hhas := itemsI_has s
  have hmem : ∀ l : List Int, (∀ x, x ∈ l ↔ x ∈ itemsI s) → ofN l = s := fun l h => ofN_of_mem HS.out h
  have hnone := @itemsI_none s HS.out
  have hn5 := itemsI_length_le s
  have HN := Lib.hid hnil
  clear hI hB2 hnil
  generalize hq : itemsI s = q at *
  generalize hr : q.length = r at *
  have HR := Lib.hid hr
  have HH := Lib.hid hhas
  have HM := Lib.hid hmem
  have HZ := Lib.hid hnone
  have HC := Lib.hid hcount
  clear hq hr hhas hmem hnone hcount
  go_wp2_with fail
  refine (HC.out).mono ?_
  rintro e w3 ⟨rfl, rfl⟩
  have h0 : ¬ r = 0 := fun h => hs0 (HZ.out h)
  · have g0 : (0 : Int) < (r : Int) := by omega
    obtain ⟨b, o, rfl⟩ := HI.out.some (by have := HR.out; omega)
    obtain ⟨k, hk⟩ : ∃ k, k = p % r := ⟨_, rfl⟩
    have hk2 : ((p : Int) % (r : Int)) = (k : Int) := by rw [hk]; simp
    have hkr : k < r := by rw [hk]; exact Nat.mod_lt _ (by omega)
    clear hk
    have hc : w2.cell? ⟨b, o + k, none⟩ = some (.int .i64 (q.getD k 0)) := HI.out.cell (by have := HR.out; omega)
    have hx := HH.out k hkr
    generalize hy : q.getD k 0 = y at *
    have HY := Lib.hid hy
    have f1 : ∀ n, Calls Tryd.prog 18 #[.int .u64 s, .int .i64 y] (w2.drewN n) fun e w' => e = .returned (.int .u64 s) ∧ w' = w2.drewN n := fun n => by
      have h := with_any s y (w2.drewN n) HS.out
      rw [with_has s y hx] at h
      exact h.mono fun _ _ hh => ⟨hh.1, hh.2.symm⟩
    have f2 : ∀ n, Calls Tryd.prog 16 #[.int .u64 s, .int .i64 y] (w2.drewN n) fun e w' => e = .returned (.bool true) ∧ w' = w2.drewN n := fun n => by
      have h := has_any s y (w2.drewN n) HS.out
      rw [hx] at h
      exact h.mono fun _ _ hh => ⟨hh.1, hh.2.symm⟩
    have f3 : ∀ n, Calls Tryd.prog 20 #[.int .u64 s, .int .i64 y] (w2.drewN n) fun e w' => e = .returned (.int .u64 (lessN s y : Nat)) ∧ w' = w2.drewN n := fun n =>
      (less_any s y (w2.drewN n) HS.out).mono fun _ _ hh => ⟨hh.1, hh.2.symm⟩
    have f4 : ∀ n, Calls Tryd.prog 18 #[.int .u64 (lessN s y : Nat), .int .i64 y] (w2.drewN n) fun e w' => e = .returned (.int .u64 s) ∧ w' = w2.drewN n := fun n => by
      have h := with_any (lessN s y) y (w2.drewN n) (lessN_lt HS.out y)
      rw [with_less s HS.out y hx] at h
      exact h.mono fun _ _ hh => ⟨hh.1, hh.2.symm⟩
    generalize lessN s y = z at *
    have F1 := Lib.hid f1
    have F2 := Lib.hid f2
    have F3 := Lib.hid f3
    have F4 := Lib.hid f4
    clear f1 f2 f3 f4 hx hy
    go_wp2_with fail
    simp only [hk2]
    clear hk2
    have i1 : (0 : Int) ≤ (k : Int) ∧ (k : Int) < (r : Int) := by omega
    go_quiet ((first | (go_at_call 18; exact Calls.quiet_of_same (F1.out _)) | (go_at_call 18; exact Calls.quiet_of_same (F4.out _)) | (go_at_call 16; exact Calls.quiet_of_same (F2.out _)) | (go_at_call 20; exact Calls.quiet_of_same (F3.out _))))
    go_wp2_with fail
    obtain ⟨W, hW⟩ : ∃ W, W = w2.drewN nq := ⟨_, rfl⟩
    rw [← hW]
    have hIW : IntsAt W (some ⟨b, o, none⟩) q := by rw [hW]; exact HI.out
    have hBW : Below w.heap.size w W := by rw [hW]; exact below_drewN HB2.out nq
    have hd : (q.drop k).length = r - k := by have := HR.out; simp; omega
    have ht : (q.take k).length = k := by have := HR.out; simp; omega
    have hkr2 : ¬ (c = k) := by omega
    have j1 : (k : Int) ≤ (r : Int) := by omega
    have j2 : (k : Int) ≤ (c : Int) := by omega
    have j3 : (r : Int) ≤ (c : Int) := by omega
    have D1 := Lib.hid (ints_drop hIW k)
    have D2 := Lib.hid (ints_take hIW k)
    have D3 := Lib.hid hBW
    have D4 := Lib.hid hd
    have D5 := Lib.hid ht
    clear hIW hBW hd ht hW hc
    clear F1 F2 F3 F4 HY HC
    have E1 : W.drew.ownsRow W.heap.size 3 1 (.slice none 0 0) 0 (([] : List Int).map intI) := World.ownsRow_nil _ _ _ _
    have E2 : IntsAt W.drew (some ⟨b, o + k, none⟩) (q.drop k) := D1.out
    have E3 : IntsAt W.drew (some ⟨b, o, none⟩) (q.take k) := D2.out
    have H1 := Lib.hid E1
    have H2 := Lib.hid E2
    have H3 := Lib.hid E3
    clear E1 E2 E3
    have hsum : ∀ (v : Value) (w' : World), w'.ownsRow W.heap.size 3 1 v (0 + (q.drop k).length + (q.take k).length) (([] ++ q.drop k ++ q.take k).map intI) →
        Calls Tryd.prog 28 #[v] w' fun e w'' => e = .returned (.int .u64 s) ∧ w' = w'' := fun v w' h => by
      have hr2 := HR.out
      have h2 := of_owned h (by simp only [List.length_append, List.length_nil]) (by simp only [List.length_drop, List.length_take]; omega)
      rw [HM.out ([] ++ q.drop k ++ q.take k) (fun x => by
        rw [List.nil_append, List.mem_append, Or.comm, ← List.mem_append, List.take_append_drop])] at h2
      exact h2
    have HSUM := Lib.hid hsum
    clear hsum
    go_region_law (first
      | (refine step_append_row rfl (.tmp 61) (.tmp 64) rfl W.heap.size v3 _ _ (by simp [Act.eval]) O3.out ⟨b, o, none⟩ k c (q.take k) D5.out (by simp [Act.eval]) D6.out (by have := D5.out; have := D4.out; omega) S3.out ?_; intro v4 w4 hown4 hgrow4; have CC := Lib.hid (HSUM.out v4 w4 hown4); have G4 := Lib.hid hgrow4; clear hown4 hgrow4)
      | (refine step_append_row rfl (.const (.slice none 0 0)) (.tmp 60) rfl W.heap.size (.slice none 0 0) 0 [] rfl H1.out ⟨b, o + k, none⟩ (r - k) (c - k) (q.drop k) D4.out (by simp [Act.eval, Act.put]) H2.out (by have := D4.out; omega) (Nat.le_refl _) ?_; intro v3 w3 hown3 hgrow3; have O3 := Lib.hid hown3; have G3 := Lib.hid hgrow3; have S3 := Lib.hid hgrow3.size; have D6 := Lib.hid (H3.out.below ((Below.refl _ _).grown hgrow3 (Nat.le_refl _) (fun j hj => by cases hj))); clear hown3 hgrow3)
      | (go_simp; go_at_call 28; refine (CC.out).mono ?_; rintro e w5 ⟨rfl, rfl⟩))
    have B3 := Lib.hid (D3.out.drew.grown G3.out D3.out.size (fun j hj => by cases hj))
    have B4 := Lib.hid (B3.out.grown G4.out B3.out.size (fun j hj => by have h1 := (O3.out.lt j hj).1; have h2 := D3.out.size; omega))
    go_wp2_with fail
    go_ret
    exact ⟨by simp [Act.put], B4.out⟩
end Go.Proofs.YtkgfepnkikcpiaaDoor
