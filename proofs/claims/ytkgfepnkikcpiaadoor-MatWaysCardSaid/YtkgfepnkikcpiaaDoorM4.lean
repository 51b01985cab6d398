/- The walk of mat.spread: over whatever function value whose calls come to a number, it comes to the set of what is reached. -/
import Derived.Test.YtkgfepnkikcpiaaDoorM3
import Derived.Test.YtkgfepnkikcpiaaDoorPWay
namespace Go.Proofs.YtkgfepnkikcpiaaDoor
open Go.RowKit
open PSet PMat PWay

/-- What holds at the label of mat.spread. -/
def SpreadJ (s0 : Nat) (nx : Nat → Nat) (a fv : Value) (g : Nat) (m : List Nat) (w : World) (a' : Act) (w' : World) : Prop :=
  ∃ (had now : Nat) (u2 u3 u6 u7 u8 u9 u10 u11 u12 u13 u14 u15 u16 u17 u18 u19 u20 u21 u22 u23 u24 : Value),
    a' = { tmps := #[a, fv, u2, u3, .int .u64 had, .int .u64 now, u6, u7, u8, u9, u10, u11, u12, u13, u14, u15, u16, u17, u18, u19, u20, u21, u22, u23, u24], defers := [] } ∧
    Look s0 nx had now ∧ Nums w' g 43 m ∧ Below w.heap.size w w'

set_option maxRecDepth 100000 in
theorem spread_any (K : Nat) (g : Nat) (m : List Nat) (a : Int) (s0 : Nat) (nx : Nat → Nat) (w : World) (hT : Tab w) (hg : Nums w g 43 m)
    (h0 : s0 < 2 ^ 64) (hnx : ∀ i, nx i < 2 ^ 64) (hcall : ∀ (args : Array Value) (W : World), (callFunc K args).run Tryd.prog W = .ok (.enter K args) W)
    (c0 : ∀ W, Nums W g 43 m → Calls Tryd.prog K #[.int .i64 a, .pointer (some ⟨g, 0, none⟩)] W fun e w' => e = .returned (.int .u64 s0) ∧ Below W.heap.size W w')
    (c1 : ∀ (i : Nat) W, i < 64 → Nums W g 43 m → Calls Tryd.prog K #[.int .i64 i, .pointer (some ⟨g, 0, none⟩)] W fun e w' => e = .returned (.int .u64 (nx i)) ∧ Below W.heap.size W w') :
    Calls Tryd.prog 55 #[.int .i64 a, .func (.func K) #[] #[.pointer (some ⟨g, 0, none⟩)]] w fun e w' => e = .returned (.int .u64 (pathN s0 nx : Nat)) ∧ Below w.heap.size w w' := by
  have C0 := Lib.hid c0
  have C1 := Lib.hid c1
  have HT := Lib.hid hT
  have HG := Lib.hid hg
  have H0 := Lib.hid h0
  have HX := Lib.hid hnx
  clear c0 c1 hT hg h0 hnx
  go_enter Tryd.func55, Tryd.ntmps55
  go_wp2_with fail
  refine wp_scope_pass 0 (SpreadJ s0 nx (.int .i64 a) (.func (.func K) #[] #[.pointer (some ⟨g, 0, none⟩)]) g m w) (fun a' _ => 2 ^ 64 - (intOf (a'.tmps.getD 4 undef)).toNat) rfl ?_ ?_
  · rintro a' wr ⟨had, now, u2, u3, u6, u7, u8, u9, u10, u11, u12, u13, u14, u15, u16, u17, u18, u19, u20, u21, u22, u23, u24, rfl, hl, hn, hb⟩
    by_cases hz : now = 0
    · subst hz
      have hd := hl.done
      have HD := Lib.hid hd
      clear hl hn hd
      go_wp2_with fail
      simp only [Exit.jump]
      go_ret
      exact ⟨by rw [← HD.out]; rfl, hb⟩
    · obtain ⟨k, hk, hk64, hbit, _⟩ := first_spec hz hl.ol
      have hT' := Tab.below HT.out HT.out.pos hb
      have c1 := first_any now wr hl.ol hT'
      rw [hk] at c1
      have hstep := hl.step hbit (HX.out k)
      have hgrow := withN_grows (hl.apart k hbit) hk64
      have hwl := withN_lt hl.hl (k : Int)
      have F1 := Lib.hid c1
      have F2 := Lib.hid (with_any had (k : Int) wr hl.hl)
      have F3 := Lib.hid (C1.out k wr hk64 hn)
      have hor : bits .or .u64 (now : Int) ((nx k : Nat) : Int) = ((now ||| nx k : Nat) : Int) := u64_or_nat _ _ hl.ol (HX.out k)
      have han : bits .andNot .u64 ((now ||| nx k : Nat) : Int) ((withN had (k : Int) : Nat) : Int) = (((now ||| nx k) &&& (18446744073709551615 - withN had (k : Int)) : Nat) : Int) := u64_andNot_nat _ _ (Nat.or_lt_two_pow hl.ol (HX.out k)) (withN_lt hl.hl _)
      have ht0 : ((now : Int) == 0) = false := by simp; omega
      have HZ := Lib.hid hz
      have S1 := Lib.hid hstep
      have S2 := Lib.hid hgrow
      have S3 := Lib.hid hwl
      have S4 := Lib.hid hor
      have S5 := Lib.hid han
      have S6 := Lib.hid hn
      have S7 := Lib.hid hb
      clear hz hl hn hb hT' c1 hstep hgrow hwl hor han hk hk64 hbit
      go_wp2_with fail
      refine (F1.out).mono ?_
      rintro e w1 ⟨rfl, rfl⟩
      go_wp2_with fail
      refine (F2.out).mono ?_
      rintro e w1 ⟨rfl, rfl⟩
      go_wp2_with fail
      refine (F3.out).mono ?_
      rintro e w1 ⟨rfl, hB1⟩
      have T1 := Lib.hid hB1
      clear hB1
      go_wp2_with fail
      go_step3
      rw [S4.out, S5.out]
      refine ⟨rfl, ⟨_, _, _, _, _, _, _, _, _, _, _, _, _, _, _, _, _, _, _, _, _, _, _, rfl, S1.out, S6.out.below T1.out S6.out.lt, S7.out.trans (T1.out.mono S7.out.size)⟩, ?_⟩
      have h1 := S2.out
      have h2 := S3.out
      simp [intOf]
      omega
  · intro pass
    have F1 := Lib.hid (C0.out w HG.out)
    go_wp2_with fail
    refine (F1.out).mono ?_
    rintro e w1 ⟨rfl, hB1⟩
    have T1 := Lib.hid hB1
    clear hB1
    go_wp2_with fail
    go_step3
    rename_i hK
    exact hK _ _ (pass _ _ ⟨0, s0, _, _, _, _, _, _, _, _, _, _, _, _, _, _, _, _, _, _, _, _, _, rfl, Look.start H0.out, HG.out.below T1.out HG.out.lt, T1.out⟩)

theorem call56 (args : Array Value) (W : World) : (callFunc 56 args).run Tryd.prog W = .ok (.enter 56 args) W := by kernel_rfl
theorem call58 (args : Array Value) (W : World) : (callFunc 58 args).run Tryd.prog W = .ok (.enter 58 args) W := by kernel_rfl

/-- The closure of mat.Reach. -/
theorem reach1_any (g : Nat) (m : List Nat) (hm : Mat m) (i : Int) (W : World) (hg : Nums W g 43 m) :
    Calls Tryd.prog 56 #[.int .i64 i, .pointer (some ⟨g, 0, none⟩)] W fun e w' => e = .returned (.int .u64 (outsN m i : Nat)) ∧ Below W.heap.size W w' := by
  have C := Lib.hid (outs_any m i W hm)
  have HG := Lib.hid hg
  have HL := Lib.hid hm.1
  clear hg hm
  go_enter Tryd.func56, Tryd.ntmps56
  go_wp2_with (refine wpList_load_row rfl 43 _ rfl g rfl 43 _ (0, 0) _ HG.out Tryd.underlying43 rfl (size_mat HL.out) ?_)
  refine (C.out).mono ?_
  rintro e w1 ⟨rfl, hB⟩
  have HB := Lib.hid hB
  clear hB
  go_wp2_with fail
  go_ret
  exact ⟨rfl, HB.out⟩

/-- The closure of mat.Back. -/
theorem back1_any (g : Nat) (m : List Nat) (hm : Mat m) (i : Int) (W : World) (hg : Nums W g 43 m) :
    Calls Tryd.prog 58 #[.int .i64 i, .pointer (some ⟨g, 0, none⟩)] W fun e w' => e = .returned (.int .u64 (insN m i : Nat)) ∧ Below W.heap.size W w' := by
  have C := Lib.hid (ins_any m i W hm)
  have HG := Lib.hid hg
  have HL := Lib.hid hm.1
  clear hg hm
  go_enter Tryd.func58, Tryd.ntmps58
  go_wp2_with (refine wpList_load_row rfl 43 _ rfl g rfl 43 _ (0, 0) _ HG.out Tryd.underlying43 rfl (size_mat HL.out) ?_)
  refine (C.out).mono ?_
  rintro e w1 ⟨rfl, hB⟩
  have HB := Lib.hid hB
  clear hB
  go_wp2_with fail
  go_ret
  exact ⟨rfl, HB.out⟩

/-- What is reached from a node; from what it is reached. -/
noncomputable def reachN (m : List Nat) (a : Int) : Nat := pathN (outsN m a) fun i => outsN m (i : Int)
noncomputable def backN (m : List Nat) (a : Int) : Nat := pathN (insN m a) fun i => insN m (i : Int)
theorem reachN_lt (m : List Nat) (a : Int) : reachN m a < 2 ^ 64 := setOf_lt _
theorem backN_lt (m : List Nat) (a : Int) : backN m a < 2 ^ 64 := setOf_lt _

/-- mat.Reach. -/
theorem reach_any (m : List Nat) (a : Int) (w : World) (hm : Mat m) (hT : Tab w) :
    Calls Tryd.prog 43 #[matV m, .int .i64 a] w fun e w' => e = .returned (.int .u64 (reachN m a : Nat)) ∧ Below w.heap.size w w' := by
  unfold matV
  have hT1 : Tab (w.alloc (.cells (numsV m) 43)) := Tab.below hT hT.pos ((Below.refl _ _).alloc (Nat.le_refl _) _)
  have c := spread_any 56 w.heap.size m a (outsN m a) (fun i => outsN m (i : Int)) _ hT1 (nums_new m w) (outsN_lt m a) (fun i => outsN_lt m _) call56
    (fun W hg => reach1_any w.heap.size m hm a W hg) (fun i W _ hg => reach1_any w.heap.size m hm (i : Int) W hg)
  have e : pathN (outsN m a) (fun i => outsN m (i : Int)) = reachN m a := rfl
  rw [e] at c
  have hmf : ∀ (fn : Fn) (first cap : Array Value) (w : World), (Instr.makeFunc fn first cap).run Tryd.prog w = .ok (.func fn first cap) w := fun _ _ _ _ => rfl
  have C := Lib.hid c
  clear c e hT hT1 hm
  go_enter Tryd.func43, Tryd.ntmps43
  go_wp2_with fail
  refine (C.out).mono ?_
  rintro e w1 ⟨rfl, hB⟩
  have HB := Lib.hid (((Below.refl w.heap.size w).alloc (Nat.le_refl _) (.cells (numsV m) 43)).trans (hB.mono (by simp)))
  clear hB
  go_wp2_with fail
  go_ret
  exact ⟨rfl, HB.out⟩

/-- mat.Back. -/
theorem back_any (m : List Nat) (a : Int) (w : World) (hm : Mat m) (hT : Tab w) :
    Calls Tryd.prog 45 #[matV m, .int .i64 a] w fun e w' => e = .returned (.int .u64 (backN m a : Nat)) ∧ Below w.heap.size w w' := by
  unfold matV
  have hT1 : Tab (w.alloc (.cells (numsV m) 43)) := Tab.below hT hT.pos ((Below.refl _ _).alloc (Nat.le_refl _) _)
  have c := spread_any 58 w.heap.size m a (insN m a) (fun i => insN m (i : Int)) _ hT1 (nums_new m w) (insN_lt m a) (fun i => insN_lt m _) call58
    (fun W hg => back1_any w.heap.size m hm a W hg) (fun i W _ hg => back1_any w.heap.size m hm (i : Int) W hg)
  have e : pathN (insN m a) (fun i => insN m (i : Int)) = backN m a := rfl
  rw [e] at c
  have hmf : ∀ (fn : Fn) (first cap : Array Value) (w : World), (Instr.makeFunc fn first cap).run Tryd.prog w = .ok (.func fn first cap) w := fun _ _ _ _ => rfl
  have C := Lib.hid c
  clear c e hT hT1 hm
  go_enter Tryd.func45, Tryd.ntmps45
  go_wp2_with fail
  refine (C.out).mono ?_
  rintro e w1 ⟨rfl, hB⟩
  have HB := Lib.hid (((Below.refl w.heap.size w).alloc (Nat.le_refl _) (.cells (numsV m) 43)).trans (hB.mono (by simp)))
  clear hB
  go_wp2_with fail
  go_ret
  exact ⟨rfl, HB.out⟩
end Go.Proofs.YtkgfepnkikcpiaaDoor
