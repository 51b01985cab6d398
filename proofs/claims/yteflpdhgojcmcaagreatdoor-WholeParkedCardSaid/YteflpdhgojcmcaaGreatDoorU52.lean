/- THE CARD OF WholeParked: for every input the law returns true, and its argument reads afterwards as it read before. Under the row's own condition alone: the table deBruijn64tab of math/bits holds what its initialiser lays (the card ties that to the program's text). No conditions but those that each theorem names. -/
import Derived.Test.YteflpdhgojcmcaaGreatDoorU01
import Derived.Test.YteflpdhgojcmcaaGreatDoorU41
import Derived.Test.YteflpdhgojcmcaaGreatDoorU50
import Derived.Test.YteflpdhgojcmcaaGreatDoorU51
import Derived.Lib.SmallJoins
namespace Go.Proofs.YteflpdhgojcmcaaGreatDoor.lawWholeParked
open Go.ChangeShapes Go.WideShapes Go.ChangeAt Go.RowKit
set_option maxRecDepth 100000 in
/-- WHAT THE WALK GIVES, FOR EVERY ARGUMENT AND EVERY WORLD THAT HOLDS THE TABLE. -/
theorem contract (H : Type) (enc : TypeId × Value → H) (W : World) (base : Nat) (args : Array Value) (ds gs : List (DataW H)) (before : List MemPlace)
    (hval : ∀ (j : Nat) t v, Tryz.f4.params[j]? = some t → args[j]? = some v → Value.okWide Tryz.prog W .any base t v)
    (hW : DataW.Whole enc Tryz.prog Tryz.f4.params.toList Rows.wholeParkedSpec.vars false W args.toList ds gs before) (hL : laidMetH Tryz.prog Rows.wholeParkedRow.laid W) :
    Calls Tryz.prog 4 args W fun e W' => ∃ v, e = .returned v ∧ Rows.wholeParkedSpec.post enc Tryz.prog Tryz.f4 false true false false W args v W' := by
  have hW' := hW
  obtain ⟨p, q, hA0, hV, rfl, hfz, hnd⟩ := hW
  have hA : DataW.TrodAll enc Tryz.prog W 0 (fun _ => true) true Tryz.f4.params.toList args.toList ds p := hA0
  rw [Tryz.params4] at hA hval
  obtain ⟨v0, vs0, d0, ds0, p0, q0, hargs, rfl, rfl, h0, r0⟩ := trodAll_cons hA
  obtain ⟨rfl, rfl, rfl⟩ := trodAll_nil r0
  obtain rfl : args = #[v0] := by cases args; simp_all
  obtain ⟨rfl, rfl⟩ := trodVars_none hV
  clear hA0 hnd hfz
  have hT : Tab W := tab_of_laid hL
  have k0 : ∀ x ∈ p0, x.block < W.heap.size := fun x hx => by simpa using hW'.lt x (by simp [hx])
  have hres : ∀ W' : World, Below W.heap.size W W' → Rows.wholeParkedSpec.post enc Tryz.prog Tryz.f4 false true false false W #[v0] (.bool true) W' := fun W' hb =>
    law_post hW' rfl rfl (by kernel_rfl) hb (trodAll_cons_mk (Below.trod laidOut (by kernel_rfl) (of_decide_eq_true (by kernel_rfl)) h0 hb k0) trodAll_mk0)
  clear hW'
  obtain ⟨u0, u1, u2, u3, y0, y1, y2, y3, m, rfl, _, _, t0, t1, t2, t3⟩ := Go.Joins.open_agg4 Tryz.underlying45 (by kernel_rfl) (by kernel_rfl) (hval 0 45 v0 rfl rfl) h0
  obtain ⟨c, h, _⟩ := DataW.trod_bool Tryz.underlying4 t0
  obtain rfl : u0 = .bool c := by simpa using h
  obtain ⟨x, h, _, wx⟩ := DataW.trod_int Tryz.underlying5 t1
  obtain rfl : u1 = .int .u8 x := by simpa using h
  obtain ⟨n, h, _, wn⟩ := DataW.trod_int Tryz.underlying5 t2
  obtain rfl : u2 = .int .u8 n := by simpa using h
  obtain ⟨a, len, cap, ps, rfl, hP, hps⟩ := open_picks t3
  have bx := bounds_u8 wx
  have bn := bounds_u8 wn
  obtain ⟨x, rfl⟩ := Int.eq_ofNat_of_zero_le bx.1
  obtain ⟨n, rfl⟩ := Int.eq_ofNat_of_zero_le bn.1
  exact (whole4 works5 c x n (by omega) (by omega) a len cap ps W hT hP hps).mono fun e W' ⟨he, hb⟩ => ⟨_, he, hres W' hb⟩
theorem laid_met (os : Os) : laidMet Tryz.prog Rows.wholeParkedRow.laid ((laidWorld os).forCall (fun _ _ => 0) ⟨#[], #[.agg #[.bool false, .int .u8 0, .int .u8 0, .slice none 0 0]], []⟩).memory :=
  laidMet_of_run' 8 (by kernel_rfl) (by kernel_rfl)
theorem reads (os : Os) {H : Type} (enc : TypeId × Value → H) : ∃ places, DataW.whole enc Tryz.prog ((laidWorld os).forCall (fun _ _ => 0) ⟨#[], #[.agg #[.bool false, .int .u8 0, .int .u8 0, .slice none 0 0]], []⟩).memory Tryz.f4.params.toList Rows.wholeParkedSpec.vars false (#[.agg #[.bool false, .int .u8 0, .int .u8 0, .slice none 0 0]] : Array Value).toList 8 = some ([.agg [.lit (.bool false), .lit (.int .u8 0), .lit (.int .u8 0), .nil]], [], places) :=
  ⟨[], by kernel_rfl⟩
set_option maxRecDepth 100000 in
theorem lifted (os : Os) (started : os.Started) (H : Type) (enc : TypeId × Value → H) (F : Stop.Interp) :
    ReturnsInHanded {} Tryz.checked os 4 .any ((OpenSpec.ofChange Rows.wholeParkedSpec).preRow enc Tryz.prog Tryz.f4 Rows.wholeParkedRow.domain false Rows.wholeParkedRow.laid) (((OpenSpec.ofChange Rows.wholeParkedSpec).at F).post enc Tryz.prog Tryz.f4 false true false false) := by
  obtain ⟨places, hx⟩ := reads os enc
  refine returnsInHanded_of_row (C := Tryz.checked) (s := OpenSpec.ofChange Rows.wholeParkedSpec) own started (by kernel_rfl) Tryz.func4
    (witness_row_at (enc := enc) (C := Tryz.checked) false (laidWorld os) #[.agg #[.bool false, .int .u8 0, .int .u8 0, .slice none 0 0]] rfl (by kernel_rfl) (by kernel_rfl) (by kernel_rfl)
      (OpenSpec.preRow_of_cond 8 hx (by kernel_rfl) (fun k hk => by cases hk) (by kernel_rfl) (laid_met os))) ?_
  intro W base args ds gs before hval hW _ _ _ hL _ _
  exact contract H enc W base args ds gs before hval hW hL
theorem said : Rows.WholeParkedSaid :=
  OpenClaim.holds_of_cond 4 Tryz.f4 rfl rfl rfl rfl rfl rfl rfl ⟨rfl, rfl, rfl, rfl, rfl⟩ rfl rfl rfl rfl rfl (by kernel_rfl) Tryz.func4 closed
    (of_decide_eq_true (by kernel_rfl)) (by unfold Func.isWrapper; first | (rw [if_pos (by decide +kernel)]; kernel_rfl) | (rw [if_neg (by decide +kernel)]; exact ⟨rfl, rfl⟩))
    (fun os started H enc _ F => by rw [OpenClaim.pre_eq_preRow]; exact lifted os started H enc F)
/-- No parameter wants a stand-in; the program's own looks are on: what the card asks. -/
theorem plain (f : FuncId) (fn : Func) (hf : Tryz.pinned.checked.prog.funcNamed "warpbeam/warpbeamtop.WholeParked" = some f) (hfn : Tryz.pinned.checked.prog.funcs[f]? = some fn) :
    true = Tryz.pinned.checked.prog.looks [] ∧ ∀ (j : Nat) t, fn.params[j]? = some t → Tryz.pinned.checked.prog.wantsStandIn t = false := by
  obtain rfl : f = 4 := Option.some.inj ((show Tryz.prog.funcNamed "warpbeam/warpbeamtop.WholeParked" = some 4 by kernel_rfl).symm.trans hf) |>.symm
  obtain rfl : fn = Tryz.f4 := (Option.some.inj (Tryz.func4.symm.trans hfn)).symm
  refine ⟨by kernel_rfl, fun j t ht => ?_⟩
  rw [Tryz.params4] at ht
  have hm : t ∈ [45] := by simpa using Array.mem_of_getElem? ht
  have hall : ([45].all fun u => !Tryz.prog.wantsStandIn u) = true := by kernel_rfl
  exact (show Tryz.prog.wantsStandIn t = false by simpa using List.all_eq_true.1 hall t hm)
/-- The card itself. -/
theorem card : Rows.WholeParkedCardSaid :=
  Claim7.holds_tied_plain_at .later [] _ _ _ _ said (fun _ h => by cases h) (by kernel_rfl) (fun _ h => by cases h) wholeParked_row_tie rfl ⟨rfl, rfl⟩ (by kernel_rfl) rfl plain (by kernel_rfl)
#print axioms card
end Go.Proofs.YteflpdhgojcmcaaGreatDoor.lawWholeParked
