/- The graph's methods over an engine as a model: Begin, Values, Read, Write, Abort. The clock's late and Read over an engine as a model. The walk of graph's ahead, of a variable that nobody who is there wrote, or read but the slot itself. No conditions but those that each theorem names. -/
import Derived.Test.YteflpdhgojcmcaaGreatDoorU01
import Derived.Test.YteflpdhgojcmcaaGreatDoorU19
import Derived.Test.YteflpdhgojcmcaaGreatDoorU20
namespace Go.Proofs.YteflpdhgojcmcaaGreatDoor
open Go.RowKit PSet PMat
theorem chg_g {B : Nat} {w : World} {g : Nat} {e : EngM} {L : List Value} {v : Value} {K : List Value} {lg : Value} {ct : Int} {s : List VarM} {lgs : List Value} {z : Nat} (h : GrI B w g e L v K lg ct s lgs z) {w' : World} (hc : Chg (fun b => b = g) w w') : Lim GT B w w' :=
  Chg.weak (F := fun b => b = g) (G := InT GT B w) hc fun i hi => .inl (h.foot i (.inl hi))
theorem owns_g {B0 e k n g : Nat} {w w' : World} {v : Value} {xs : List Value} {cs : Array Value} (h : w.ownsRow B0 e k v n xs) (hc : Chg (fun b => b = g) w w') (hg : w.heap[g]? = some (.cells cs 151 (0, 0))) (he : e ≠ 151) : w'.ownsRow B0 e k v n xs :=
  owns_chg h hc fun b cs' hb hs => by
    subst hb
    rw [hg] at hs
    cases hs
    exact he rfl
theorem gsBegin (B : Nat) (w : World) (g : Nat) (e : EngM) (h : GrS B w g e) (hl : e.live = none) (hc : e.cnt < 100000) (hT : Tab w) :
    Calls Tryz.prog 329 #[.pointer (some ⟨g, 0, none⟩)] w fun en w' => en = .returned (.tuple #[.int .i64 ((e.cnt + 1 : Nat) : Int), .int .i64 0]) ∧ GrS B w' g { e with live := some none, cnt := e.cnt + 1 } ∧ Lim GT B w w' := by
  obtain ⟨L, v, K, lg, ct, s, lgs, z, h⟩ := h
  have hL := h.eng.lenL
  have hK := h.eng.lenK
  have h65 := h.live
  rw [hl] at h65
  refine (grBegin g L v K lg ct z e.cnt w h.eng h.one h.size h.zz (by simpa using h65) h.done h.cnt (by omega) (by omega) hT).mono ?_
  rintro en w' ⟨rfl, hE, hch⟩
  have hlim := chg_g h hch
  refine ⟨by rw [Int.natCast_add]; rfl, ⟨beganP L e.cnt, v, (K.set 0 (.slice none 0 0)).set 1 (.bool false), lg, ct, s, lgs, z, ?_⟩, hlim⟩
  exact {
    eng := hE
    base := h.base
    one := one_set (one_set (one_set h.one _ _ rfl) _ _ rfl) _ _ rfl
    size := by
      unfold beganP
      rw [List.getElem?_set_ne (by omega), List.getElem?_set_ne (by omega), List.getElem?_set_ne (by omega)]
      exact h.size
    zz := h.zz
    live := by
      unfold beganP
      rw [List.getElem?_set_ne (by omega), List.getElem?_set_ne (by omega), List.getElem?_set_self (by omega)]
      rfl
    done := by
      unfold beganP
      rw [List.getElem?_set_ne (by omega), List.getElem?_set_ne (by omega), List.getElem?_set_ne (by omega)]
      exact h.done
    cnt := by
      unfold beganP
      rw [List.getElem?_set_ne (by omega), List.getElem?_set_self (by simp [hL]), Int.natCast_add]
      rfl
    few := by simp only; omega
    mat := by
      unfold beganP
      rw [far_set _ _ _ _ _ (by omega), far_set _ _ _ _ _ (by omega), far_set _ _ _ _ _ (by omega)]
      exact h.mat
    ord := by
      unfold beganP
      rw [far_set _ _ _ _ _ (by omega), far_set _ _ _ _ _ (by omega), far_set _ _ _ _ _ (by omega)]
      exact h.ord
    store := owns_g h.store hch h.eng.at0 (by decide)
    vals := h.vals
    norm := h.norm
    len := h.len
    log := owns_g h.log hch h.eng.at0 (by decide)
    logs := h.logs.keep fun _ _ _ ho => owns_g ho hch h.eng.at0 (by decide)
    lfew := h.lfew
    tx := by
      rintro t ht
      simp only [Option.some.injEq] at ht
      subst ht
      refine ⟨?_, by simp, none, 0, ?_, ⟨rfl, .inl ⟨rfl, rfl⟩⟩, fun _ => ⟨rfl, rfl⟩, fun st hst => by cases hst⟩
      · unfold beganP
        rw [List.getElem?_set_self (by simp [hL]), Int.natCast_add]
        rfl
      · rw [List.getElem?_set_ne (by omega), List.getElem?_set_self (by omega)]
        rfl }
theorem gsValues (B : Nat) (w : World) (g : Nat) (e : EngM) (h : GrS B w g e) :
    Calls Tryz.prog 333 #[.pointer (some ⟨g, 0, none⟩)] w fun en w' => ∃ v', en = .returned v' ∧ w'.ownsRow w.heap.size 53 2 v' e.vals.length (regsC e.vals) ∧ Below w.heap.size w w' := by
  obtain ⟨L, v, K, lg, ct, s, lgs, z, h⟩ := h
  refine (grValues g L v K lg ct z s w h.eng h.size (by rcases h.zz with rfl | rfl <;> decide) h.storeAt (by have := h.len; omega)).mono ?_
  rintro en w' ⟨v', rfl, ho, hb⟩
  refine ⟨v', rfl, ?_, hb⟩
  rw [← h.vals, List.length_map]
  have : valsC s = regsC (s.map fun m => ((m.k, m.n) : Reg)) := by
    unfold valsC regsC
    rw [List.flatMap_map]
    rfl
  rw [← this]
  exact ho
theorem vals_at {s : List VarM} {vals : List Reg} (h : s.map (fun m => ((m.k, m.n) : Reg)) = vals) {x : Nat} {k n : Int} (hx : vals[x]? = some (k, n)) : ∃ m, s[x]? = some m ∧ m.k = k ∧ m.n = n := by
  rw [← h, List.getElem?_map] at hx
  obtain ⟨m, hm, he⟩ := Option.map_eq_some_iff.1 hx
  cases he
  exact ⟨m, hm, rfl, rfl⟩
theorem gsRead (B : Nat) (w : World) (g : Nat) (e : EngM) (x : Nat) (k n : Int) (h : GrS B w g e) (hB : B ≤ w.heap.size) (hl : e.live = some none) (hx : e.vals[x]? = some (k, n)) (hT : Tab w) :
    Calls Tryz.prog 331 #[.pointer (some ⟨g, 0, none⟩), .int .i64 (e.cnt : Int), .int .i64 (x : Int)] w fun en w' => en = .returned (.tuple #[.agg #[.int .i64 k, .int .i64 n], .int .i64 0]) ∧ GrS B w' g { e with live := some (some ⟨x, k, n, false⟩) } ∧ Lim GT B w w' := by
  obtain ⟨L, v, K, lg, ct, s, lgs, z, h⟩ := h
  have hK := h.eng.lenK
  have h65 := h.live
  rw [hl] at h65
  obtain ⟨t67, t1, ta, tc, tk, to, tn, _⟩ := h.tx none hl
  obtain ⟨rfl, rfl⟩ := tn rfl
  obtain ⟨m, hm, rfl, rfl⟩ := vals_at h.vals hx
  have hxl : x < s.length := (List.getElem?_eq_some_iff.1 hm).1
  have hmem := List.mem_of_getElem? hm
  obtain ⟨n1, n2, n3⟩ := h.norm m hmem
  have hvg : v.ownBlock ≠ some g := owns_type h.store h.eng.at0 (by decide)
  refine (grRead g L v K lg ct z e.cnt e.cnt x s m w h.eng h.size (by rcases h.zz with rfl | rfl <;> decide) (by simpa using h65) h.done t67 h.cnt (by omega) (Int.le_refl _) (by exact tk) h.storeAt hvg hm (by have := h.len; omega) (by have := h.len; omega) n3 n1 (by rcases n2 with e | e <;> omega) hT).mono ?_
  rintro en w' ⟨rfl, v', t', hE, ho, hs, hch⟩
  have hlim := chg_g h hch
  have hlen : (s.set x { m with marks := withN m.marks 0 }).length = s.length := List.length_set
  obtain ⟨_, ta', tc', rfl, _⟩ := RowAt.of_owns ho
  refine ⟨rfl, ⟨L, v', K.set 0 (.slice ta' 1 tc'), lg, ct, s.set x { m with marks := withN m.marks 0 }, lgs, z, ?_⟩, hlim⟩
  exact {
    eng := hE
    base := h.base
    one := h.one
    size := h.size
    zz := h.zz
    live := by simpa using h65
    done := h.done
    cnt := h.cnt
    few := h.few
    mat := h.mat
    ord := h.ord
    store := by rw [hlen]; exact owns_mono hs hB
    vals := by
      simp only
      rw [← h.vals, List.map_set]
      apply List.ext_getElem?
      intro i
      rw [List.getElem?_set]
      split
      · rename_i e
        subst e
        rw [List.getElem?_map, hm]
        simp [hxl]
      · rfl
    norm := by
      intro a ha
      rcases List.mem_or_eq_of_mem_set ha with ha | rfl
      · exact h.norm a ha
      · refine ⟨n1, ?_, n3⟩
        rcases n2 with e | e <;> simp [e, withN, bitN]
    len := by rw [hlen]; exact h.len
    log := owns_g h.log hch h.eng.at0 (by decide)
    logs := h.logs.keep fun _ _ _ ho => owns_g ho hch h.eng.at0 (by decide)
    lfew := h.lfew
    tx := by
      rintro t ht
      simp only [Option.some.injEq] at ht
      subst ht
      refine ⟨t67, t1, ta', tc', ?_, owns_mono ho hB, fun e => (by cases e), ?_⟩
      · rw [List.getElem?_set_self (by omega)]
        rfl
      · rintro st hst
        cases hst
        rw [hlen]
        exact ⟨by simp, by simpa using hxl, n3⟩ }
theorem gsWrite (B : Nat) (w : World) (g : Nat) (e : EngM) (x : Nat) (k n : Int) (h : GrS B w g e) (hB : B ≤ w.heap.size) (hl : e.live = some none) (hx : x < e.vals.length) (hv : rightV k n = true) (hT : Tab w) :
    Calls Tryz.prog 334 #[.pointer (some ⟨g, 0, none⟩), .int .i64 (e.cnt : Int), .int .i64 (x : Int), .agg #[.int .i64 k, .int .i64 n]] w fun en w' => en = .returned (.int .i64 0) ∧ GrS B w' g { e with live := some (some ⟨x, k, n, true⟩) } ∧ Lim GT B w w' := by
  obtain ⟨L, v, K, lg, ct, s, lgs, z, h⟩ := h
  have hK := h.eng.lenK
  have h65 := h.live
  rw [hl] at h65
  obtain ⟨t67, t1, ta, tc, tk, to, tn, _⟩ := h.tx none hl
  obtain ⟨rfl, rfl⟩ := tn rfl
  rw [← h.vals, List.length_map] at hx
  have hl64 := h.len
  obtain ⟨_, va, vc, hve, _⟩ := h.storeAt
  subst hve
  refine (grWrite g L va s.length vc K lg ct z e.cnt e.cnt x k n w h.eng h.size (by rcases h.zz with rfl | rfl <;> decide) (by simpa using h65) h.done t67 h.cnt (by omega) (Int.le_refl _) (by exact tk) (by omega) (by omega) (by omega) hv hT).mono ?_
  rintro en w' ⟨rfl, t', hE, ho, hch⟩
  have hlim := chg_g h hch
  obtain ⟨_, ta', tc', rfl, _⟩ := RowAt.of_owns ho
  refine ⟨rfl, ⟨L, .slice va s.length vc, K.set 0 (.slice ta' 1 tc'), lg, ct, s, lgs, z, ?_⟩, hlim⟩
  exact {
    eng := hE
    base := h.base
    one := h.one
    size := h.size
    zz := h.zz
    live := by simpa using h65
    done := h.done
    cnt := h.cnt
    few := h.few
    mat := h.mat
    ord := h.ord
    store := owns_g h.store hch h.eng.at0 (by decide)
    vals := h.vals
    norm := h.norm
    len := h.len
    log := owns_g h.log hch h.eng.at0 (by decide)
    logs := h.logs.keep fun _ _ _ ho => owns_g ho hch h.eng.at0 (by decide)
    lfew := h.lfew
    tx := by
      rintro t ht
      simp only [Option.some.injEq] at ht
      subst ht
      refine ⟨t67, t1, ta', tc', ?_, owns_mono ho hB, fun e => (by cases e), ?_⟩
      · rw [List.getElem?_set_self (by omega)]
        rfl
      · rintro st hst
        cases hst
        exact ⟨by simp, by simpa using hx, hv⟩ }
/-- over, in the words of the model. -/
theorem gsOver (B : Nat) (w : World) (g : Nat) (e : EngM) (com : Bool) (t : Option StepM) {L : List Value} {v : Value} {K : List Value} {lg : Value} {ct : Int} {s : List VarM} {lgs : List Value} {z : Nat} (h : GrI B w g e L v K lg ct s lgs z) (hB : B ≤ w.heap.size) (hB0 : 0 < B) (hl : e.live = some t) (hfew : e.log.length < 100000) (hT : Tab w) :
    Calls Tryz.prog 337 #[.pointer (some ⟨g, 0, none⟩), .int .i64 0, .bool com] w fun en w' => en = .returned (.tuple #[]) ∧ GrS B w' g (e.over com t) ∧ Lim GT B w w' := by
  have h65 := h.live
  rw [hl] at h65
  obtain ⟨t67, t1, ta, tc, tk, to, _, tx⟩ := h.tx t hl
  have hvg : v.ownBlock ≠ some g := owns_type h.store h.eng.at0 (by decide)
  have htg : (Value.slice ta (optN t) tc).ownBlock ≠ some g := owns_type to h.eng.at0 (by decide)
  have hvl : ∀ b, v.ownBlock = some b → lg.ownBlock ≠ some b := by
    intro b hb hlb
    obtain ⟨_, h2⟩ := h.log
    rcases h2 with ⟨e, _⟩ | ⟨b', cap, cur, e1, _, hg, _⟩
    · rw [e] at hlb; cases hlb
    · rw [e1] at hlb
      simp only [Value.ownBlock, Option.some.injEq] at hlb
      subst hlb
      exact owns_type h.store hg (by decide) hb
  have hlen := h.len
  refine (grOver B g L v K lg ct e.cnt ta tc com t s e.log.length lgs w h.eng h.one (by simpa using h65) h.done t67 h.mat tk (RowAt.of_owns to) htg (fun st hst => ⟨(tx st hst).1, by have := (tx st hst).2.1; omega⟩) h.storeAt (by omega) (fun a ha => by rcases (h.norm a ha).2.1 with e | e <;> omega) hvg hvl h.log h.lfew hB hT (by have := h.base; omega)).mono ?_
  rintro en w' ⟨rfl, hp⟩
  have := GrI.over h h.logs hB rfl (fun m hm => ⟨.inl (h.norm m hm).1, (h.norm m hm).2⟩) h.log h.eng hfew hp
  rw [h.vals] at this
  exact ⟨rfl, this⟩
set_option maxRecDepth 100000 in
theorem gsAbort (B : Nat) (w : World) (g : Nat) (e : EngM) (t : Option StepM) (h : GrS B w g e) (hB : B ≤ w.heap.size) (hB0 : 0 < B) (hl : e.live = some t) (hfew : e.log.length < 100000) (hT : Tab w) :
    Calls Tryz.prog 327 #[.pointer (some ⟨g, 0, none⟩), .int .i64 (e.cnt : Int)] w fun en w' => en = .returned (.int .i64 0) ∧ GrS B w' g (e.over false t) ∧ Lim GT B w w' := by
  obtain ⟨L, v, K, lg, ct, s, lgs, z, h⟩ := h
  have h65 := h.live
  rw [hl] at h65
  obtain ⟨t67, t1, _⟩ := h.tx t hl
  have C1 := Lib.hid (grWho g z e.cnt e.cnt w (h.eng.pool h.size) (by rcases h.zz with rfl | rfl <;> decide) (h.eng.pool (by simpa using h65)) (h.eng.pool h.done) (h.eng.pool t67) (h.eng.pool h.cnt) (by omega) (Int.le_refl _) hT)
  have C2 := Lib.hid (fun (W : World) (hb : Below w.heap.size w W) => gsOver B W g e false t (h.lim (Lim.of_below (E := fun _ => false) (B := B) hb) rfl rfl rfl rfl) (Nat.le_trans hB hb.size) hB0 hl hfew (hT.below (by omega) hb))
  clear h h65 t67 t1 hl hT hfew
  generalize e.over false t = e2 at *
  generalize (e.cnt : Int) = c at *
  go_enter Tryz.func327, Tryz.ntmps327
  go_wp2_with fail
  refine (C1.out).mono ?_
  rintro en y ⟨rfl, hb⟩
  have C2' := Lib.hid (C2.out y hb)
  have HB := Lib.hid hb
  clear hb C2
  go_wp2_with fail
  refine (C2'.out).mono ?_
  rintro en y2 ⟨rfl, h1, h2⟩
  have HF := Lib.hid (And.intro h1 (Lim.trans (Lim.of_below HB.out) h2))
  clear h1 h2
  go_wp2_with fail
  go_ret
  exact ⟨rfl, HF.out.1, HF.out.2⟩
end Go.Proofs.YteflpdhgojcmcaaGreatDoor
namespace Go.Proofs.YteflpdhgojcmcaaGreatDoor
open Go.RowKit PSet PMat
set_option maxRecDepth 100000 in
theorem clLate (g k vb off n c x : Nat) (ver st : Int) (w : World) (h1 : w.cell? ⟨g, 1, none⟩ = some (.slice (some ⟨vb, off, none⟩) n c)) (hx : x < n) (_hn : n ≤ 100000) (hv : w.cell? ⟨vb, off + x * 5 + 2, none⟩ = some (.int .i64 ver)) (hk : w.cell? ⟨k, 1, none⟩ = some (.int .i64 st)) (hle : ver ≤ st) :
    Calls Tryz.prog 319 #[.pointer (some ⟨g, 0, none⟩), .pointer (some ⟨k, 0, none⟩), .int .i64 (x : Int)] w fun e w' => e = .returned (.bool false) ∧ w' = w.drew := by
  have hx0 : (0 : Int) ≤ (x : Int) := by omega
  have hxn : (x : Int) < (n : Int) := by omega
  have hle' : ¬ (st < ver) := by omega
  go_enter Tryz.func319, Tryz.ntmps319
  go_wp2_with fail
  have hS0 : (fun w' : World => w'.cell? ⟨g, 1, none⟩ = some (.slice (some ⟨vb, off, none⟩) n c) ∧ w'.cell? ⟨vb, off + x * 5 + 2, none⟩ = some (.int .i64 ver) ∧ w'.cell? ⟨k, 1, none⟩ = some (.int .i64 st)) w.drew := ⟨h1, hv, hk⟩
  refine zRegion 13 (S := fun w' => w'.cell? ⟨g, 1, none⟩ = some (.slice (some ⟨vb, off, none⟩) n c) ∧ w'.cell? ⟨vb, off + x * 5 + 2, none⟩ = some (.int .i64 ver) ∧ w'.cell? ⟨k, 1, none⟩ = some (.int .i64 st)) (by kernel_rfl) hS0 (fun hHeld => ?_)
  clear hS0
  refine zd 0 (v := ?_) ?_ ?_
  rotate_left
  · rintro w ⟨hS1, hS2, hS3⟩; go_simp; try with_reducible rfl
  simp only [Act.put, pt1, pt2, pt3]
  refine zd 1 (v := ?_) ?_ ?_
  rotate_left
  · rintro w ⟨hS1, hS2, hS3⟩; go_simp; try with_reducible rfl
  simp only [Act.put, pt1, pt2, pt3]
  refine zd 2 (v := ?_) ?_ ?_
  rotate_left
  · rintro w ⟨hS1, hS2, hS3⟩; go_simp; try with_reducible rfl
  simp only [Act.put, pt1, pt2, pt3]
  refine zd 3 (v := ?_) ?_ ?_
  rotate_left
  · rintro w ⟨hS1, hS2, hS3⟩; go_simp; try with_reducible rfl
  simp only [Act.put, pt1, pt2, pt3]
  refine zd 4 (v := ?_) ?_ ?_
  rotate_left
  · rintro w ⟨hS1, hS2, hS3⟩; go_simp; try with_reducible rfl
  simp only [Act.put, pt1, pt2, pt3]
  refine zd 5 (v := ?_) ?_ ?_
  rotate_left
  · rintro w ⟨hS1, hS2, hS3⟩; go_simp; try with_reducible rfl
  simp only [Act.put, pt1, pt2, pt3]
  refine zd 6 (v := ?_) ?_ ?_
  rotate_left
  · rintro w ⟨hS1, hS2, hS3⟩; go_simp; try with_reducible rfl
  simp only [Act.put, pt1, pt2, pt3]
  refine zd 7 (v := ?_) ?_ ?_
  rotate_left
  · rintro w ⟨hS1, hS2, hS3⟩; go_simp; try with_reducible rfl
  simp only [Act.put, pt1, pt2, pt3]
  refine zd 8 (v := ?_) ?_ ?_
  rotate_left
  · rintro w ⟨hS1, hS2, hS3⟩; go_simp; try with_reducible rfl
  simp only [Act.put, pt1, pt2, pt3]
  refine zd 9 (v := ?_) ?_ ?_
  rotate_left
  · rintro w ⟨hS1, hS2, hS3⟩; go_simp; try with_reducible rfl
  simp only [Act.put, pt1, pt2, pt3]
  refine zd 10 (v := ?_) ?_ ?_
  rotate_left
  · rintro w ⟨hS1, hS2, hS3⟩; go_simp; try with_reducible rfl
  simp only [Act.put, pt1, pt2, pt3]
  refine zd 11 (v := ?_) ?_ ?_
  rotate_left
  · rintro w ⟨hS1, hS2, hS3⟩; go_simp; try with_reducible rfl
  simp only [Act.put, pt1, pt2, pt3]
  refine zd 12 (v := ?_) ?_ ?_
  rotate_left
  · rintro w ⟨hS1, hS2, hS3⟩; go_simp; try with_reducible rfl
  simp only [Act.put, pt1, pt2, pt3]
  refine zla (fun K' hK => ?_)
  go_simp
  refine hK.out _ _ ?_
  clear hK K'
  try simp only [Act.put, pt1, pt2, pt3]
  go_wp2_with fail
  go_ret
  exact ⟨by simp; omega, rfl⟩
set_option maxRecDepth 100000 in
set_option maxHeartbeats 1000000 in
theorem csRead (B : Nat) (w : World) (g : Nat) (e : EngM) (x : Nat) (k n : Int) (h : ClS B w g e) (hB : B ≤ w.heap.size) (hl : e.live = some none) (hx : e.vals[x]? = some (k, n)) :
    Calls Tryz.prog 313 #[.pointer (some ⟨g, 0, none⟩), .int .i64 (e.cnt : Int), .int .i64 (x : Int)] w fun en w' => en = .returned (.tuple #[.agg #[.int .i64 k, .int .i64 n], .int .i64 0]) ∧ ClS B w' g { e with live := some (some ⟨x, k, n, false⟩) } ∧ Lim CT B w w' := by
  obtain ⟨many, clk, v, wv, ks, s, h⟩ := h
  obtain ⟨kk, ta, tc, b, off, c, hk, h1, rfl, hp, hw, ho, hn, _, hin⟩ := h.live hl
  obtain ⟨rfl, rfl⟩ := hn rfl
  obtain ⟨⟨mk, mn, mver, mwr, mm⟩, hm, he1, he2⟩ := vals_at h.vals hx
  simp only at he1 he2
  subst he1 he2
  have hxl : x < s.length := (List.getElem?_eq_some_iff.1 hm).1
  obtain ⟨n1, n2⟩ := h.norm _ (List.mem_of_getElem? hm)
  simp only at n1 n2
  obtain ⟨_, va, vc, rfl, hvr⟩ := RowAt.of_owns h.store
  obtain ⟨vb, voff, rfl, hvl, hvr⟩ := hvr (by omega)
  have hcn := h.cnt
  have hlen := h.len
  have hgl := block_lt h.eng
  have hkl := block_lt hw
  have hkg := work_not hw h.eng (by decide)
  have C1 := Lib.hid (fun (W : World) (hb : Below w.heap.size w W) => clWho g b off ks.length c kk (e.cnt - 1) many W ((hb.cell (p := ⟨g, 0, none⟩) hgl).trans (cell_of_row _ _ 0 _ _ _ h.eng)) (by have := h.pos; omega) ((hb.cell (p := ⟨g, 3, none⟩) hgl).trans (cell_of_row _ _ 3 _ _ _ h.eng)) (by omega) (by have := h.few; omega) ((hb.cell (p := ⟨b, off + (e.cnt - 1), none⟩) (block_lt_of_cell hp)).trans hp) ((hb.cell (p := ⟨kk, 2, none⟩) hkl).trans (cell_of_row _ _ 2 _ _ _ hw)))
  rw [show ((e.cnt - 1 + 1 : Nat) : Int) = (e.cnt : Int) from by omega] at C1
  have C2 := Lib.hid (fun (W : World) (hb : Below w.heap.size w W) => get_yes (.slice (some ⟨vb, voff, none⟩) s.length vc) s x _ W ((RowAt.of_owns h.store).below hb) hm (by omega))
  have C3 := Lib.hid (fun W => look_nil (x : Int) W)
  have C4 := Lib.hid (fun W => txnRead_nil (x : Int) mk mn W (by omega) (by omega) n2)
  have hvx := chunk_range (f := VarM.cells) (k := 5) (fun _ => rfl) hvr hm
  have C5 := Lib.hid (fun (W : World) (hb : Below w.heap.size w W) => clLate g kk vb voff s.length vc x mver clk W ((hb.cell (p := ⟨g, 1, none⟩) hgl).trans (cell_of_row _ _ 1 _ _ _ h.eng)) hxl (by omega) ((hb.cell (p := ⟨vb, voff + x * 5 + 2, none⟩) hvl).trans (hvx 2 _ rfl)) ((hb.cell (p := ⟨kk, 1, none⟩) hkl).trans (cell_of_row _ _ 1 _ _ _ hw)) n1)
  have c1 := cell_of_row _ _ 1 _ _ _ h.eng
  have HFIN := Lib.hid (fun (w' : World) (tb : Option Addr) (tm td : Nat) hw' ho' (hch : Chg (fun b => b = kk) w w') => ClI.again (w' := w') (tb := tb) (tm := tm) (td := td) (st := ⟨x, mk, mn, false⟩) h hl hk hw hw' ho' hch ⟨by simp, by simpa using hxl, n2⟩)
  have HW := Lib.hid hw
  have HIN := Lib.hid hin
  clear h hk h1 hp hw ho hin hl hvr hvx hm hn hcn n1 n2 hx
  generalize (e.cnt : Int) = cc at *
  have hb1 : Below w.heap.size w (w.alloc (.cells #[.int .i64 0, .int .i64 0] 53)) := (Below.refl _ _).alloc (Nat.le_refl _) _
  have hr1 := Go.heap_alloc_new w (.cells #[.int .i64 0, .int .i64 0] 53)
  go_enter Tryz.func313, Tryz.ntmps313
  go_upto_region 1 with (fail)
  generalize w.alloc (.cells #[.int .i64 0, .int .i64 0] 53) = W1 at *
  have C1' := Lib.hid (C1.out W1 hb1)
  have d1 := (hb1.cell (p := ⟨g, 1, none⟩) hgl).trans c1
  have C2' := Lib.hid (C2.out W1 hb1)
  have HB1 := Lib.hid hb1
  have HR1 := Lib.hid hr1
  clear hb1 hr1 c1 C1 C2
  go_wp2_with fail
  refine (C1'.out).mono ?_
  rintro en y ⟨rfl, rfl⟩
  go_wp2_with fail
  refine (C2'.out).mono ?_
  rintro en y2 ⟨rfl, hb2⟩
  simp only [VarM.cells]
  have hb12 := HB1.out.trans (hb2.mono HB1.out.size)
  have r2 := (hb2.block _ (block_lt HR1.out)).trans HR1.out
  have HB2 := Lib.hid hb12
  have HR2 := Lib.hid r2
  clear hb2 hb12 r2 d1 C1' C2'
  go_upto_region 5 with (fail)
  have p10 := Go.heap_alloc_new y2 (.cells #[.int .i64 mk, .int .i64 mn, .int .i64 mver, .int .i64 mwr, .int .u64 (mm : Int)] 197)
  have hbA : Below y2.heap.size y2 (y2.alloc (.cells #[.int .i64 mk, .int .i64 mn, .int .i64 mver, .int .i64 mwr, .int .u64 (mm : Int)] 197)) := (Below.refl _ _).alloc (Nat.le_refl _) _
  generalize y2.alloc (.cells #[.int .i64 mk, .int .i64 mn, .int .i64 mver, .int .i64 mwr, .int .u64 (mm : Int)] 197) = W3 at *
  have hb3 := HB2.out.trans (hbA.mono HB2.out.size)
  have r3 := (hbA.block _ (block_lt HR2.out)).trans HR2.out
  have k3 : W3.cell? ⟨kk, 0, none⟩ = some (.slice none 0 0) := (hb3.cell (p := ⟨kk, 0, none⟩) hkl).trans (cell_of_row _ _ 0 _ _ _ HW.out)
  have ls : w.heap.size < y2.heap.size := block_lt HR2.out
  have l10 : y2.heap.size < W3.heap.size := block_lt p10
  have C3' := Lib.hid (C3.out W3)
  have HB3 := Lib.hid hb3
  have HR3 := Lib.hid r3
  have HP := Lib.hid p10
  clear hb3 r3 p10 hbA HR2 HR1
  go_wp2_with fail
  refine (C3'.out).mono ?_
  rintro en y4 ⟨rfl, hb4⟩
  have hb34 := HB3.out.trans (hb4.mono HB3.out.size)
  have r4 := (hb4.block _ (block_lt HR3.out)).trans HR3.out
  have p4 := (hb4.block _ l10).trans HP.out
  have HB4 := Lib.hid hb34
  have HR4 := Lib.hid r4
  have HP4 := Lib.hid p4
  have ly : W3.heap.size ≤ y4.heap.size := hb4.size
  clear hb4 hb34 r4 p4 C3' k3
  go_upto_region 10 with (fail)
  have hbC : Below y4.heap.size y4 (y4.alloc (.cells #[.int .i64 0, .int .i64 0] 53)) := (Below.refl _ _).alloc (Nat.le_refl _) _
  generalize y4.alloc (.cells #[.int .i64 0, .int .i64 0] 53) = W5 at *
  have hb5 := HB4.out.trans (hbC.mono HB4.out.size)
  have r5 := (hbC.block _ (block_lt HR4.out)).trans HR4.out
  have p5 := (hbC.block _ (block_lt HP4.out)).trans HP4.out
  have k5 : W5.cell? ⟨kk, 0, none⟩ = some (.slice none 0 0) := (hb5.cell (p := ⟨kk, 0, none⟩) hkl).trans (cell_of_row _ _ 0 _ _ _ HW.out)
  have t0 := cell_of_row _ _ 0 _ _ _ p5
  have t1 := cell_of_row _ _ 1 _ _ _ p5
  have HB5 := Lib.hid hb5
  have HR5 := Lib.hid r5
  have HP5 := Lib.hid p5
  have ly5 : y4.heap.size ≤ W5.heap.size := hbC.size
  clear hb5 r5 p5 hbC
  have hS0 : (fun w' : World => w'.cell? ⟨kk, 0, none⟩ = some (.slice none 0 0) ∧ w'.cell? ⟨y2.heap.size, 0, none⟩ = some (.int .i64 mk) ∧ w'.cell? ⟨y2.heap.size, 1, none⟩ = some (.int .i64 mn)) W5.drew := ⟨k5, t0, t1⟩
  refine zRegion 12 (S := fun w' => w'.cell? ⟨kk, 0, none⟩ = some (.slice none 0 0) ∧ w'.cell? ⟨y2.heap.size, 0, none⟩ = some (.int .i64 mk) ∧ w'.cell? ⟨y2.heap.size, 1, none⟩ = some (.int .i64 mn)) (by kernel_rfl) hS0 (fun hHeld => ?_)
  clear hS0
  refine zd 0 (v := ?_) ?_ ?_
  rotate_left
  · rintro w ⟨hS1, hS2, hS3⟩; go_simp; try with_reducible rfl
  simp only [Act.put, pt1, pt2, pt3]
  refine zd 1 (v := ?_) ?_ ?_
  rotate_left
  · rintro w ⟨hS1, hS2, hS3⟩; go_simp; try with_reducible rfl
  simp only [Act.put, pt1, pt2, pt3]
  refine zd 2 (v := ?_) ?_ ?_
  rotate_left
  · rintro w ⟨hS1, hS2, hS3⟩; go_simp; try with_reducible rfl
  simp only [Act.put, pt1, pt2, pt3]
  refine zd 3 (v := ?_) ?_ ?_
  rotate_left
  · rintro w ⟨hS1, hS2, hS3⟩; go_simp; try with_reducible rfl
  simp only [Act.put, pt1, pt2, pt3]
  refine zd 4 (v := ?_) ?_ ?_
  rotate_left
  · rintro w ⟨hS1, hS2, hS3⟩; go_simp; try with_reducible rfl
  simp only [Act.put, pt1, pt2, pt3]
  refine zd 5 (v := ?_) ?_ ?_
  rotate_left
  · rintro w ⟨hS1, hS2, hS3⟩; go_simp; try with_reducible rfl
  simp only [Act.put, pt1, pt2, pt3]
  refine zd 6 (v := ?_) ?_ ?_
  rotate_left
  · rintro w ⟨hS1, hS2, hS3⟩; go_simp; try with_reducible rfl
  simp only [Act.put, pt1, pt2, pt3]
  have C4' := Lib.hid (C4.out W5.drew)
  refine zcl 7 (fun K' hK => ?_)
  go_simp
  go_at_call 197
  refine (C4'.out).mono ?_
  rintro en y6 ⟨v', rfl, hown, hb6⟩
  obtain ⟨_, ta, tc, rfl, _⟩ := RowAt.of_owns hown
  have hb56 := HB5.out.drew.trans (hb6.mono HB5.out.drew.size)
  have r6 := (hb6.block _ (block_lt HR5.out)).trans HR5.out
  have p6 := (hb6.block _ (block_lt HP5.out)).trans HP5.out
  have kw6 := (hb56.block _ hkl).trans HW.out
  have hS6 : (fun w' : World => w'.cell? ⟨kk, 0, none⟩ = some (.slice none 0 0) ∧ w'.cell? ⟨y2.heap.size, 0, none⟩ = some (.int .i64 mk) ∧ w'.cell? ⟨y2.heap.size, 1, none⟩ = some (.int .i64 mn)) y6 := ⟨cell_of_row _ _ 0 _ _ _ kw6, cell_of_row _ _ 0 _ _ _ p6, cell_of_row _ _ 1 _ _ _ p6⟩
  have HB6 := Lib.hid hb56
  have HR6 := Lib.hid r6
  have HP6 := Lib.hid p6
  have HW6 := Lib.hid kw6
  have HO6 := Lib.hid hown
  have l6 : W5.heap.size ≤ y6.heap.size := hb6.size
  clear hb56 r6 p6 kw6 hown hb6 C4'
  go_wp2_with fail
  refine hK.out _ _ ?_ (fun hHeld => ?_)
  · exact hS6
  clear hK K'
  try simp only [Act.put, pt1, pt2, pt3]
  refine zd 8 (v := ?_) ?_ ?_
  rotate_left
  · rintro w ⟨hS1, hS2, hS3⟩; go_simp; try with_reducible rfl
  simp only [Act.put, pt1, pt2, pt3]
  refine zd 9 (v := ?_) ?_ ?_
  rotate_left
  · rintro w ⟨hS1, hS2, hS3⟩; go_simp; try with_reducible rfl
  simp only [Act.put, pt1, pt2, pt3]
  refine zd 10 (v := ?_) ?_ ?_
  rotate_left
  · rintro w ⟨hS1, hS2, hS3⟩; go_simp; try with_reducible rfl
  simp only [Act.put, pt1, pt2, pt3]
  refine zcl 11 (fun K' hK => ?_)
  go_simp
  refine hK.out _ _ (by assumption) (fun hHeld => ?_)
  clear hK K'
  try simp only [Act.put, pt1, pt2, pt3]
  refine zla (fun K' hK => ?_)
  go_simp
  refine hK.out _ _ ?_
  clear hK K'
  try simp only [Act.put, pt1, pt2, pt3]
  clear hHeld hS6
  have C5' := Lib.hid (C5.out y6 HB6.out)
  go_wp2_with fail
  refine (C5'.out).mono ?_
  rintro en y7 ⟨rfl, rfl⟩
  have q0 : y6.drew.cell? ⟨kk, 0, none⟩ = some (.slice none 0 0) := cell_of_row _ _ 0 _ _ _ HW6.out
  have qf : y6.drew.frozen? ⟨kk, 0, none⟩ = false := frozen_of_row _ _ 0 _ _ HW6.out
  have hk8 : WorkAt (y6.setCell ⟨kk, 0, none⟩ (.slice ta 1 tc)).drew kk (.slice ta 1 tc) clk false false := heap_setCell_same _ _ 0 _ _ _ HW6.out
  have ho8 : ((y6.setCell ⟨kk, 0, none⟩ (.slice ta 1 tc)).drew).ownsRow B 155 4 (.slice ta 1 tc) 1 [.int .i64 (x : Int), .int .i64 mk, .int .i64 mn, .bool false] := owns_mono (owns_keep HO6.out fun j hj _ => heap_setCell_other _ _ _ _ (by have := HB5.out.size; simp at hj ⊢; omega)) (by have := HB5.out.size; simp; omega)
  have hc8 : Chg (fun b => b = kk) w (y6.setCell ⟨kk, 0, none⟩ (.slice ta 1 tc)).drew := (Chg.setCell (F := fun b => b = kk) (Chg.of_below HB6.out) (p := ⟨kk, 0, none⟩) (.inl rfl) _).drew
  have p8 : (y6.setCell ⟨kk, 0, none⟩ (.slice ta 1 tc)).drew.heap[y2.heap.size]? = _ := (heap_setCell_other _ _ _ _ (show y2.heap.size ≠ kk by omega)).trans HP6.out
  have r8 : (y6.setCell ⟨kk, 0, none⟩ (.slice ta 1 tc)).drew.heap[w.heap.size]? = _ := (heap_setCell_other _ _ _ _ (show w.heap.size ≠ kk by omega)).trans HR6.out
  have u0 := cell_of_row _ _ 0 _ _ _ p8
  have u1 := cell_of_row _ _ 1 _ _ _ p8
  have s0 := cell_of_row _ _ 0 _ _ _ r8
  have s1 := cell_of_row _ _ 1 _ _ _ r8
  have sf := fun j => frozen_of_row _ _ j _ _ r8
  have HF := Lib.hid (And.intro hk8 (And.intro ho8 (And.intro hc8 r8)))
  clear hk8 ho8 hc8 p8 r8
  go_upto_region 17 with (fail)
  generalize (y6.setCell ⟨kk, 0, none⟩ (.slice ta 1 tc)).drew = W8 at *
  have e9 : ∀ v0 v1 : Value, ((W8.setCell ⟨w.heap.size, 0, none⟩ v0).setCell ⟨w.heap.size, 1, none⟩ v1).heap[w.heap.size]? = some (.cells #[v0, v1] 53 (0, 0)) := fun v0 v1 => setCells_row w.heap.size 53 [v0, v1] _ 0 W8 HF.out.2.2.2
  have o9 : ∀ (v0 v1 : Value) (j : Nat), j ≠ w.heap.size → ((W8.setCell ⟨w.heap.size, 0, none⟩ v0).setCell ⟨w.heap.size, 1, none⟩ v1).heap[j]? = W8.heap[j]? := fun v0 v1 j hj => setCells_other w.heap.size [v0, v1] 0 W8 j hj
  have c9 : ∀ (v0 v1 : Value), Chg (fun b => b = kk) w ((W8.setCell ⟨w.heap.size, 0, none⟩ v0).setCell ⟨w.heap.size, 1, none⟩ v1) := fun v0 v1 => Chg.setCell (F := fun b => b = kk) (Chg.setCell (F := fun b => b = kk) HF.out.2.2.1 (p := ⟨w.heap.size, 0, none⟩) (.inr (Nat.le_refl _)) _) (p := ⟨w.heap.size, 1, none⟩) (.inr (Nat.le_refl _)) _
  have HE9 := Lib.hid e9
  have HO9 := Lib.hid o9
  have HC9 := Lib.hid c9
  clear e9 o9 c9
  go_wp2_with fail
  have hlim : Lim CT B w ((W8.setCell ⟨w.heap.size, 0, none⟩ (.int .i64 mk)).setCell ⟨w.heap.size, 1, none⟩ (.int .i64 mn)) := Chg.weak (F := fun b => b = kk) (G := InT CT B w) (HC9.out _ _) fun i hi => .inl (by subst hi; exact HIN.out)
  refine bodyPost_ret (results_cell_tmp rfl _ _ w.heap.size 53 #[.int .i64 mk, .int .i64 mn] (0, 0) _ rfl (HE9.out _ _) Tryz.underlying53 rfl (by kernel_rfl)) rfl ⟨rfl, ⟨many, clk, .slice (some ⟨vb, voff, none⟩) s.length vc, .slice (some ⟨b, off, none⟩) ks.length c, ks, s, HFIN.out _ ta 1 tc ((HO9.out _ _ kk (by omega)).trans HF.out.1) (owns_chg HF.out.2.1 (Chg.setCell (F := fun b => b = w.heap.size) (Chg.setCell (F := fun b => b = w.heap.size) (Chg.refl _ _) (p := ⟨w.heap.size, 0, none⟩) (.inl rfl) _) (p := ⟨w.heap.size, 1, none⟩) (.inl rfl) _) (fun b cs hb hs => by
    subst hb
    rw [HF.out.2.2.2] at hs
    cases hs)) (HC9.out _ _)⟩, hlim⟩
end Go.Proofs.YteflpdhgojcmcaaGreatDoor
namespace Go.Proofs.YteflpdhgojcmcaaGreatDoor
open Go.RowKit PSet PMat
set_option maxRecDepth 100000 in
set_option maxHeartbeats 1000000 in
theorem grAhead (L : List Value) (m : VarM) (w : World) (hL : L.length = 100) (h1 : L.toArray.all (·.oneCell') = true) (hw : m.wr = -1) (hm : lessN m.marks 0 = 0) (hm2 : m.marks < 2 ^ 64) (hT : Tab w) :
    Calls Tryz.prog 339 #[.agg L.toArray, .int .i64 0, .agg m.cells.toArray] w fun e w' => e = .returned (.tuple #[.agg L.toArray, .int .i64 0]) ∧ Below w.heap.size w w' := by
  obtain ⟨mk, mn, mver, mwr, mm⟩ := m
  simp only at hw hm hm2
  subst hw
  obtain ⟨W, hW⟩ : ∃ W, W = ((w.alloc (.cells L.toArray 144)).alloc (.cells #[.int .i64 mk, .int .i64 mn, .int .i64 mver, .int .i64 (-1), .int .u64 (mm : Int)] 197)).alloc (.cells zeroPool 144) := ⟨_, rfl⟩
  have hb : Below w.heap.size w W := by rw [hW]; exact (((Below.refl _ _).alloc (Nat.le_refl _) _).alloc (by simp) _).alloc (by simp; omega) _
  have r3 : W.heap[w.heap.size]? = some (.cells L.toArray 144 (0, 0)) := by rw [hW]; exact (heap_alloc_old _ _ (by simp; omega)).trans ((heap_alloc_old _ _ (by simp)).trans (Go.heap_alloc_new _ _))
  have r5 : W.heap[w.heap.size + 1]? = some (.cells #[.int .i64 mk, .int .i64 mn, .int .i64 mver, .int .i64 (-1), .int .u64 (mm : Int)] 197 (0, 0)) := by
    rw [hW]
    refine (heap_alloc_old _ _ (by simp)).trans ?_
    have := Go.heap_alloc_new (w.alloc (.cells L.toArray 144)) (.cells #[.int .i64 mk, .int .i64 mn, .int .i64 mver, .int .i64 (-1), .int .u64 (mm : Int)] 197)
    simpa using this
  have r6 : W.heap[w.heap.size + 1 + 1]? = some (.cells zeroPool 144 (0, 0)) := by
    rw [hW]
    have := Go.heap_alloc_new ((w.alloc (.cells L.toArray 144)).alloc (.cells #[.int .i64 mk, .int .i64 mn, .int .i64 mver, .int .i64 (-1), .int .u64 (mm : Int)] 197)) (.cells zeroPool 144)
    simpa using this
  have C1 := Lib.hid (fun W => less_any mm 0 W hm2)
  rw [hm] at C1
  have C2 := Lib.hid (items_any 0 W (by decide) (hT.below hT.pos hb))
  have HB := Lib.hid hb
  have R3 := Lib.hid r3
  have R5 := Lib.hid r5
  have R6 := Lib.hid r6
  have c2 := cell_of_row _ _ 3 _ _ _ r5
  have c3 := cell_of_row _ _ 4 _ _ _ r5
  clear hb r3 r5 r6 hT
  go_enter Tryz.func339, Tryz.ntmps339
  go_upto_region 1 with (fail)
  change Code.wp _ _ _ _ (((w.alloc (.cells L.toArray 144)).alloc (.cells #[.int .i64 mk, .int .i64 mn, .int .i64 mver, .int .i64 (-1), .int .u64 (mm : Int)] 197)).alloc (.cells zeroPool 144))
  rw [← hW]
  clear hW
  go_wp2_with fail
  refine (C1.out _).mono ?_
  rintro e y ⟨rfl, rfl⟩
  go_wp2_with fail
  refine (C2.out).mono ?_
  rintro e y ⟨v, rfl, hown, hb2⟩
  obtain ⟨_, va, vc, rfl, _⟩ := RowAt.of_owns hown
  rw [show (itemsN 0).length = 0 from by rw [itemsN_zero]; rfl]
  have r3 := (hb2.block _ (block_lt R3.out)).trans R3.out
  have r6 := (hb2.block _ (block_lt R6.out)).trans R6.out
  have d2 : y.cell? ⟨w.heap.size + 1, 3, none⟩ = some (.int .i64 (-1)) := (hb2.cell (p := ⟨w.heap.size + 1, 3, none⟩) (block_lt R5.out)).trans c2
  have hB2 := HB.out.trans (hb2.mono HB.out.size)
  have HB2 := Lib.hid hB2
  have R3' := Lib.hid r3
  have R6' := Lib.hid r6
  clear hown hb2 r3 r6 hB2 c2 c3
  go_wp2_with fail
  refine wp_loop_rounds 1 ?_
  rw [rounds_succ]
  go_wp2_with (first
    | (refine wpList_load_row rfl 144 _ rfl w.heap.size rfl 144 L.toArray (0, 0) _ R3'.out Tryz.underlying144 rfl (info144a (by simpa using hL)) ?_)
    | (refine wpList_store_row rfl 144 _ _ rfl (w.heap.size + 1 + 1) L.toArray rfl rfl 144 zeroPool R6'.out (info144a (by simpa using hL)) (by simp [hL, zeroPool_size]) h1 ?_))
  refine bodyPost_ret (results_cell_tmp rfl _ _ (w.heap.size + 1 + 1) 144 L.toArray (0, 0) _ rfl (block_setRow_same R6'.out) Tryz.underlying144 rfl (info144a (by simpa using hL))) rfl ⟨rfl, below_setRow' HB2.out (by omega) _⟩
end Go.Proofs.YteflpdhgojcmcaaGreatDoor
