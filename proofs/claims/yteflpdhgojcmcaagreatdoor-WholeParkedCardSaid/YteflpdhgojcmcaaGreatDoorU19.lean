/- One step of a block, as plain words say it: of the codes set, ref, read, write, if, retry, end, and behind the last one. An engine as a model, the graph's as it lies in memory while one transaction at most is live; what changes blocks of some types alone; the graph's Begin, Values, Read, Write, Abort. No conditions but those that each theorem names. -/
import Derived.Test.YteflpdhgojcmcaaGreatDoorU01
import Derived.Test.YteflpdhgojcmcaaGreatDoorU18
import Derived.Test.YteflpdhgojcmcaaGreatDoorU02
import Derived.Test.YteflpdhgojcmcaaGreatDoorU15
namespace Go.Proofs.YteflpdhgojcmcaaGreatDoor
open Go.RowKit
/-- A register: the kind of its value, and its number. -/
abbrev Reg := Int × Int
def regC (r : Reg) : List Value := [.int .i64 r.1, .int .i64 r.2]
def regsC (rs : List Reg) : List Value := rs.flatMap regC
theorem regsC_length (rs : List Reg) : (regsC rs).length = rs.length * 2 := chunk_length (f := regC) (k := 2) (fun _ => rfl) rs
theorem regsC_one (rs : List Reg) : AllOne (regsC rs) := by
  intro u hu
  obtain ⟨v, _, h⟩ := List.mem_flatMap.1 hu
  simp only [regC, List.mem_cons, List.not_mem_nil, or_false] at h
  rcases h with rfl | rfl <;> rfl
/-- Where a block stands, without frames. -/
structure CpuM where
  pc : Nat
  used : Nat
  regs : List Reg
def CpuM.cells (c : CpuM) : List Value := .int .i64 c.pc :: .int .i64 c.used :: (regsC c.regs ++ [.slice none 0 0])
theorem CpuM.len {c : CpuM} (h : c.regs.length = 8) : c.cells.length = 19 := by
  simp [CpuM.cells, regsC_length, h]
theorem CpuM.all (c : CpuM) : AllOne c.cells := by
  intro u hu
  simp only [CpuM.cells, List.mem_cons, List.mem_append, List.not_mem_nil, or_false] at hu
  rcases hu with rfl | rfl | hu | rfl
  · rfl
  · rfl
  · exact regsC_one _ _ hu
  · rfl
theorem all_of_one {xs : List Value} (h : AllOne xs) : xs.toArray.all (·.oneCell') = true := by
  simp only [List.all_toArray, List.all_eq_true]
  exact h
theorem CpuM.stack {c : CpuM} (h : c.regs.length = 8) : c.cells[18]? = some (.slice none 0 0) := by
  have : (regsC c.regs).length = 16 := by rw [regsC_length, h]
  simp [CpuM.cells, this]
theorem CpuM.reg {c : CpuM} {A : Nat} {k m : Int} (h : c.regs[A]? = some (k, m)) : c.cells[2 + A * 2]? = some (.int .i64 k) ∧ c.cells[2 + A * 2 + 1]? = some (.int .i64 m) := by
  have hA : A < c.regs.length := (List.getElem?_eq_some_iff.1 h).1
  have hl := regsC_length c.regs
  have e0 := chunk_get (f := regC) (k := 2) (fun _ => rfl) c.regs A 0 (k, m) h (by omega)
  have e1 := chunk_get (f := regC) (k := 2) (fun _ => rfl) c.regs A 1 (k, m) h (by omega)
  have f0 : c.cells[2 + A * 2]? = (regsC c.regs)[A * 2 + 0]? := by
    rw [show 2 + A * 2 = (A * 2 + 0) + 1 + 1 by omega]
    exact (List.getElem?_append_left (by omega))
  have f1 : c.cells[2 + A * 2 + 1]? = (regsC c.regs)[A * 2 + 1]? := by
    rw [show 2 + A * 2 + 1 = (A * 2 + 1) + 1 + 1 by omega]
    exact (List.getElem?_append_left (by omega))
  exact ⟨f0.trans e0, f1.trans e1⟩
theorem CpuM.put {c : CpuM} {A : Nat} (k m : Int) (pc : Nat) (h : A < c.regs.length) :
    ((c.cells.set 0 (.int .i64 pc)).set (2 + A * 2) (.int .i64 k)).set (2 + A * 2 + 1) (.int .i64 m) = CpuM.cells { c with pc := pc, regs := c.regs.set A (k, m) } := by
  obtain ⟨⟨k0, m0⟩, hr⟩ : ∃ r, c.regs[A]? = some r := ⟨_, List.getElem?_eq_getElem h⟩
  have hl := regsC_length c.regs
  have s0 := chunk_set (f := regC) (k := 2) (fun _ => rfl) c.regs A 0 (k0, m0) (k, m0) (.int .i64 k) hr (by omega) rfl
  have s1 := chunk_set (f := regC) (k := 2) (fun _ => rfl) (c.regs.set A (k, m0)) A 1 (k, m0) (k, m) (.int .i64 m) (by rw [List.getElem?_set_self h]) (by omega) rfl
  rw [List.set_set] at s1
  have e : regsC (c.regs.set A (k, m)) = ((regsC c.regs).set (A * 2 + 0) (.int .i64 k)).set (A * 2 + 1) (.int .i64 m) := by
    unfold regsC; rw [s0, s1]
  rw [CpuM.cells, CpuM.cells, e, show 2 + A * 2 = (A * 2 + 0) + 1 + 1 by omega, show (A * 2 + 0) + 1 + 1 + 1 = (A * 2 + 1) + 1 + 1 by omega]
  simp only [List.set_cons_zero, List.set_cons_succ]
  rw [List.set_append_left _ _ (by omega), List.set_append_left _ _ (by simp; omega)]
  rfl
structure AskM where
  kind : Int
  x : Int
  a : Int
  vk : Int
  vn : Int
  fin : Int
def AskM.cells (a : AskM) : Array Value := askC a.kind a.x a.a 0 a.vk a.vn a.fin
def AskM.go : AskM := ⟨0, 0, 0, 0, 0, 0⟩
def AskM.over (k : Int) : AskM := ⟨5, 0, 0, 0, 0, k⟩
/-- What an operation does that does not end the block. -/
def doesM (o : OpM) (vars : Int) (c : CpuM) : Option (CpuM × AskM) :=
  if o.code = 0 then some ({ c with pc := c.pc + 1, regs := c.regs.set o.a.toNat (1, o.n) }, .go)
  else if o.code = 2 then some ({ c with pc := c.pc + 1, regs := c.regs.set o.a.toNat (2, o.b) }, .go)
  else if o.code = 8 then match c.regs[o.b.toNat]? with
    | some (k, m) => if k = 2 ∧ 0 ≤ m ∧ m < vars then some ({ c with pc := c.pc + 1 }, ⟨1, m, o.a, 0, 0, 0⟩) else none
    | none => none
  else if o.code = 9 then match c.regs[o.a.toNat]?, c.regs[o.b.toNat]? with
    | some (k, m), some (vk, vn) => if k = 2 ∧ 0 ≤ m ∧ m < vars then some ({ c with pc := c.pc + 1 }, ⟨2, m, 0, vk, vn, 0⟩) else none
    | _, _ => none
  else if o.code = 11 then match c.regs[o.a.toNat]? with
    | some (k, m) => if k = 1 then (if m = 0 then some ({ c with pc := c.pc + 1 }, .go) else some ({ c with pc := o.c.toNat }, .go)) else none
    | none => none
  else none
def givesM (o : OpM) : Option Int := if o.code = 14 then some 1 else if o.code = 16 then some 0 else none
/-- One step of a block. -/
def stepM (ops : List OpM) (c : CpuM) (vars fuel : Int) : Option (CpuM × AskM) :=
  if c.pc = ops.length then some (c, .over 0)
  else if ops.length < c.pc then none
  else if fuel ≤ c.used then none
  else match givesM (ops.getD c.pc OpM.zero) with
    | some k => some ({ c with used := c.used + 1 }, .over k)
    | none => doesM (ops.getD c.pc OpM.zero) vars { c with used := c.used + 1 }
theorem used1_cells (c : CpuM) : used1 c.cells c.used = CpuM.cells { c with used := c.used + 1 } := by
  simp [used1, CpuM.cells]
theorem doesM_regs {o : OpM} {vars : Int} {c c2 : CpuM} {a : AskM} (h : doesM o vars c = some (c2, a)) : c2.regs.length = c.regs.length := by
  unfold doesM at h
  split at h
  · cases h; simp
  split at h
  · cases h; simp
  split at h
  · split at h
    · split at h
      · cases h; rfl
      · cases h
    · cases h
  split at h
  · split at h
    · split at h
      · cases h; rfl
      · cases h
    · cases h
  split at h
  · split at h
    · split at h
      · split at h <;> (cases h; rfl)
      · cases h
    · cases h
  · cases h
theorem rightL_at {ops : List OpM} (h : rightL ops = true) {p : Nat} (hp : p < ops.length) : rightB (ops.getD p OpM.zero) ops.length = true := by
  simp only [rightL, Bool.and_eq_true, Bool.not_eq_true', anyB, List.any_eq_false] at h
  have := h.2 p (by simpa using hp)
  simpa using this
theorem fldB_iff {n b : Int} (h : fldB n b = true) : 0 ≤ n ∧ n < max b 1 := by
  simpa [fldB] using h
/-- An operation's walk, as doesM says it. -/
theorem does_any (q u : Nat) (o : OpM) (vars : Int) (c c2 : CpuM) (a : AskM) (w : World) (many : Int) (hr : rightB o many = true) (hc : CoreAt w q u o vars) (hqu : q ≠ u) (hu : w.heap[u]? = some (.cells c.cells.toArray 94 (0, 0)))
    (hl : c.regs.length = 8) (hp : c.pc ≤ 1000) (h : doesM o vars c = some (c2, a)) :
    Calls Tryz.prog 156 #[.pointer (some ⟨q, 0, none⟩)] w fun e w' => e = .returned (.agg a.cells) ∧ w'.heap[u]? = some (.cells c2.cells.toArray 94 (0, 0)) ∧ Chg (· = u) w w' := by
  obtain ⟨oc, oa, ob, oc3, on⟩ := o
  have hsz : c.cells.toArray.size = 19 := by simpa using CpuM.len hl
  have h0 : c.cells.toArray[0]? = some (.int .i64 (c.pc : Int)) := by simp [CpuM.cells]
  simp only [rightB, Bool.and_eq_true] at hr
  obtain ⟨⟨⟨⟨_, _⟩, ha⟩, hb⟩, hcc⟩ := hr
  have put : ∀ (A : Nat) (k m : Int), A < 8 → (((c.cells.toArray.setIfInBounds 0 (.int .i64 ((c.pc : Int) + 1))).setIfInBounds (2 + A * 2) (.int .i64 k)).setIfInBounds (2 + A * 2 + 1) (.int .i64 m)) = (CpuM.cells { c with pc := c.pc + 1, regs := c.regs.set A (k, m) }).toArray := by
    intro A k m hA
    rw [← CpuM.put k m (c.pc + 1) (by omega)]
    simp only [List.setIfInBounds_toArray]
    rfl
  have next : c.cells.toArray.setIfInBounds 0 (.int .i64 ((c.pc : Int) + 1)) = (CpuM.cells { c with pc := c.pc + 1 }).toArray := by
    simp [CpuM.cells]
  have reg : ∀ (A : Nat) (k m : Int), c.regs[A]? = some (k, m) → c.cells.toArray[2 + A * 2]? = some (.int .i64 k) ∧ c.cells.toArray[2 + A * 2 + 1]? = some (.int .i64 m) ∧ A < 8 := by
    intro A k m hA
    have := CpuM.reg hA
    have hlt := (List.getElem?_eq_some_iff.1 hA).1
    exact ⟨by simpa using this.1, by simpa using this.2, by omega⟩
  unfold doesM at h
  simp only at h
  split at h
  · rename_i e
    subst e
    cases h
    have hA := fldB_iff ha
    simp only [shpI, Int.toNat_zero, shp] at hA
    obtain ⟨A, rfl⟩ := Int.eq_ofNat_of_zero_le hA.1
    have hA8 : A < 8 := by omega
    refine (does_put q u A 0 ob oc3 on vars c.pc 1 on c.cells.toArray w hc hA8 hu hsz h0 (by omega) (by omega) hqu (fun W hW => worth_set q u A ob oc3 on vars W hW)).mono ?_
    rintro e w' ⟨rfl, h1, h2⟩
    refine ⟨rfl, ?_, h2⟩
    rw [h1, put A 1 on hA8]
    rfl
  split at h
  · rename_i e
    subst e
    cases h
    have hA := fldB_iff ha
    simp only [shpI, show (2 : Int).toNat = 2 from rfl, shp] at hA
    obtain ⟨A, rfl⟩ := Int.eq_ofNat_of_zero_le hA.1
    have hA8 : A < 8 := by omega
    refine (does_put q u A 2 ob oc3 on vars c.pc 2 ob c.cells.toArray w hc hA8 hu hsz h0 (by omega) (by omega) hqu (fun W hW => worth_ref q u A ob oc3 on vars W hW)).mono ?_
    rintro e w' ⟨rfl, h1, h2⟩
    refine ⟨rfl, ?_, h2⟩
    rw [h1, put A 2 ob hA8]
    rfl
  split at h
  · rename_i e
    subst e
    have hA := fldB_iff ha
    have hB := fldB_iff hb
    simp only [shpI, show (8 : Int).toNat = 8 from rfl, shp] at hA hB
    obtain ⟨A, rfl⟩ := Int.eq_ofNat_of_zero_le hA.1
    obtain ⟨B, rfl⟩ := Int.eq_ofNat_of_zero_le hB.1
    split at h
    · rename_i k m hreg
      split at h
      · rename_i hk
        obtain ⟨rfl, hm0, hmv⟩ := hk
        cases h
        obtain ⟨r1, r2, r3⟩ := reg B 2 m (by simpa using hreg)
        refine (does_read q u A B oc3 on m vars c.pc c.cells.toArray w hc hu h0 (by omega) (by omega) hqu r3 r1 r2 hm0 hmv).mono ?_
        rintro e w' ⟨rfl, h1, h2⟩
        exact ⟨rfl, by rw [h1, next], h2⟩
      · cases h
    · cases h
  split at h
  · rename_i e
    subst e
    have hA := fldB_iff ha
    have hB := fldB_iff hb
    simp only [shpI, show (9 : Int).toNat = 9 from rfl, shp] at hA hB
    obtain ⟨A, rfl⟩ := Int.eq_ofNat_of_zero_le hA.1
    obtain ⟨B, rfl⟩ := Int.eq_ofNat_of_zero_le hB.1
    split at h
    · rename_i k m vk vn hreg hreg2
      split at h
      · rename_i hk
        obtain ⟨rfl, hm0, hmv⟩ := hk
        cases h
        obtain ⟨r1, r2, r3⟩ := reg A 2 m (by simpa using hreg)
        obtain ⟨s1, s2, s3⟩ := reg B vk vn (by simpa using hreg2)
        refine (does_write q u A B oc3 on m vk vn vars c.pc c.cells.toArray w hc hu h0 (by omega) (by omega) hqu r3 s3 r1 r2 hm0 hmv s1 s2).mono ?_
        rintro e w' ⟨rfl, h1, h2⟩
        exact ⟨rfl, by rw [h1, next], h2⟩
      · cases h
    · cases h
  split at h
  · rename_i e
    subst e
    have hA := fldB_iff ha
    have hC := fldB_iff hcc
    simp only [shpI, show (11 : Int).toNat = 11 from rfl, shp] at hA
    obtain ⟨A, rfl⟩ := Int.eq_ofNat_of_zero_le hA.1
    obtain ⟨C, rfl⟩ := Int.eq_ofNat_of_zero_le hC.1
    split at h
    · rename_i k m hreg
      split at h
      · rename_i hk
        subst hk
        obtain ⟨r1, r2, r3⟩ := reg A 1 m (by simpa using hreg)
        split at h
        · rename_i hm
          subst hm
          cases h
          refine (does_if0 q u A ob C on vars c.pc c.cells.toArray w hc hu h0 (by omega) (by omega) hqu r3 r1 r2).mono ?_
          rintro e w' ⟨rfl, h1, h2⟩
          exact ⟨rfl, by rw [h1, next], h2⟩
        · rename_i hm
          cases h
          refine (does_if1 q u A ob on m C vars c.pc c.cells.toArray w hc hu hsz h0 (by omega) (by omega) hqu r3 r1 r2 (by simpa using hm)).mono ?_
          rintro e w' ⟨rfl, h1, h2⟩
          refine ⟨rfl, ?_, h2⟩
          rw [h1]
          simp [CpuM.cells]
      · cases h
    · cases h
  · cases h
/-- block.Step. -/
theorem step_any (b off cp : Nat) (ops : List OpM) (c c2 : CpuM) (a : AskM) (vars fuel : Int) (w : World) (hl : rightL ops = true) (hat : OpsAt w b off ops) (hr : c.regs.length = 8) (hu : c.used ≤ 1000000)
    (h : stepM ops c vars fuel = some (c2, a)) :
    Calls Tryz.prog 113 #[.slice (some ⟨b, off, none⟩) ops.length cp, .agg c.cells.toArray, .int .i64 vars, .int .i64 fuel] w fun e w' =>
      e = .returned (.tuple #[.agg c2.cells.toArray, .agg a.cells]) ∧ Below w.heap.size w w' := by
  have hn : 1 ≤ ops.length ∧ ops.length ≤ 200 := by
    simp only [rightL, Bool.and_eq_true, decide_eq_true_eq] at hl
    exact hl.1
  have hone := all_of_one c.all
  unfold stepM at h
  split at h
  · rename_i hp
    cases h
    exact step_past b off cp ops c.cells vars fuel w hl hn.1 hn.2 hat (CpuM.len hr) hone (by simp [CpuM.cells, hp]) (CpuM.stack hr)
  split at h
  · cases h
  rename_i h1 h2
  have hpl : c.pc < ops.length := by omega
  split at h
  · cases h
  rename_i h3
  have hright := rightL_at hl hpl
  split at h
  · rename_i k hk
    cases h
    rw [← used1_cells]
    refine step_panic b off cp ops c.cells vars fuel c.pc c.used (ops.getD c.pc OpM.zero) w hl hn.1 hn.2 hat (CpuM.len hr) hone rfl (CpuM.stack hr) hpl rfl rfl (by omega) (by omega) (by omega) k ?_
    intro W q u hqu hcore hcpu
    rw [used1_cells] at hcpu
    generalize ops.getD c.pc OpM.zero = o at *
    obtain ⟨oc, oa, ob, oc3, on⟩ := o
    unfold givesM at hk
    simp only at hk
    split at hk
    · rename_i e
      subst e
      cases hk
      exact does_retry q u oa ob oc3 on none 0 vars c.pc _ W hcore hcpu (by simp [CpuM.cells]) (by omega) (by omega) hqu (by simpa using CpuM.stack (c := { c with used := c.used + 1 }) hr)
    split at hk
    · rename_i e
      subst e
      cases hk
      exact does_end q u oa ob oc3 on vars c.pc _ W hcore hcpu (by simp [CpuM.cells]) (by omega) (by omega) hqu
    · cases hk
  · rename_i hk
    have hr2 := doesM_regs h
    refine step_ret b off cp ops c.cells vars fuel c.pc c.used (ops.getD c.pc OpM.zero) w hl hn.1 hn.2 hat (CpuM.len hr) hone rfl (CpuM.stack hr) hpl rfl rfl (by omega) (by omega) (by omega) c2.cells a.kind a.x a.a 0 a.vk a.vn a.fin (CpuM.len (hr2.trans hr)) (all_of_one c2.all) ?_
    intro W q u hqu hcore hcpu
    rw [used1_cells] at hcpu
    exact does_any q u _ vars _ c2 a W ops.length hright hcore hqu hcpu hr (by show c.pc ≤ 1000; omega) h
end Go.Proofs.YteflpdhgojcmcaaGreatDoor
namespace Go.Proofs.YteflpdhgojcmcaaGreatDoor
open Go.RowKit PSet PMat
/-- The blocks of some types, from a base on. -/
def InT (E : Nat → Bool) (B : Nat) (w : World) (i : Nat) : Prop := B ≤ i ∧ ∃ cs t fr, w.heap[i]? = some (.cells cs t fr) ∧ E t = true
/-- Nothing is another but blocks of some types, from a base on, and new ones. -/
abbrev Lim (E : Nat → Bool) (B : Nat) (w w' : World) : Prop := Chg (InT E B w) w w'
theorem Lim.trans {E : Nat → Bool} {B : Nat} {a b c : World} (h : Lim E B a b) (k : Lim E B b c) : Lim E B a c := by
  refine Chg.trans (F := InT E B a) (G := InT E B b) h k fun i hi => ?_
  by_cases hl : i < a.heap.size
  · by_cases hn : InT E B a i
    · exact .inl hn
    · obtain ⟨h1, cs, t, fr, h2, h3⟩ := hi
      exact absurd ⟨h1, cs, t, fr, (h.block i hl hn).symm.trans h2, h3⟩ hn
  · exact .inr (by omega)
theorem Lim.refl (E : Nat → Bool) (B : Nat) (w : World) : Lim E B w w := Chg.refl _ _
theorem Lim.mono {E E' : Nat → Bool} {B : Nat} {a b : World} (h : Lim E B a b) (hE : ∀ t, E t = true → E' t = true) : Lim E' B a b :=
  Chg.weak (F := InT E B a) (G := InT E' B a) h fun _ ⟨h1, cs, t, fr, h2, h3⟩ => .inl ⟨h1, cs, t, fr, h2, hE t h3⟩
theorem Lim.of_below {E : Nat → Bool} {B : Nat} {a b : World} (h : Below a.heap.size a b) : Lim E B a b := Chg.of_below h
theorem Lim.to_below {E : Nat → Bool} {B : Nat} {a b : World} (h : Lim E B a b) (hB : B ≤ a.heap.size) : Below B a b := Chg.to_below h hB fun _ hi => hi.1
theorem owns_chg {F : Nat → Prop} {w w' : World} {B e k n : Nat} {v : Value} {xs : List Value} (h : w.ownsRow B e k v n xs) (hc : Chg F w w') (hF : ∀ b cs, F b → w.heap[b]? ≠ some (.cells cs e (0, 0))) : w'.ownsRow B e k v n xs := by
  obtain ⟨hl, h⟩ := h
  refine ⟨hl, ?_⟩
  rcases h with h | ⟨b, cap, cur, e1, hb, hg, rest⟩
  · exact .inl h
  · exact .inr ⟨b, cap, cur, e1, hb, (hc.block b (block_lt hg) (fun hf => hF b cur hf hg)).trans hg, rest⟩
theorem owns_lim {E : Nat → Bool} {w w' : World} {B B' e k n : Nat} {v : Value} {xs : List Value} (h : w.ownsRow B e k v n xs) (hc : Lim E B' w w') (he : E e = false) : w'.ownsRow B e k v n xs :=
  owns_chg h hc fun b cs ⟨_, cs', t, fr, h1, h2⟩ h3 => by
    rw [h3] at h1
    cases h1
    rw [he] at h2
    cases h2
theorem block_lim {E : Nat → Bool} {w w' : World} {B t b : Nat} {cs : Array Value} (h : w.heap[b]? = some (.cells cs t (0, 0))) (hc : Lim E B w w') (he : E t = false) : w'.heap[b]? = some (.cells cs t (0, 0)) :=
  (hc.block b (block_lt h) (fun ⟨_, cs', t', fr, h1, h2⟩ => by
    rw [h] at h1
    cases h1
    rw [he] at h2
    cases h2)).trans h
theorem owns_below {w w' : World} {B e k n : Nat} {v : Value} {xs : List Value} (h : w.ownsRow B e k v n xs) (hb : Below w.heap.size w w') : w'.ownsRow B e k v n xs := owns_keep h fun k _ hl => hb.block k hl
/-- A transaction that is over: its number, whether it was committed, what it read, what it left. -/
structure EntM where
  id : Int
  com : Bool
  rd : Option StepM
  wr : Option StepM
/-- An engine in which one transaction at most is live. -/
structure EngM where
  vals : List Reg
  cnt : Nat
  live : Option (Option StepM)
  log : List EntM
/-- A log as it lies in memory. -/
def LogAt (B : Nat) (w : World) : List Value → List EntM → Prop
  | lgs, [] => lgs = []
  | lgs, e :: l => ∃ rv wv rest, lgs = [.int .i64 e.id, .bool e.com, .bool true, rv, wv] ++ rest ∧ w.ownsRow B 155 4 rv (optN e.rd) (optC e.rd) ∧ w.ownsRow B 155 4 wv (optN e.wr) (optC e.wr) ∧ LogAt B w rest l
theorem LogAt.keep {B : Nat} {w w' : World} (hk : ∀ (v : Value) (n : Nat) (xs : List Value), w.ownsRow B 155 4 v n xs → w'.ownsRow B 155 4 v n xs) : ∀ {l : List EntM} {lgs : List Value}, LogAt B w lgs l → LogAt B w' lgs l
  | [], _, h => h
  | _ :: _, _, ⟨rv, wv, rest, h1, h2, h3, h4⟩ => ⟨rv, wv, rest, h1, hk _ _ _ h2, hk _ _ _ h3, h4.keep hk⟩
theorem LogAt.push {B : Nat} {w : World} (e : EntM) {rv wv : Value} (h2 : w.ownsRow B 155 4 rv (optN e.rd) (optC e.rd)) (h3 : w.ownsRow B 155 4 wv (optN e.wr) (optC e.wr)) : ∀ {l : List EntM} {lgs : List Value}, LogAt B w lgs l → LogAt B w (lgs ++ [.int .i64 e.id, .bool e.com, .bool true, rv, wv]) (l ++ [e])
  | [], _, h => by
    have h : _ = [] := h
    subst h
    exact ⟨rv, wv, [], rfl, h2, h3, rfl⟩
  | _ :: _, _, ⟨rv', wv', rest, h1, h5, h6, h4⟩ => ⟨rv', wv', rest ++ [.int .i64 e.id, .bool e.com, .bool true, rv, wv], by rw [h1]; simp, h5, h6, LogAt.push e h2 h3 h4⟩
/-- The graph's engine in memory, while one transaction at most is live. -/
structure GrI (B : Nat) (w : World) (g : Nat) (e : EngM) (L : List Value) (v : Value) (K : List Value) (lg : Value) (ct : Int) (s : List VarM) (lgs : List Value) (z : Nat) : Prop where
  eng : EngAt w g L v K lg ct
  base : B ≤ g
  one : L.toArray.all (·.oneCell') = true
  size : L[0]? = some (.int .i64 z)
  zz : z = 3 ∨ z = 4
  live : L[65]? = some (.int .u64 (if e.live.isSome then 1 else 0))
  done : L[66]? = some (.int .u64 0)
  cnt : L[99]? = some (.int .i64 e.cnt)
  few : e.cnt ≤ 100000
  mat : (L.drop 1).take 32 = (numsV zeros).toList
  ord : (L.drop 33).take 32 = ordL 32
  store : w.ownsRow B 197 5 v s.length (storeC s)
  vals : s.map (fun m => ((m.k, m.n) : Reg)) = e.vals
  norm : ∀ m ∈ s, m.wr = -1 ∧ (m.marks = 0 ∨ m.marks = 1) ∧ rightV m.k m.n = true
  len : s.length ≤ 64
  log : w.ownsRow B 42 5 lg e.log.length lgs
  logs : LogAt B w lgs e.log
  lfew : e.log.length ≤ 100000
  tx : ∀ t, e.live = some t → L[67]? = some (.int .i64 e.cnt) ∧ 1 ≤ e.cnt ∧ ∃ ta tc, K[0]? = some (.slice ta (optN t) tc) ∧ w.ownsRow B 155 4 (.slice ta (optN t) tc) (optN t) (optC t) ∧ (t = none → ta = none ∧ tc = 0) ∧ ∀ st, t = some st → 0 ≤ st.x ∧ st.x < s.length ∧ rightV st.k st.n = true
def GrS (B : Nat) (w : World) (g : Nat) (e : EngM) : Prop := ∃ L v K lg ct s lgs z, GrI B w g e L v K lg ct s lgs z
/-- The types of the blocks that an engine of the graph changes. -/
def GT (t : Nat) : Bool := t == 151 || t == 42
theorem GrI.lim {E : Nat → Bool} {B B' : Nat} {w w' : World} {g : Nat} {e : EngM} {L : List Value} {v : Value} {K : List Value} {lg : Value} {ct : Int} {s : List VarM} {lgs : List Value} {z : Nat} (h : GrI B w g e L v K lg ct s lgs z) (hc : Lim E B' w w')
    (h1 : E 151 = false) (h2 : E 42 = false) (h3 : E 155 = false) (h4 : E 197 = false) : GrI B w' g e L v K lg ct s lgs z where
  eng := ⟨block_lim h.eng.at0 hc h1, h.eng.lenL, h.eng.lenK⟩
  base := h.base
  one := h.one
  size := h.size
  zz := h.zz
  live := h.live
  done := h.done
  cnt := h.cnt
  few := h.few
  mat := h.mat
  ord := h.ord
  store := owns_lim h.store hc h4
  vals := h.vals
  norm := h.norm
  len := h.len
  log := owns_lim h.log hc h2
  logs := h.logs.keep fun _ _ _ ho => owns_lim ho hc h3
  lfew := h.lfew
  tx := fun t ht => by
    obtain ⟨a1, a2, ta, tc, a3, a4, a5⟩ := h.tx t ht
    exact ⟨a1, a2, ta, tc, a3, owns_lim a4 hc h3, a5⟩
theorem GrS.lim {E : Nat → Bool} {B B' : Nat} {w w' : World} {g : Nat} {e : EngM} (h : GrS B w g e) (hc : Lim E B' w w') (h1 : E 151 = false) (h2 : E 42 = false) (h3 : E 155 = false) (h4 : E 197 = false) : GrS B w' g e := by
  obtain ⟨L, v, K, lg, ct, s, lgs, z, h⟩ := h
  exact ⟨L, v, K, lg, ct, s, lgs, z, h.lim hc h1 h2 h3 h4⟩
theorem GrI.foot {B : Nat} {w : World} {g : Nat} {e : EngM} {L : List Value} {v : Value} {K : List Value} {lg : Value} {ct : Int} {s : List VarM} {lgs : List Value} {z : Nat} (h : GrI B w g e L v K lg ct s lgs z) (i : Nat) (hi : i = g ∨ lg.ownBlock = some i) : InT GT B w i := by
  rcases hi with rfl | hi
  · exact ⟨h.base, _, _, _, h.eng.at0, rfl⟩
  · obtain ⟨_, h2⟩ := h.log
    rcases h2 with ⟨e, _⟩ | ⟨b, cap, cur, e1, hb, hg, rest⟩
    · rw [e] at hi; cases hi
    · rw [e1] at hi
      simp only [Value.ownBlock, Option.some.injEq] at hi
      subst hi
      exact ⟨hb, _, _, _, hg, rfl⟩
theorem far_set (L : List Value) (a b j : Nat) (v : Value) (h : a + b ≤ j) : ((L.set j v).drop a).take b = (L.drop a).take b := by
  apply List.ext_getElem?
  intro i
  rw [List.getElem?_take, List.getElem?_take]
  split
  · rw [List.getElem?_drop, List.getElem?_drop, List.getElem?_set_ne (by omega)]
  · rfl
theorem GrI.storeAt {B : Nat} {w : World} {g : Nat} {e : EngM} {L : List Value} {v : Value} {K : List Value} {lg : Value} {ct : Int} {s : List VarM} {lgs : List Value} {z : Nat} (h : GrI B w g e L v K lg ct s lgs z) : StoreAt w v s := RowAt.of_owns h.store
/-- The engine behind the end of its transaction. -/
def EngM.over (e : EngM) (com : Bool) (t : Option StepM) : EngM := { e with live := none, log := e.log ++ [⟨e.cnt, com, readsM t, leftM com t⟩] }
theorem drop_norm {s : List VarM} (h : ∀ m ∈ s, (m.wr = -1 ∨ m.wr = 0) ∧ (m.marks = 0 ∨ m.marks = 1) ∧ rightV m.k m.n = true) : ∀ m ∈ s.map (dropV 0), m.wr = -1 ∧ (m.marks = 0 ∨ m.marks = 1) ∧ rightV m.k m.n = true := by
  intro m hm
  obtain ⟨a, ha, rfl⟩ := List.mem_map.1 hm
  obtain ⟨h1, h2, h3⟩ := h a ha
  refine ⟨?_, ?_, h3⟩
  · rcases h1 with h1 | h1 <;> simp [dropV, h1]
  · rcases h2 with h2 | h2 <;> simp [dropV, h2, lessN, bitN]
theorem GrI.over {B : Nat} {w w' : World} {g : Nat} {e : EngM} {L : List Value} {v : Value} {K : List Value} {lg : Value} {ct ct' : Int} {s s' : List VarM} {lgs : List Value} {z : Nat} {v2 : Value} {t : Option StepM} {com : Bool} {wm : World} (h : GrI B w g e L v K lg ct s lgs z)
    (hlogs : LogAt B wm lgs e.log) (hB : B ≤ wm.heap.size) (hs' : s'.length = s.length) (hn' : ∀ m ∈ s', (m.wr = -1 ∨ m.wr = 0) ∧ (m.marks = 0 ∨ m.marks = 1) ∧ rightV m.k m.n = true)
    (hlg : wm.ownsRow B 42 5 lg e.log.length lgs) (hat : EngAt wm g L v2 K lg ct') (hfew : e.log.length < 100000) (hp : OverPost B g L K lg ct' e.cnt com t s' e.log.length lgs wm w') :
    GrS B w' g (EngM.over { e with vals := s'.map (fun m : VarM => ((m.k, m.n) : Reg)) } com t) ∧ Lim GT B wm w' := by
  obtain ⟨v', lg', rv, wv, p1, p2, p3, p4, p5, p6⟩ := hp
  have hL := h.eng.lenL
  have hlim : Lim GT B wm w' := Chg.weak (F := fun b => b = g ∨ lg.ownBlock = some b) (G := InT GT B wm) p6 fun i hi => .inl (by
    rcases hi with rfl | hi
    · exact ⟨h.base, _, _, _, hat.at0, rfl⟩
    · obtain ⟨_, h2⟩ := hlg
      rcases h2 with ⟨e, _⟩ | ⟨b, cap, cur, e1, hb, hg, rest⟩
      · rw [e] at hi; cases hi
      · rw [e1] at hi
        simp only [Value.ownBlock, Option.some.injEq] at hi
        subst hi
        exact ⟨hb, _, _, _, hg, rfl⟩)
  refine ⟨⟨sweptP (endedP L), v', K.set 1 (.bool com), lg', ct', s'.map (dropV 0), lgs ++ [.int .i64 e.cnt, .bool com, .bool true, rv, wv], z, ?_⟩, hlim⟩
  exact {
    eng := p1
    base := h.base
    one := one_set (one_set (one_set (one_set h.one _ _ rfl) _ _ rfl) _ _ rfl) _ _ rfl
    size := by
      unfold sweptP endedP
      rw [List.getElem?_set_ne (by omega), List.getElem?_set_ne (by omega), List.getElem?_set_ne (by omega), List.getElem?_set_ne (by omega)]
      exact h.size
    zz := h.zz
    live := by
      unfold sweptP endedP
      rw [List.getElem?_set_ne (by omega), List.getElem?_set_ne (by omega), List.getElem?_set_ne (by omega), List.getElem?_set_self (by omega)]
      rfl
    done := by
      unfold sweptP endedP
      rw [List.getElem?_set_ne (by omega), List.getElem?_set_self (by simp [hL])]
    cnt := by
      unfold sweptP endedP
      rw [List.getElem?_set_ne (by omega), List.getElem?_set_ne (by omega), List.getElem?_set_ne (by omega), List.getElem?_set_ne (by omega)]
      exact h.cnt
    few := h.few
    mat := by
      unfold sweptP endedP
      rw [far_set _ _ _ _ _ (by omega), far_set _ _ _ _ _ (by omega), far_set _ _ _ _ _ (by omega), far_set _ _ _ _ _ (by omega)]
      exact h.mat
    ord := by
      unfold sweptP endedP
      rw [far_set _ _ _ _ _ (by omega), far_set _ _ _ _ _ (by omega), far_set _ _ _ _ _ (by omega), far_set _ _ _ _ _ (by omega)]
      exact h.ord
    store := by rw [List.length_map]; exact owns_mono p2 hB
    vals := by
      rw [List.map_map]
      rfl
    norm := drop_norm hn'
    len := by rw [List.length_map, hs']; exact h.len
    log := by
      simp only [EngM.over, List.length_append, List.length_cons, List.length_nil]
      exact p3
    logs := LogAt.push ⟨e.cnt, com, readsM t, leftM com t⟩ (owns_mono p4 hB) (owns_mono p5 hB) (hlogs.keep fun _ _ _ ho => owns_lim ho hlim rfl)
    lfew := by simp [EngM.over]; omega
    tx := fun t ht => by cases ht }
end Go.Proofs.YteflpdhgojcmcaaGreatDoor
