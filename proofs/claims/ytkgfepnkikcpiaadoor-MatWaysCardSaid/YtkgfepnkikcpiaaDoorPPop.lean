/- How many bits a number of 64 has, counted eight bits at a time, side by side. -/
import Derived.Laws.BitsAllLaws
namespace Go.Proofs.YtkgfepnkikcpiaaDoor.PPop

/-- A row of bytes as one number, the first one lowest. -/
def val : List Nat → Nat
  | [] => 0
  | b :: l => b + 256 * val l
/-- The bits of a byte. -/
def pop8 (b : Nat) : Nat := (b.testBit 0).toNat + (b.testBit 1).toNat + (b.testBit 2).toNat + (b.testBit 3).toNat + (b.testBit 4).toNat + (b.testBit 5).toNat + (b.testBit 6).toNat + (b.testBit 7).toNat
/-- The same mask for every byte. -/
def rep (m : Nat) : Nat → Nat
  | 0 => 0
  | n + 1 => m + 256 * rep m n

theorem and_split (a b q m : Nat) (ha : a < 256) (hm : m < 256) : (a + 256 * b) &&& (m + 256 * q) = (a &&& m) + 256 * (b &&& q) := by
  have h1 : ((a + 256 * b) &&& (m + 256 * q)) / 2 ^ 8 = b &&& q := by
    rw [Nat.and_div_two_pow]
    congr 1 <;> omega
  have h2 : ((a + 256 * b) &&& (m + 256 * q)) % 2 ^ 8 = a &&& m := by
    rw [Nat.and_mod_two_pow]
    congr 1 <;> omega
  omega

def f1 (b : Nat) : Nat := (b / 2 &&& 0x55) + (b &&& 0x55)
def f2 (b : Nat) : Nat := (b / 4 &&& 0x33) + (b &&& 0x33)
def f3 (b : Nat) : Nat := b / 16 + b &&& 0x0f

theorem byte1 : ∀ b, b < 256 → ∀ u, u < 2 → (128 * u + b / 2) &&& 0x55 = b / 2 &&& 0x55 := by decide +kernel
theorem byte2 : ∀ b, b < 256 → ∀ u, u < 4 → (64 * u + b / 4) &&& 0x33 = b / 4 &&& 0x33 := by decide +kernel
theorem byte3 : ∀ b, b < 256 → ∀ u, u < 5 → f2 (f1 b) / 16 + f2 (f1 b) + 16 * u < 256 ∧ (f2 (f1 b) / 16 + f2 (f1 b) + 16 * u) &&& 0x0f = f3 (f2 (f1 b)) := by decide +kernel
theorem low1 : ∀ b, b < 256 → f1 b < 256 := by decide +kernel
theorem low2 : ∀ b, b < 256 → f2 (f1 b) < 256 ∧ f2 (f1 b) % 16 < 5 := by decide +kernel
theorem byteEnd : ∀ b, b < 256 → f3 (f2 (f1 b)) = pop8 b ∧ pop8 b ≤ 8 := by decide +kernel

theorem step1 : ∀ (l : List Nat), (∀ b, b ∈ l → b < 256) → (val l / 2 &&& rep 0x55 l.length) + (val l &&& rep 0x55 l.length) = val (l.map f1)
  | [], _ => rfl
  | b :: l, h => by
    have hb : b < 256 := h b (by simp)
    have ih := step1 l (fun x hx => h x (by simp [hx]))
    simp only [val, rep, List.length_cons, List.map_cons]
    have e : (b + 256 * val l) / 2 = (128 * (val l % 2) + b / 2) + 256 * (val l / 2) := by omega
    have hlt : 128 * (val l % 2) + b / 2 < 256 := by omega
    rw [e, and_split _ _ _ _ hlt (by decide), and_split _ _ _ _ hb (by decide), byte1 b hb _ (Nat.mod_lt _ (by decide)), ← ih, f1]
    omega

theorem step2 : ∀ (l : List Nat), (∀ b, b ∈ l → b < 256) → (val (l.map f1) / 4 &&& rep 0x33 l.length) + (val (l.map f1) &&& rep 0x33 l.length) = val (l.map fun b => f2 (f1 b))
  | [], _ => rfl
  | b :: l, h => by
    have hb : b < 256 := h b (by simp)
    have ih := step2 l (fun x hx => h x (by simp [hx]))
    simp only [val, rep, List.length_cons, List.map_cons]
    have h1 := low1 b hb
    generalize val (l.map f1) = q at *
    have e : (f1 b + 256 * q) / 4 = (64 * (q % 4) + f1 b / 4) + 256 * (q / 4) := by omega
    have hlt : 64 * (q % 4) + f1 b / 4 < 256 := by omega
    rw [e, and_split _ _ _ _ hlt (by decide), and_split _ _ _ _ h1 (by decide), byte2 _ h1 _ (Nat.mod_lt _ (by decide)), ← ih]
    show _ = (f1 b / 4 &&& 0x33) + (f1 b &&& 0x33) + _
    omega

theorem val_low : ∀ (l : List Nat), (∀ b, b ∈ l → b < 256) → val (l.map fun b => f2 (f1 b)) % 16 < 5
  | [], _ => by decide
  | b :: l, h => by
    have := (low2 b (h b (by simp))).2
    simp only [val, List.map_cons]
    omega

theorem step3 : ∀ (l : List Nat), (∀ b, b ∈ l → b < 256) →
    (val (l.map fun b => f2 (f1 b)) / 16 + val (l.map fun b => f2 (f1 b))) &&& rep 0x0f l.length = val (l.map pop8)
  | [], _ => rfl
  | b :: l, h => by
    have hb : b < 256 := h b (by simp)
    have hl : ∀ x, x ∈ l → x < 256 := fun x hx => h x (by simp [hx])
    have ih := step3 l hl
    have hv := val_low l hl
    simp only [val, rep, List.length_cons, List.map_cons]
    have h2 := low2 b hb
    have h3 := byte3 b hb
    have h4 := (byteEnd b hb).1
    generalize val (l.map fun b => f2 (f1 b)) = q at *
    obtain ⟨hlt, hv3⟩ := h3 _ hv
    have e : (f2 (f1 b) + 256 * q) / 16 + (f2 (f1 b) + 256 * q) = (f2 (f1 b) / 16 + f2 (f1 b) + 16 * (q % 16)) + 256 * (q / 16 + q) := by omega
    rw [e, and_split _ _ _ _ hlt (by decide), hv3, h4, ih]

/-- The eight bytes of a number. -/
def bytes8 (s : Nat) : List Nat := [s % 256, s / 256 % 256, s / 65536 % 256, s / 16777216 % 256, s / 4294967296 % 256, s / 1099511627776 % 256, s / 281474976710656 % 256, s / 72057594037927936 % 256]

theorem val_bytes8 (s : Nat) (h : s < 18446744073709551616) : val (bytes8 s) = s := by
  simp only [bytes8, val]
  omega
theorem bytes8_lt (s : Nat) : ∀ b, b ∈ bytes8 s → b < 256 := by
  intro b hb
  simp only [bytes8, List.mem_cons, List.not_mem_nil, or_false] at hb
  omega

/-- All the steps, one behind the other. -/
theorem steps (s : Nat) (h : s < 18446744073709551616) (x1 x2 x3 : Nat)
    (e1 : x1 = (s / 2 &&& 6148914691236517205) + (s &&& 6148914691236517205))
    (e2 : x2 = (x1 / 4 &&& 3689348814741910323) + (x1 &&& 3689348814741910323))
    (e3 : x3 = (x2 / 16 + x2) &&& 1085102592571150095) : x3 = val ((bytes8 s).map pop8) := by
  have a1 := step1 (bytes8 s) (bytes8_lt s)
  have a2 := step2 (bytes8 s) (bytes8_lt s)
  have a3 := step3 (bytes8 s) (bytes8_lt s)
  have r1 : rep 0x55 (bytes8 s).length = 6148914691236517205 := rfl
  have r2 : rep 0x33 (bytes8 s).length = 3689348814741910323 := rfl
  have r3 : rep 0x0f (bytes8 s).length = 1085102592571150095 := rfl
  rw [r1, val_bytes8 s h, ← e1] at a1
  rw [r2, ← a1, ← e2] at a2
  rw [r3, ← a2, ← e3] at a3
  exact a3

theorem div256 (a r : Nat) (h : a < 256) : (a + 256 * r) / 256 = r := by omega
theorem div65536 (a b r : Nat) (h : a < 256) (k : b < 256) : (a + 256 * (b + 256 * r)) / 65536 = r := by omega
theorem div4294967296 (a b c d r : Nat) (h : a < 256) (k : b < 256) (l : c < 256) (m : d < 256) : (a + 256 * (b + 256 * (c + 256 * (d + 256 * r)))) / 4294967296 = r := by omega

/-- The sum of the eight bytes, as the last steps reckon it. -/
theorem sum8 (p0 p1 p2 p3 p4 p5 p6 p7 x3 x4 x5 x6 : Nat) (h0 : p0 ≤ 8) (h1 : p1 ≤ 8) (h2 : p2 ≤ 8) (h3 : p3 ≤ 8) (h4 : p4 ≤ 8) (h5 : p5 ≤ 8) (h6 : p6 ≤ 8) (h7 : p7 ≤ 8)
    (e3 : x3 = val [p0, p1, p2, p3, p4, p5, p6, p7]) (e4 : x4 = x3 + x3 / 256) (e5 : x5 = x4 + x4 / 65536) (e6 : x6 = x5 + x5 / 4294967296) :
    x4 < 2 ^ 63 ∧ x5 < 2 ^ 63 ∧ x6 < 2 ^ 63 ∧ x6 % 128 = p0 + p1 + p2 + p3 + p4 + p5 + p6 + p7 := by
  have d3 : x3 / 256 = val [p1, p2, p3, p4, p5, p6, p7] := by rw [e3]; exact div256 _ _ (by omega)
  have f4 : x4 = val [p0 + p1, p1 + p2, p2 + p3, p3 + p4, p4 + p5, p5 + p6, p6 + p7, p7] := by
    rw [e4, d3, e3]; simp only [val]; omega
  have d4 : x4 / 65536 = val [p2 + p3, p3 + p4, p4 + p5, p5 + p6, p6 + p7, p7] := by rw [f4]; exact div65536 _ _ _ (by omega) (by omega)
  have f5 : x5 = val [p0 + p1 + p2 + p3, p1 + p2 + p3 + p4, p2 + p3 + p4 + p5, p3 + p4 + p5 + p6, p4 + p5 + p6 + p7, p5 + p6 + p7, p6 + p7, p7] := by
    rw [e5, d4, f4]; simp only [val]; omega
  have d5 : x5 / 4294967296 = val [p4 + p5 + p6 + p7, p5 + p6 + p7, p6 + p7, p7] := by rw [f5]; exact div4294967296 _ _ _ _ _ (by omega) (by omega) (by omega) (by omega)
  have f6 : x6 = val [p0 + p1 + p2 + p3 + p4 + p5 + p6 + p7, p1 + p2 + p3 + p4 + p5 + p6 + p7, p2 + p3 + p4 + p5 + p6 + p7, p3 + p4 + p5 + p6 + p7, p4 + p5 + p6 + p7, p5 + p6 + p7, p6 + p7, p7] := by
    rw [e6, d5, f5]; simp only [val]; omega
  clear e3 e4 e5 e6 d3 d4 d5
  refine ⟨?_, ?_, ?_, ?_⟩
  · rw [f4]; simp only [val]; omega
  · rw [f5]; simp only [val]; omega
  · rw [f6]; simp only [val]; omega
  · rw [f6]
    have e : ∀ a r : Nat, a < 128 → (a + 256 * r) % 128 = a := by intro a r h; omega
    exact e _ _ (by omega)

/-- How many of the first n bits are set. -/
def cnt (s n : Nat) : Nat := ((List.range n).filter fun i => s.testBit i).length
theorem cnt_succ (s n : Nat) : cnt s (n + 1) = cnt s n + (s.testBit n).toNat := by
  unfold cnt
  rw [List.range_succ, List.filter_append, List.length_append]
  cases h : s.testBit n <;> simp [h]
theorem byte_bit (s k j : Nat) (hj : j < 8) : (s / 2 ^ (8 * k) % 2 ^ 8).testBit j = s.testBit (8 * k + j) := by
  rw [Nat.testBit_mod_two_pow, Nat.testBit_div_two_pow, Nat.add_comm]
  simp [hj]
theorem cnt_byte (s k : Nat) : cnt s (8 * k + 8) = cnt s (8 * k) + pop8 (s / 2 ^ (8 * k) % 2 ^ 8) := by
  unfold pop8
  rw [byte_bit s k 0 (by decide), byte_bit s k 1 (by decide), byte_bit s k 2 (by decide), byte_bit s k 3 (by decide), byte_bit s k 4 (by decide), byte_bit s k 5 (by decide), byte_bit s k 6 (by decide), byte_bit s k 7 (by decide)]
  rw [show 8 * k + 8 = 8 * k + 7 + 1 from rfl, cnt_succ, show 8 * k + 7 = 8 * k + 6 + 1 from rfl, cnt_succ, show 8 * k + 6 = 8 * k + 5 + 1 from rfl, cnt_succ, show 8 * k + 5 = 8 * k + 4 + 1 from rfl, cnt_succ, show 8 * k + 4 = 8 * k + 3 + 1 from rfl, cnt_succ, show 8 * k + 3 = 8 * k + 2 + 1 from rfl, cnt_succ, show 8 * k + 2 = 8 * k + 1 + 1 from rfl, cnt_succ, cnt_succ]
  simp only [Nat.add_zero]
  omega
/-- The bits of a number, byte by byte. -/
theorem count_bytes (s : Nat) : cnt s 64 = pop8 (s % 256) + pop8 (s / 256 % 256) + pop8 (s / 65536 % 256) + pop8 (s / 16777216 % 256) + pop8 (s / 4294967296 % 256) + pop8 (s / 1099511627776 % 256) + pop8 (s / 281474976710656 % 256) + pop8 (s / 72057594037927936 % 256) := by
  have h0 := cnt_byte s 0; have h1 := cnt_byte s 1; have h2 := cnt_byte s 2; have h3 := cnt_byte s 3
  have h4 := cnt_byte s 4; have h5 := cnt_byte s 5; have h6 := cnt_byte s 6; have h7 := cnt_byte s 7
  have hz : cnt s 0 = 0 := rfl
  simp only [Nat.reduceMul, Nat.reducePow, Nat.reduceAdd, Nat.div_one] at h0 h1 h2 h3 h4 h5 h6 h7
  rw [h7, h6, h5, h4, h3, h2, h1, h0, hz]
  simp only [Nat.zero_add]

theorem pop8_le (b : Nat) : pop8 b ≤ 8 := by
  unfold pop8
  have h : ∀ c : Bool, c.toNat ≤ 1 := by decide
  have h0 := h (b.testBit 0); have h1 := h (b.testBit 1); have h2 := h (b.testBit 2); have h3 := h (b.testBit 3)
  have h4 := h (b.testBit 4); have h5 := h (b.testBit 5); have h6 := h (b.testBit 6); have h7 := h (b.testBit 7)
  omega

/-- THE COUNT: what the machine's way comes to is how many numbers are in the set. -/
theorem count_eq (s : Nat) (h : s < 18446744073709551616) (x1 x2 x3 x4 x5 x6 : Nat)
    (e1 : x1 = (s / 2 &&& 6148914691236517205) + (s &&& 6148914691236517205))
    (e2 : x2 = (x1 / 4 &&& 3689348814741910323) + (x1 &&& 3689348814741910323))
    (e3 : x3 = (x2 / 16 + x2) &&& 1085102592571150095)
    (e4 : x4 = x3 + x3 / 256) (e5 : x5 = x4 + x4 / 65536) (e6 : x6 = x5 + x5 / 4294967296) :
    x4 < 2 ^ 63 ∧ x5 < 2 ^ 63 ∧ x6 < 2 ^ 63 ∧ x6 % 128 = ((List.range 64).filter fun i => s.testBit i).length := by
  have h3 := steps s h x1 x2 x3 e1 e2 e3
  have hs := sum8 _ _ _ _ _ _ _ _ x3 x4 x5 x6 (pop8_le (s % 256)) (pop8_le (s / 256 % 256)) (pop8_le (s / 65536 % 256)) (pop8_le (s / 16777216 % 256)) (pop8_le (s / 4294967296 % 256)) (pop8_le (s / 1099511627776 % 256)) (pop8_le (s / 281474976710656 % 256)) (pop8_le (s / 72057594037927936 % 256)) h3 e4 e5 e6
  refine ⟨hs.1, hs.2.1, hs.2.2.1, ?_⟩
  rw [hs.2.2.2]
  exact (count_bytes s).symm
end Go.Proofs.YtkgfepnkikcpiaaDoor.PPop
