/-
  Layer 9 (frame): the sum of bytes, in plain numbers.
-/
namespace Go.Proofs.YtfnbcafilbafgaaDoor
/-- One bit of a sum. -/
def bitS (n : Nat) : Nat := n / 2 ^^^ (if n % 2 = 1 then 3988292384 else 0)
/-- A table's number. -/
def nibs : List Int := [0, 498536548, 997073096, 651767980, 1994146192, 1802195444, 1303535960, 1342533948, 3988292384, 4027552580, 3604390888, 3412177804, 2607071920, 2262029012, 2685067896, 3183342108]
def nibN (k : Nat) : Nat := (nibs.getD k 0).toNat
def byteS (n : Nat) (c : UInt8) : Nat := bitS (bitS (bitS (bitS (bitS (bitS (bitS (bitS (n ^^^ c.toNat))))))))
def crcS (n : Nat) (l : List UInt8) : Nat := l.foldl byteS n
def crc (l : List UInt8) : Nat := crcS 4294967295 l ^^^ 4294967295
theorem bitS_xor (a b : Nat) : bitS (a ^^^ b) = bitS a ^^^ bitS b := by
  unfold bitS
  have hm : (a ^^^ b) % 2 = a % 2 ^^^ b % 2 := Nat.xor_mod_two_pow (n := 1)
  rw [Nat.xor_div_two, hm]
  have h1 : a % 2 = 0 ∨ a % 2 = 1 := by omega
  have h2 : b % 2 = 0 ∨ b % 2 = 1 := by omega
  have hx : ∀ x y z : Nat, x ^^^ y ^^^ z = x ^^^ (y ^^^ z) := fun x y z => Nat.xor_assoc x y z
  rcases h1 with h1 | h1 <;> rcases h2 with h2 | h2 <;> rw [h1, h2]
  · simp
  · simp [hx]
  · rw [if_pos (by decide), if_pos rfl, if_neg (by decide), Nat.xor_zero, hx, hx, Nat.xor_comm (b / 2)]
  · rw [if_neg (by decide), if_pos rfl, Nat.xor_zero, hx, Nat.xor_comm 3988292384 (b / 2 ^^^ 3988292384), hx, Nat.xor_self, Nat.xor_zero]
theorem bitS_two (n : Nat) : bitS (2 * n) = n := by
  unfold bitS
  rw [if_neg (by omega), Nat.xor_zero]
  omega
theorem bitS_lt {n : Nat} (h : n < 4294967296) : bitS n < 4294967296 := by
  unfold bitS
  refine Nat.xor_lt_two_pow (n := 32) (by omega) ?_
  split <;> decide
theorem low_high (n : Nat) : (16 * (n / 16)) ^^^ (n % 16) = n := by
  have h := Nat.two_pow_add_eq_or_of_lt (b := n % 16) (i := 4) (by omega) (n / 16)
  have h2 : (16 * (n / 16)) ^^^ (n % 16) = 16 * (n / 16) + n % 16 := by
    refine Nat.eq_of_testBit_eq fun i => ?_
    have h3 : 2 ^ 4 * (n / 16) + n % 16 = 16 * (n / 16) + n % 16 := rfl
    rw [← h3, h]
    simp only [Nat.testBit_xor, Nat.testBit_or]
    by_cases hi : i < 4
    · have : (16 * (n / 16)).testBit i = false := by
        have := Nat.testBit_two_pow_mul (i := 4) (a := n / 16) (j := i)
        simp at this
        rw [this]; simp; omega
      rw [this]; simp
    · have : (n % 16).testBit i = false := Nat.testBit_lt_two_pow (Nat.lt_of_lt_of_le (Nat.mod_lt n (by decide : 16 > 0)) (Nat.pow_le_pow_right (by decide : 2 > 0) (by omega : 4 ≤ i)))
      rw [this]; simp
  rw [h2]; omega
theorem nib_step (n : Nat) : bitS (bitS (bitS (bitS n))) = nibN (n % 16) ^^^ n / 16 := by
  have hk : ∀ k, k < 16 → bitS (bitS (bitS (bitS k))) = nibN k := by decide
  have e : n = (16 * (n / 16)) ^^^ (n % 16) := (low_high n).symm
  have h16 : 16 * (n / 16) = 2 * (2 * (2 * (2 * (n / 16)))) := by omega
  conv => lhs; rw [e, bitS_xor, bitS_xor, bitS_xor, bitS_xor, hk _ (Nat.mod_lt _ (by decide)), h16, bitS_two, bitS_two, bitS_two, bitS_two]
  exact Nat.xor_comm _ _
theorem nibN_lt (k : Nat) : nibN k < 4294967296 := by
  by_cases h : k < 16
  · have : ∀ k, k < 16 → nibN k < 4294967296 := by decide
    exact this k h
  · unfold nibN
    rw [List.getD_eq_getElem?_getD, List.getElem?_eq_none (by simp [nibs]; omega)]
    decide
theorem u8_lt (c : UInt8) : c.toNat < 256 := c.toNat_lt
theorem byteS_lt {n : Nat} {c : UInt8} (h : n < 4294967296) : byteS n c < 4294967296 := by
  unfold byteS
  have := u8_lt c
  have h0 : n ^^^ c.toNat < 4294967296 := Nat.xor_lt_two_pow (n := 32) h (by omega)
  exact bitS_lt (bitS_lt (bitS_lt (bitS_lt (bitS_lt (bitS_lt (bitS_lt (bitS_lt h0)))))))
theorem crcS_lt : ∀ (l : List UInt8) (n : Nat), n < 4294967296 → crcS n l < 4294967296
  | [], _, h => h
  | c :: l, n, h => crcS_lt l (byteS n c) (byteS_lt h)
theorem crc_lt (l : List UInt8) : crc l < 4294967296 := Nat.xor_lt_two_pow (n := 32) (crcS_lt l _ (by decide)) (by decide)
/-- A byte is taken in by two halves. -/
theorem byteS_nibs (n : Nat) (c : UInt8) : byteS n c = nibN ((nibN ((n ^^^ c.toNat) % 16) ^^^ (n ^^^ c.toNat) / 16) % 16) ^^^ (nibN ((n ^^^ c.toNat) % 16) ^^^ (n ^^^ c.toNat) / 16) / 16 := by
  unfold byteS
  rw [nib_step, nib_step]
theorem crcS_snoc (n : Nat) (l : List UInt8) (c : UInt8) : crcS n (l ++ [c]) = byteS (crcS n l) c := by simp [crcS]
theorem crcS_append (n : Nat) (l t : List UInt8) : crcS n (l ++ t) = crcS (crcS n l) t := by simp [crcS]
theorem crcS_take (n : Nat) (l : List UInt8) (k : Nat) (h : k < l.length) : crcS n (l.take (k + 1)) = byteS (crcS n (l.take k)) (l.getD k 0) := by
  rw [List.take_add_one, List.getElem?_eq_getElem h, Option.toList_some, crcS_snoc]
  simp [List.getD, List.getElem?_eq_getElem h]
/-- Unlike sums stay unlike. -/
theorem bitS_inj {a b : Nat} (ha : a < 4294967296) (hb : b < 4294967296) (h : bitS a = bitS b) : a = b := by
  have key : ∀ n, n < 4294967296 → (bitS n / 2147483648 = n % 2) := by
    intro n hn
    unfold bitS
    have e : (n / 2 ^^^ (if n % 2 = 1 then 3988292384 else 0)) >>> 31 = (n / 2) >>> 31 ^^^ (if n % 2 = 1 then 3988292384 else 0) >>> 31 := Nat.shiftRight_xor_distrib
    rw [Nat.shiftRight_eq_div_pow, Nat.shiftRight_eq_div_pow, Nat.shiftRight_eq_div_pow] at e
    have e2 : (2 : Nat) ^ 31 = 2147483648 := by decide
    rw [e2] at e
    rw [e, show n / 2 / 2147483648 = 0 by omega, Nat.zero_xor]
    split
    · next h1 => rw [h1]
    · next h1 => omega
  have hm : a % 2 = b % 2 := by rw [← key a ha, ← key b hb, h]
  have hd : a / 2 = b / 2 := by
    unfold bitS at h
    rw [hm] at h
    generalize (if b % 2 = 1 then 3988292384 else 0) = p at h
    have := congrArg (· ^^^ p) h
    simpa [Nat.xor_assoc] using this
  omega
theorem byteS_inj {a b : Nat} (c : UInt8) (ha : a < 4294967296) (hb : b < 4294967296) (h : byteS a c = byteS b c) : a = b := by
  unfold byteS at h
  have hc := u8_lt c
  have x0 : a ^^^ c.toNat < 4294967296 := Nat.xor_lt_two_pow (n := 32) ha (by omega)
  have y0 : b ^^^ c.toNat < 4294967296 := Nat.xor_lt_two_pow (n := 32) hb (by omega)
  have hh := bitS_inj x0 y0 (bitS_inj (bitS_lt x0) (bitS_lt y0) (bitS_inj (bitS_lt (bitS_lt x0)) (bitS_lt (bitS_lt y0)) (bitS_inj (bitS_lt (bitS_lt (bitS_lt x0))) (bitS_lt (bitS_lt (bitS_lt y0)))
    (bitS_inj (bitS_lt (bitS_lt (bitS_lt (bitS_lt x0)))) (bitS_lt (bitS_lt (bitS_lt (bitS_lt y0)))) (bitS_inj (bitS_lt (bitS_lt (bitS_lt (bitS_lt (bitS_lt x0))))) (bitS_lt (bitS_lt (bitS_lt (bitS_lt (bitS_lt y0)))))
    (bitS_inj (bitS_lt (bitS_lt (bitS_lt (bitS_lt (bitS_lt (bitS_lt x0)))))) (bitS_lt (bitS_lt (bitS_lt (bitS_lt (bitS_lt (bitS_lt y0)))))) (bitS_inj (bitS_lt (bitS_lt (bitS_lt (bitS_lt (bitS_lt (bitS_lt (bitS_lt x0))))))) (bitS_lt (bitS_lt (bitS_lt (bitS_lt (bitS_lt (bitS_lt (bitS_lt y0))))))) h)))))))
  have := congrArg (· ^^^ c.toNat) hh
  simpa [Nat.xor_assoc] using this
theorem byteS_inj2 {a : Nat} {c d : UInt8} (ha : a < 4294967296) (h : byteS a c = byteS a d) : c = d := by
  have e : ∀ x : UInt8, byteS a x = byteS (a ^^^ x.toNat) 0 := fun x => by unfold byteS; simp
  rw [e, e] at h
  have hc := u8_lt c
  have hd := u8_lt d
  have := byteS_inj 0 (Nat.xor_lt_two_pow (n := 32) ha (by omega)) (Nat.xor_lt_two_pow (n := 32) ha (by omega)) h
  have h2 := congrArg (a ^^^ ·) this
  have h3 : c.toNat = d.toNat := by simpa [← Nat.xor_assoc] using h2
  exact UInt8.toNat_inj.1 h3
theorem crcS_inj : ∀ (l : List UInt8) {a b : Nat}, a < 4294967296 → b < 4294967296 → crcS a l = crcS b l → a = b
  | [], _, _, _, _, h => h
  | c :: l, _, _, ha, hb, h => byteS_inj c ha hb (crcS_inj l (byteS_lt ha) (byteS_lt hb) h)
/-- Bytes of which one is another have another sum. -/
theorem crc_set {l : List UInt8} {i : Nat} {x : UInt8} (h : i < l.length) (hx : x ≠ l.getD i 0) : crc (l.set i x) ≠ crc l := by
  intro he
  unfold crc at he
  have h1 : crcS 4294967295 (l.set i x) = crcS 4294967295 l := by
    have := congrArg (· ^^^ 4294967295) he
    simpa [Nat.xor_assoc] using this
  have e1 : l = l.take i ++ l.getD i 0 :: l.drop (i + 1) := by
    conv => lhs; rw [← List.take_append_drop i l, List.drop_eq_getElem_cons h]
    simp [List.getD, List.getElem?_eq_getElem h]
  have e2 : l.set i x = l.take i ++ x :: l.drop (i + 1) := by
    rw [List.set_eq_take_append_cons_drop, if_pos h]
  rw [e2] at h1
  conv at h1 => rhs; rw [e1]
  rw [crcS_append, crcS_append] at h1
  have hl := crcS_lt (l.take i) 4294967295 (by decide)
  exact hx (byteS_inj2 hl (crcS_inj _ (byteS_lt hl) (byteS_lt hl) h1))
end Go.Proofs.YtfnbcafilbafgaaDoor
