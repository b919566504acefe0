/-
  PLAIN LAWS ON BYTES AND NUMBERS: big-endian bytes of a number, and back. No program in sight.
-/
import Derived.WalkKit
namespace Go.Proofs.Ytcldbipipehedaa

/-- n fits into 64 bits -/
def U64 (n : Nat) : Prop := n < 2 ^ 64
theorem U64.lt {n : Nat} (h : U64 n) : n < 2 ^ 64 := h

/-- byte i (from the highest) of n in 'size' bytes -/
def byt (size n i : Nat) : UInt8 := UInt8.ofNat (n / 2 ^ (8 * (size - 1 - i)))
/-- the first k of the 'size' big-endian bytes of n -/
def beTo (size n k : Nat) : List UInt8 := (List.range k).map (byt size n)
/-- n in 'size' bytes, the highest first -/
def be (size n : Nat) : List UInt8 := beTo size n size

theorem beTo_zero (size n : Nat) : beTo size n 0 = [] := rfl
theorem beTo_succ (size n k : Nat) : beTo size n (k + 1) = beTo size n k ++ [byt size n k] := by
  simp [beTo, List.range_succ]
theorem beTo_length (size n k : Nat) : (beTo size n k).length = k := by simp [beTo]
theorem be_length (size n : Nat) : (be size n).length = size := beTo_length _ _ _

theorem byt_int (size n k : Nat) (hk : k < size) : ((n : Int) / 2 ^ (8 * (size - 1) - 8 * k) % 256) = ((byt size n k).toNat : Int) := by
  unfold byt
  rw [UInt8.toNat_ofNat', show 8 * (size - 1 - k) = 8 * (size - 1) - 8 * k by omega]
  simp

/-- the number that bytes spell, the highest first -/
def val (l : List UInt8) : Nat := l.foldl (fun n c => 256 * n + c.toNat) 0

theorem val_nil : val [] = 0 := rfl
theorem val_snoc (l : List UInt8) (c : UInt8) : val (l ++ [c]) = 256 * val l + c.toNat := by simp [val, List.foldl_append]

theorem val_acc (l : List UInt8) : ∀ a : Nat, l.foldl (fun n c => 256 * n + c.toNat) a < (a + 1) * 256 ^ l.length := by
  induction l with
  | nil => intro a; simp
  | cons c l ih =>
    intro a
    have h := ih (256 * a + c.toNat)
    have hc : c.toNat < 256 := c.toNat_lt
    have h2 : (256 * a + c.toNat + 1) * 256 ^ l.length ≤ (256 * (a + 1)) * 256 ^ l.length := Nat.mul_le_mul_right _ (by omega)
    have h3 : (256 * (a + 1)) * 256 ^ l.length = (a + 1) * 256 ^ (l.length + 1) := by
      rw [Nat.pow_succ, Nat.mul_comm 256 (a + 1), Nat.mul_assoc, Nat.mul_comm 256 (256 ^ _)]
    simp only [List.foldl_cons, List.length_cons]
    omega
theorem val_lt (l : List UInt8) : val l < 256 ^ l.length := by
  have := val_acc l 0
  simpa [val] using this

theorem pow256 (k : Nat) : (256 : Nat) ^ k = 2 ^ (8 * k) := by
  rw [show (256 : Nat) = 2 ^ 8 from rfl, ← Nat.pow_mul]

/-- what the first k bytes spell -/
theorem val_beTo (size n k : Nat) (hk : k ≤ size) : val (beTo size n k) = n / 2 ^ (8 * (size - k)) % 2 ^ (8 * k) := by
  induction k with
  | zero => simp [beTo_zero, val_nil, Nat.mod_one]
  | succ k ih =>
    rw [beTo_succ, val_snoc, ih (by omega)]
    have hb : (byt size n k).toNat = n / 2 ^ (8 * (size - 1 - k)) % 256 := by
      unfold byt; rw [UInt8.toNat_ofNat']
    rw [hb]
    have e1 : size - (k + 1) = size - 1 - k := by omega
    have e2 : size - k = (size - 1 - k) + 1 := by omega
    rw [e1, e2]
    generalize size - 1 - k = j
    have e3 : 2 ^ (8 * (j + 1)) = 2 ^ (8 * j) * 256 := by rw [show 8 * (j + 1) = 8 * j + 8 by omega, Nat.pow_add]
    have e4 : 2 ^ (8 * (k + 1)) = 256 * 2 ^ (8 * k) := by rw [show 8 * (k + 1) = 8 + 8 * k by omega, Nat.pow_add]
    rw [e3, e4, ← Nat.div_div_eq_div_mul, Nat.mod_mul]
    omega

theorem val_be (size n : Nat) (hn : n < 2 ^ (8 * size)) : val (be size n) = n := by
  have h := val_beTo size n size (Nat.le_refl _)
  rw [Nat.sub_self] at h
  simpa [be, Nat.mod_eq_of_lt hn] using h

theorem or_step (v c : Nat) (hv : v < 72057594037927936) (hc : c < 256) : bits .or .u64 (IntKind.u64.wrap ((v : Int) * 256)) (IntKind.u64.wrap (c : Int)) = ((256 * v + c : Nat) : Int) := by
  rw [IntWalk.u64_in _ ⟨by omega, by omega⟩, IntWalk.u64_in _ ⟨by omega, by omega⟩, show (v : Int) * 256 = ((2 ^ 8 * v : Nat) : Int) by omega, u64_or_nat _ _ (by omega) (by omega), ← Nat.two_pow_add_eq_or_of_lt (by omega)]

theorem val_take_succ (l : List UInt8) (k : Nat) (hk : k < l.length) : val (l.take (k + 1)) = 256 * val (l.take k) + (l[k]).toNat := by
  rw [List.take_succ_eq_append_getElem hk, val_snoc]
theorem val_take_lt (l : List UInt8) (k : Nat) (hk : k < l.length) (hl : l.length ≤ 8) : val (l.take k) < 72057594037927936 := by
  have h := val_lt (l.take k)
  have h2 : (l.take k).length ≤ 7 := by rw [List.length_take]; omega
  have h3 : 256 ^ (l.take k).length ≤ 256 ^ 7 := Nat.pow_le_pow_right (by omega) h2
  have h4 : (256 : Nat) ^ 7 = 72057594037927936 := by decide
  omega

/-- bytes are the bytes of what they spell -/
theorem be_val (l : List UInt8) : be l.length (val l) = l := by
  suffices h : ∀ l : List UInt8, ∀ m : Nat, be l.length (val l + 256 ^ l.length * m) = l by simpa using h l 0
  intro l
  generalize hn : l.length = n
  induction n generalizing l with
  | zero => intro m; simp [List.length_eq_zero_iff.1 hn, be, beTo]
  | succ k ih =>
    intro m
    obtain ⟨r, c, rfl⟩ : ∃ r c, l = r ++ [c] := by
      have hne : l ≠ [] := by intro h; simp [h] at hn
      exact ⟨l.dropLast, l.getLast hne, (List.dropLast_concat_getLast hne).symm⟩
    have hr : r.length = k := by simpa using hn
    have hc : c.toNat < 256 := c.toNat_lt
    rw [val_snoc]
    have key : ∀ M : Nat, be (k + 1) (256 * M + c.toNat) = be k M ++ [c] := by
      intro M
      unfold be
      rw [beTo_succ]
      have e1 : beTo (k + 1) (256 * M + c.toNat) k = beTo k M k := by
        unfold beTo
        apply List.map_congr_left
        intro i hi
        have hi : i < k := by simpa using hi
        unfold byt
        have e : 8 * (k + 1 - 1 - i) = 8 + 8 * (k - 1 - i) := by omega
        rw [e, Nat.pow_add, ← Nat.div_div_eq_div_mul]
        have : (256 * M + c.toNat) / 2 ^ 8 = M := by omega
        rw [this]
      have e2 : byt (k + 1) (256 * M + c.toNat) k = c := by
        simp only [byt, Nat.add_sub_cancel, Nat.sub_self, Nat.mul_zero, Nat.pow_zero, Nat.div_one]
        apply UInt8.toNat_inj.1
        rw [UInt8.toNat_ofNat']
        omega
      rw [e1, e2]
    have e : 256 * val r + c.toNat + 256 ^ (k + 1) * m = 256 * (val r + 256 ^ k * m) + c.toNat := by
      rw [Nat.pow_succ, Nat.mul_add]
      have : 256 ^ k * 256 * m = 256 * (256 ^ k * m) := by rw [Nat.mul_comm (256 ^ k) 256, Nat.mul_assoc]
      omega
    rw [e, key, ih r hr m]

theorem be_inj (size a b : Nat) (ha : a < 2 ^ (8 * size)) (hb : b < 2 ^ (8 * size)) (h : be size a = be size b) : a = b := by
  rw [← val_be size a ha, ← val_be size b hb, h]

/-- what the document's 'number' holds with j bytes filled in, from behind -/
def numTo (size n j : Nat) : List UInt8 := List.replicate (size - j) 0 ++ (be size n).drop (size - j)
theorem numTo_zero (size n : Nat) : numTo size n 0 = List.replicate size 0 := by
  simp [numTo, be_length]
theorem numTo_all (size n : Nat) : numTo size n size = be size n := by simp [numTo]
theorem numTo_length (size n j : Nat) : (numTo size n j).length = size := by
  simp [numTo, be_length]
theorem be_get? (size n i : Nat) (h : i < size) : (be size n)[i]? = some (byt size n i) := by
  simp [be, beTo, h]
theorem numTo_step (size n j : Nat) (h : j < size) : (numTo size n j).set (size - 1 - j) (byt size n (size - 1 - j)) = numTo size n (j + 1) := by
  have hl := numTo_length size n j
  apply List.ext_getElem?
  intro i
  rw [List.getElem?_set, hl]
  unfold numTo
  simp only [List.getElem?_append, List.length_replicate, List.getElem?_replicate, List.getElem?_drop]
  by_cases h3 : size - 1 - j = i
  · have e : size - (j + 1) + (i - (size - (j + 1))) = i := by omega
    rw [if_pos h3, if_pos (by omega), if_neg (by omega), e, h3, be_get? size n i (by omega)]
  · rw [if_neg h3]
    by_cases h4 : i < size - j
    · rw [if_pos h4, if_pos h4, if_pos (by omega), if_pos (by omega)]
    · rw [if_neg h4, if_neg (by omega)]
      congr 1
      omega
theorem byt_back (size n j : Nat) (h : j < size) : (((n / 256 ^ j : Nat) : Int) % 256) = ((byt size n (size - 1 - j)).toNat : Int) := by
  unfold byt
  rw [UInt8.toNat_ofNat', pow256, show size - 1 - (size - 1 - j) = j by omega]
  omega
theorem div_step (n j : Nat) : n / 256 ^ j / 256 = n / 256 ^ (j + 1) := by rw [Nat.pow_succ, Nat.div_div_eq_div_mul]

end Go.Proofs.Ytcldbipipehedaa
