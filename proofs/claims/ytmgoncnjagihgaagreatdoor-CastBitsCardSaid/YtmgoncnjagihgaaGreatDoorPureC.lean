/-
  The law CastBits: bits of two numbers.
-/
import Derived.Test.YtmgoncnjagihgaaGreatDoorPureO
import Derived.Test.YtmgoncnjagihgaaGreatDoorXD1
namespace Go.Proofs.YtmgoncnjagihgaaGreatDoor.PureC
set_option linter.unusedSimpArgs false
set_option linter.unusedVariables false
open Go.RowKit Go.Proofs.YtmgoncnjagihgaaGreatDoorW.PrintWords Go.Proofs.YtmgoncnjagihgaaGreatDoorW.PrintLast Go.Proofs.YtmgoncnjagihgaaGreatDoorW.PrintMore Go.Proofs.YtmgoncnjagihgaaGreatDoor.XC Go.Proofs.YtmgoncnjagihgaaGreatDoor.XD Go.Proofs.YtmgoncnjagihgaaGreatDoor.Given

theorem and_or_sum : ∀ n a b : Nat, a < 2 ^ n → b < 2 ^ n → (a &&& b) + (a ||| b) = a + b ∧ (a &&& b) + (a ^^^ b) = (a ||| b)
  | 0, a, b, ha, hb => by
    obtain rfl : a = 0 := by simpa using ha
    obtain rfl : b = 0 := by simpa using hb
    decide
  | n + 1, a, b, ha, hb => by
    rw [Nat.pow_succ] at ha hb
    have ih := and_or_sum n (a / 2) (b / 2) (by omega) (by omega)
    have q1 : (a &&& b) / 2 = a / 2 &&& b / 2 := Nat.and_div_two
    have q2 : (a ||| b) / 2 = a / 2 ||| b / 2 := Nat.or_div_two
    have q3 : (a ^^^ b) / 2 = a / 2 ^^^ b / 2 := Nat.xor_div_two
    have r1 : (a &&& b) % 2 = 1 ↔ a % 2 = 1 ∧ b % 2 = 1 := Nat.and_mod_two_eq_one
    have r2 : (a ||| b) % 2 = 1 ↔ a % 2 = 1 ∨ b % 2 = 1 := Nat.or_mod_two_eq_one
    have r3 : (a ^^^ b) % 2 = 1 ↔ ¬ ((a % 2 = 1) ↔ (b % 2 = 1)) := Nat.xor_mod_two_eq_one
    rw [← q1, ← q2, ← q3] at ih
    generalize a &&& b = x at *
    generalize a ||| b = y at *
    generalize a ^^^ b = z at *
    rcases (by omega : a % 2 = 0 ∨ a % 2 = 1) with e1 | e1 <;> rcases (by omega : b % 2 = 0 ∨ b % 2 = 1) with e2 | e2 <;> simp only [e1, e2] at r1 r2 r3 <;> simp at r1 r2 r3 <;> omega

/-- A number's 64 bits. -/
def W (a : Int) : Nat := (a % 18446744073709551616).toNat
theorem W_lt (a : Int) : W a < 2 ^ 64 := by
  show W a < 18446744073709551616
  unfold W
  omega
theorem bv_W (a : Int) : (BitVec.ofInt 64 a).toNat = W a := by
  rw [BitVec.toNat_ofInt]
  rfl
theorem and_W (a b : Int) : Go.bits .and .i64 a b = wrap64 ((W a &&& W b : Nat) : Int) := by
  show IntKind.i64.wrap ((BitVec.ofInt 64 a &&& BitVec.ofInt 64 b).toNat : Int) = _
  rw [BitVec.toNat_and, bv_W, bv_W, i64_w]
theorem or_W (a b : Int) : Go.bits .or .i64 a b = wrap64 ((W a ||| W b : Nat) : Int) := by
  show IntKind.i64.wrap ((BitVec.ofInt 64 a ||| BitVec.ofInt 64 b).toNat : Int) = _
  rw [BitVec.toNat_or, bv_W, bv_W, i64_w]
theorem xor_W (a b : Int) : Go.bits .xor .i64 a b = wrap64 ((W a ^^^ W b : Nat) : Int) := by
  show IntKind.i64.wrap ((BitVec.ofInt 64 a ^^^ BitVec.ofInt 64 b).toNat : Int) = _
  rw [BitVec.toNat_xor, bv_W, bv_W, i64_w]
theorem W_wrap (n : Nat) (h : n < 2 ^ 64) : W (wrap64 (n : Int)) = n := by
  have h' : n < 18446744073709551616 := h
  unfold W wrap64
  omega
theorem wrap_W (a : Int) (h : I64 a) : wrap64 ((W a : Nat) : Int) = a := by unfold I64 at h; unfold W wrap64; omega

theorem bits_e1 (a b : Int) (ha : I64 a) : Go.bits .xor .i64 (Go.bits .xor .i64 a b) b = a := by
  have hx : W a ^^^ W b < 2 ^ 64 := Nat.xor_lt_two_pow (W_lt a) (W_lt b)
  rw [xor_W a b, xor_W, W_wrap _ hx, Nat.xor_assoc, Nat.xor_self, Nat.xor_zero, wrap_W a ha]
theorem bits_e2 (a b : Int) : wrap64 (Go.bits .and .i64 a b + Go.bits .or .i64 a b) = wrap64 (a + b) := by
  have h1 := (and_or_sum 64 (W a) (W b) (W_lt a) (W_lt b)).1
  rw [and_W, or_W]
  generalize W a &&& W b = x at *
  generalize W a ||| W b = y at *
  unfold W at h1
  unfold wrap64
  omega
theorem bits_e3 (a b : Int) : wrap64 (Go.bits .or .i64 a b - Go.bits .and .i64 a b) = Go.bits .xor .i64 a b := by
  have h1 := (and_or_sum 64 (W a) (W b) (W_lt a) (W_lt b)).2
  rw [and_W, or_W, xor_W]
  generalize W a &&& W b = x at *
  generalize W a ||| W b = y at *
  generalize W a ^^^ W b = z at *
  unfold wrap64
  omega

theorem op16 (x y : Int) : opF 16 x y = some (Go.bits .xor .i64 x y, 0) := rfl
theorem op15 (x y : Int) : opF 15 x y = some (Go.bits .or .i64 x y, 0) := rfl
theorem op14 (x y : Int) : opF 14 x y = some (Go.bits .and .i64 x y, 0) := rfl
theorem bin16 (k : Nat) (a b : Int) : cast_Binary.f (k + 1) 16 2 a E 2 b E 0 = some (2, Go.bits .xor .i64 a b, E, 0) := by
  rw [binary_int k 16 a b 0 (by decide) (by decide) _ _ (op16 a b), if_pos rfl]
theorem bin15 (k : Nat) (a b : Int) : cast_Binary.f (k + 1) 15 2 a E 2 b E 0 = some (2, Go.bits .or .i64 a b, E, 0) := by
  rw [binary_int k 15 a b 0 (by decide) (by decide) _ _ (op15 a b), if_pos rfl]
theorem bin14 (k : Nat) (a b : Int) : cast_Binary.f (k + 1) 14 2 a E 2 b E 0 = some (2, Go.bits .and .i64 a b, E, 0) := by
  rw [binary_int k 14 a b 0 (by decide) (by decide) _ _ (op14 a b), if_pos rfl]

theorem bits_g (k : Nat) (a b X Y P Q : Int) (h1 : cast_Binary.f k 16 2 a E 2 b E 0 = some (2, X, E, 0)) (h2 : cast_Binary.f k 16 2 X E 2 b E 0 = some (2, Y, E, 0)) (h3 : cast_Binary.f k 14 2 a E 2 b E 0 = some (2, P, E, 0))
    (h4 : cast_Binary.f k 15 2 a E 2 b E 0 = some (2, Q, E, 0)) (e1 : Y = a) (e0 : X = Go.bits .xor .i64 a b) (e2 : wrap64 (P + Q) = wrap64 (a + b)) (e3 : wrap64 (Q - P) = X) (ha' : umlautlaw13_awake.f k = some true) :
    umlautlaw13_CastBits.f k a b = some true := by
  unfold umlautlaw13_CastBits.f umlautref11_Int.f
  simp only [Option.bind_some]
  rw [h1]
  simp only [Option.bind_some]
  rw [h2]
  simp only [Option.bind_some]
  rw [h3]
  simp only [Option.bind_some]
  rw [h4]
  simp only [Option.bind_some]
  rw [if_pos trivial, if_pos trivial, if_pos trivial, if_pos trivial, if_pos e1, if_pos e0, if_pos e2, if_pos e3, ha']
  rfl
theorem bits_f (k : Nat) (hk : 12 ≤ k + 1) (a b : Int) (ha : I64 a) : umlautlaw13_CastBits.f (k + 1) a b = some true :=
  bits_g (k + 1) a b _ _ _ _ (bin16 k a b) (bin16 k _ b) (bin14 k a b) (bin15 k a b) (bits_e1 a b ha) rfl (bits_e2 a b) (bits_e3 a b) (awake_all (k + 1) hk)
theorem CastBits : umlautlaw13_CastBits.Pure := fun a b ha _ => ⟨11 + 1, bits_f 11 (by decide) a b (i64_of ha)⟩

end Go.Proofs.YtmgoncnjagihgaaGreatDoor.PureC
