/-
  The law CastWidths: a number's byte and word.
-/
import Derived.Test.YtmgoncnjagihgaaGreatDoorPureO
import Derived.Test.YtmgoncnjagihgaaGreatDoorXF3
import Derived.Laws.BitsAllLaws
import Derived.Laws.Strings
namespace Go.Proofs.YtmgoncnjagihgaaGreatDoor.PureC
set_option linter.unusedSimpArgs false
set_option linter.unusedVariables false
open Go.RowKit Go.Proofs.YtmgoncnjagihgaaGreatDoorW.PrintWords Go.Proofs.YtmgoncnjagihgaaGreatDoorW.PrintLast Go.Proofs.YtmgoncnjagihgaaGreatDoorW.PrintMore Go.Proofs.YtmgoncnjagihgaaGreatDoor.XC Go.Proofs.YtmgoncnjagihgaaGreatDoor.XF Go.Proofs.YtmgoncnjagihgaaGreatDoor.Given

theorem byteL : (⟨#[98, 121, 116, 101]⟩ : ByteArray).toList = [98, 121, 116, 101] := ByteArray.toList_mk _
theorem wordL : (⟨#[119, 111, 114, 100]⟩ : ByteArray).toList = [119, 111, 114, 100] := ByteArray.toList_mk _

theorem takes_byte (k : Nat) : cast_Takes.f (k + 1) (⟨#[98, 121, 116, 101]⟩ : ByteArray) = some (2, true) := by
  unfold cast_Takes.f
  rw [byteL, if_neg (by decide), cast_Takes.j0, if_neg (by decide), byteL, if_neg (by decide), if_pos rfl]
theorem takes_word (k : Nat) : cast_Takes.f (k + 1) (⟨#[119, 111, 114, 100]⟩ : ByteArray) = some (2, true) := by
  unfold cast_Takes.f
  rw [wordL, if_neg (by decide), cast_Takes.j0, if_neg (by decide), wordL, if_neg (by decide), if_neg (by decide), if_pos rfl]

theorem call_byte (k : Nat) (n most : Int) : cast_Call.f (k + 1) (⟨#[98, 121, 116, 101]⟩ : ByteArray) 2 n E most = some (2, n % 256, E, 0) := by
  unfold cast_Call.f
  rw [is_int', takes_byte]
  simp only [Option.bind_some]
  rw [byteL, if_pos trivial, if_neg (by decide), if_neg (by decide), if_neg (by decide), if_neg (by decide), if_pos (by decide)]
  unfold ints_Wrap.f
  rw [if_pos rfl, if_neg (by decide)]
  rfl
def word (n : Int) : Int := wrap64 (wrap32 n)
theorem call_word (k : Nat) (n most : Int) : cast_Call.f (k + 1) (⟨#[119, 111, 114, 100]⟩ : ByteArray) 2 n E most = some (2, word n, E, 0) := by
  unfold cast_Call.f
  rw [is_int', takes_word]
  simp only [Option.bind_some]
  rw [wordL, if_pos trivial, if_neg (by decide), if_neg (by decide), if_neg (by decide), if_neg (by decide), if_neg (by decide), if_pos (by decide)]
  unfold ints_Wrap.f
  rw [if_neg (by decide), if_neg (by decide), if_pos rfl, if_pos rfl]
  rfl

theorem word_eq (n : Int) : word n = (n + 2147483648) % 4294967296 - 2147483648 := by
  unfold word wrap32 wrap64
  omega

theorem and255 (x : Int) : Go.bits .and .u64 (IntKind.u64.wrap x) 255 = x % 256 := by
  have e : IntKind.u64.wrap x = (((x % 18446744073709551616).toNat : Nat) : Int) := by rw [IntKind.wrap_u64]; omega
  rw [e, show (255 : Int) = ((255 : Nat) : Int) from rfl, u64_and_nat _ _ (by omega) (by decide), show (x % 18446744073709551616).toNat &&& 255 = (x % 18446744073709551616).toNat % 256 from Nat.and_two_pow_sub_one_eq_mod _ 8]
  omega

theorem width_j (k : Nat) (n b w : Int) (s t : ByteArray) (x y : Int) (hn : I64 n) (hb : b = n % 256) (hw : w = (n + 2147483648) % 4294967296 - 2147483648) (ha : umlautlaw13_awake.f k = some true) :
    umlautlaw13_CastWidths.j0 (k + 1) n false x b s y w t = some true := by
  have hd : Int.tmod (wrap64 (n - w)) 4294967296 = 0 := by
    obtain ⟨q, hq⟩ : ∃ q, wrap64 (n - w) = 4294967296 * q := ⟨wrap64 (n - w) / 4294967296, by unfold wrap64; omega⟩
    rw [hq]
    exact Int.mul_tmod_right _ _
  have hu : IntKind.u64.wrap b = n % 256 := by rw [IntKind.wrap_u64]; omega
  have h1 : n ≥ 0 → n ≤ 255 → b = n := by omega
  have h2 : n ≥ -2147483648 → n < 2147483648 → w = n := by omega
  rw [umlautlaw13_CastWidths.j0, if_neg (by decide), hd, and255, hu, ha]
  clear hd hu hb hw
  by_cases c1 : n ≥ 0
  · rw [if_pos c1]
    by_cases c2 : n ≤ 255
    · rw [if_pos c2, if_pos (h1 c1 c2), if_pos (show n ≥ -2147483648 by omega), if_pos (show n < 2147483648 by omega), if_pos (h2 (by omega) (by omega)), if_pos rfl, if_pos rfl]
      rfl
    · rw [if_neg c2, if_pos (show n ≥ -2147483648 by omega)]
      by_cases c3 : n < 2147483648
      · rw [if_pos c3, if_pos (h2 (by omega) c3), if_pos rfl, if_pos rfl]
        rfl
      · rw [if_neg c3, if_pos rfl, if_pos rfl]
        rfl
  · rw [if_neg c1]
    by_cases c4 : n ≥ -2147483648
    · rw [if_pos c4]
      by_cases c3 : n < 2147483648
      · rw [if_pos c3, if_pos (h2 c4 c3), if_pos rfl, if_pos rfl]
        rfl
      · rw [if_neg c3, if_pos rfl, if_pos rfl]
        rfl
    · rw [if_neg c4, if_pos rfl, if_pos rfl]
      rfl

theorem widths_g (k : Nat) (n b w : Int) (hn : I64 n) (hb : b = n % 256) (hw : w = (n + 2147483648) % 4294967296 - 2147483648)
    (h1 : cast_Call.f (k + 1) (⟨#[98, 121, 116, 101]⟩ : ByteArray) 2 n E 0 = some (2, b, E, 0)) (h2 : cast_Call.f (k + 1) (⟨#[119, 111, 114, 100]⟩ : ByteArray) 2 n E 0 = some (2, w, E, 0))
    (h3 : cast_Call.f (k + 1) (⟨#[98, 121, 116, 101]⟩ : ByteArray) 2 w E 0 = some (2, b, E, 0)) (ha : umlautlaw13_awake.f k = some true) :
    umlautlaw13_CastWidths.f (k + 1) n = some true := by
  have hj := width_j k n b w E E 2 2 hn hb hw ha
  unfold umlautlaw13_CastWidths.f umlautref11_Int.f
  simp only [Option.bind_some]
  rw [h1]
  simp only [Option.bind_some]
  rw [h2]
  simp only [Option.bind_some]
  rw [h3]
  simp only [Option.bind_some]
  rw [if_pos trivial, if_pos trivial, if_pos trivial, if_neg (show ¬ b < 0 by omega), if_neg (show ¬ b > 255 by omega), if_neg (show ¬ w < -2147483648 by omega), if_neg (show ¬ w ≥ 2147483648 by omega), show (b != b) = false by simp]
  exact hj

theorem CastWidths : umlautlaw13_CastWidths.Pure := fun n h => ⟨12 + 1, by
  have hn := i64_of h
  refine widths_g 12 n (n % 256) (word n) hn rfl (word_eq n) (call_byte 12 n 0) (call_word 12 n 0) ?_ (awake_all 12 (by decide))
  rw [call_byte 12 (word n) 0, word_eq, show ((n + 2147483648) % 4294967296 - 2147483648) % 256 = n % 256 by omega]⟩

end Go.Proofs.YtmgoncnjagihgaaGreatDoor.PureC
