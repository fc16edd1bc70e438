/-
  strconv.FormatInt at the base 16 of a number below 65536, and elem.hex: the number's digits, with noughts ahead.
-/
import Derived.Test.YtmgoncnjagihgaaDoorHexB
import Derived.Test.YtmgoncnjagihgaaDoorShelf
namespace Go.Proofs.YtmgoncnjagihgaaDoor.Given
open Go.RowKit Go.Proofs.YtmgoncnjagihgaaDoorW.PrintWords Go.Proofs.YtmgoncnjagihgaaDoorW.PrintLast Go.Proofs.YtmgoncnjagihgaaDoorW.PrintMore Go.Proofs.YtmgoncnjagihgaaDoor.Lem

/-- A number's digits to the base 16. -/
def hexL (n : Int) : List Int :=
  if n < 16 then [hexd n] else if n < 256 then [hexd (n / 16), hexd (n % 16)] else if n < 4096 then [hexd (n / 256), hexd (n / 16 % 16), hexd (n % 16)]
  else [hexd (n / 4096), hexd (n / 256 % 16), hexd (n / 16 % 16), hexd (n % 16)]

theorem bitsAll (u : Int) (h0 : 0 ≤ u) (h1 : u < 65536) (w : World) (hG0 : GW w) :
    Calls Tryd.prog 64 #[.slice none 0 0, .int .u64 u, .int .i64 16, .bool false, .bool false] w fun e w' => e = .returned (.tuple #[.slice none 0 0, .string (strOfNums (hexL u))]) ∧ Below w.heap.size w w' := by
  unfold hexL
  split
  · exact bits1 u h0 (by assumption) w hG0
  · split
    · exact bits2 u (by omega) (by assumption) w hG0
    · split
      · exact bits3 u (by omega) (by assumption) w hG0
      · exact bits4 u (by omega) h1 w hG0

set_option maxHeartbeats 1000000 in
theorem fmtIn (n : Int) (h0 : 0 ≤ n) (h1 : n < 65536) (w : World) (hG0 : GW w) :
    Calls Tryd.prog 42 #[.int .i64 n, .int .i64 16] w fun e w' => e = .returned (.string (strOfNums (hexL n))) ∧ Below w.heap.size w w' := by
  have HG := Aside0.mk hG0
  have HC := Aside0.mk (fun w => bitsAll n h0 h1 w)
  clear hG0
  have c0 : decide (n < 0) = false := decide_eq_false (by omega)
  have c1 : IntKind.u64.wrap n = n := by rw [IntKind.wrap_u64]; omega
  go_enter Tryd.func42, Tryd.ntmps42
  go_wp2_with (go_at_call 64; refine (HC.out _ HG.out).mono ?_; rintro e w' ⟨rfl, hb⟩; have HB := Aside0.mk hb; clear hb)
  go_ret
  exact ⟨rfl, HB.out⟩

theorem fmt (n : Int) (h0 : 0 ≤ n) (h1 : n < 65536) (w : World) (hG0 : GW w) :
    Calls Tryd.prog 29 #[.int .i64 n, .int .i64 16] w fun e w' => e = .returned (.string (strOfNums (hexL n))) ∧ Below w.heap.size w w' := by
  have HG := Aside0.mk hG0
  have HC := Aside0.mk (fun w => fmtIn n h0 h1 w)
  clear hG0
  go_enter Tryd.func29, Tryd.ntmps29
  go_wp2_with (go_at_call 42; refine (HC.out _ HG.out).mono ?_; rintro e w' ⟨rfl, hb⟩; have HB := Aside0.mk hb; clear hb)
  go_ret
  exact ⟨rfl, HB.out⟩

/-- What elem.hex answers: so many digits, if the number has no more. -/
def elem_hex.f (n digits : Int) : Option ByteArray :=
  if 0 ≤ n ∧ n < 65536 ∧ (hexL n).length ≤ digits ∧ digits ≤ 100 then some ((⟨(Lib.repeatL [48] (digits - (hexL n).length).toNat).toArray⟩ : ByteArray) ++ strOfNums (hexL n)) else none

theorem hexL_size (n : Int) : (strOfNums (hexL n)).size = (hexL n).length := by unfold strOfNums; simp [ByteArray.size]

set_option maxHeartbeats 1000000 in
theorem elem_hex.calls (n digits : Int) (r : ByteArray) (w : World) (hG0 : GW w) (h : elem_hex.f n digits = some r) :
    Calls Tryd.prog 22 #[.int .i64 n, .int .i64 digits] w fun e w' => e = .returned (.string r) ∧ Below w.heap.size w w' := by
  unfold elem_hex.f at h
  split at h
  · rename_i hb
    obtain ⟨h0, h1, h2, h3⟩ := hb
    obtain rfl := Option.some.inj h
    have HG := Aside0.mk hG0
    have HC := Aside0.mk (fun w => fmt n h0 h1 w)
    clear hG0 h
    obtain ⟨k, hk⟩ : ∃ k : Nat, digits - ((hexL n).length : Int) = k := ⟨(digits - (hexL n).length).toNat, by omega⟩
    have hw : wrap64 (digits - ((strOfNums (hexL n)).size : Int)) = k := by
      rw [hexL_size, hk]; unfold wrap64; omega
    have hw' : IntKind.i64.wrap (digits - ((strOfNums (hexL n)).size : Int)) = k := by
      rw [hexL_size, hk, IntKind.wrap_i64]; omega
    have hk2 : k ≤ 100 := by omega
    have hd : (digits - ((hexL n).length : Int)).toNat = k := by omega
    have hl : (hexL n).length ≤ 4 := by unfold hexL; split <;> (try split) <;> (try split) <;> simp
    have HR := Aside0.mk (fun w => Tryd.strings_Repeat ⟨#[48]⟩ k w (by omega) (by show 1 * k ≤ _; omega))
    rw [hd]
    have hs : ¬ 9223372036854775807 < (Lib.repeatL [48] k).length + (strOfNums (hexL n)).size := by rw [Lib.repeatL_length, hexL_size]; simp; omega
    clear h2 h3 hk hk2 hd hl h0 h1
    go_enter Tryd.func22, Tryd.ntmps22
    go_wp2_with (first | (go_at_call 29; refine (HC.out _ HG.out).mono ?_; rintro e w' ⟨rfl, hb⟩; have HB := Aside0.mk hb; clear hb) | (go_at_call 30; refine (HR.out _).mono ?_; rintro e w'' ⟨rfl, hb⟩; have HB2 := Aside0.mk (below_step HB.out hb); clear hb))
    go_ret
    exact ⟨rfl, HB2.out⟩
  · cases h
end Go.Proofs.YtmgoncnjagihgaaDoor.Given
