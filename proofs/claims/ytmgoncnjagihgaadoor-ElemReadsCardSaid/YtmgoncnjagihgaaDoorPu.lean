/-
  strconv.ParseUint at the base 16 and 16 bits: the number that a text of digits tells, or an error.
-/
import Derived.Test.YtmgoncnjagihgaaDoorHexC
import Derived.Lib.Strings
import Derived.Lib.Walk
import Derived.Lib.ConvBytes
import Derived.Lib.ParseIntBMem
import Derived.Lib.Hide
import Derived.Laws.Strings3
import Derived.Laws.Closers25
import Derived.Laws.Closers25b
import Derived.WalkKit
import Derived.BigCall
import Derived.BigGuard
namespace Go.Proofs.YtmgoncnjagihgaaDoor.Given
open Go.RowKit Go.Proofs.YtmgoncnjagihgaaDoorW.PrintWords Go.Proofs.YtmgoncnjagihgaaDoorW.PrintLast Go.Proofs.YtmgoncnjagihgaaDoorW.PrintMore Go.Proofs.YtmgoncnjagihgaaDoor.Lem

/-- A letter's byte, made small. -/
def lowB (c : Nat) : Int := bits .or .u8 (c : Int) 32
/-- A digit to the base 16. -/
def dig16 (c : Nat) : Option Nat := if 48 ≤ c ∧ c ≤ 57 then some (c - 48) else if 97 ≤ lowB c ∧ lowB c ≤ 102 then some ((lowB c).toNat - 87) else none
/-- The number of digits: what is wrong (0: nothing), the number. -/
def pu16 : Nat → List UInt8 → Int × Nat
  | acc, [] => (0, acc)
  | acc, c :: r => match dig16 c.toNat with
    | none => (2, 0)
    | some d => if 65535 < acc * 16 + d then (1, 65535) else pu16 (acc * 16 + d) r
def puV (r : Int × Nat) : Value := .tuple #[.int .u64 r.2, if r.1 = 0 then .nilIface else .iface 84 (.int .i64 r.1)]
def puAll (l : List UInt8) : Int × Nat := if l = [] then (2, 0) else pu16 0 l

theorem low (c : Int) (w : World) :
    Calls Tryd.prog 55 #[.int .u8 c] w fun e w' => e = .returned (.int .u8 (bits .or .u8 c 32)) ∧ w = w' := by
  go_enter Tryd.func55, Tryd.ntmps55
  go_wp2
  go_ret
  exact ⟨rfl, rfl⟩

set_option maxHeartbeats 8000000 in
set_option maxRecDepth 100000 in
theorem puIn (t : ByteArray) (hne : t.size ≠ 0) (hmax : t.size ≤ 9223372036854775806) (w : World) :
    Calls Tryd.prog 40 #[.string t, .int .i64 16, .int .i64 16] w fun e w' => e = .returned (puV (pu16 0 t.data.toList)) ∧ w' = Lib.bytesWorld w 5 t := by
  have hemp : t.toList.isEmpty = false := by
    rw [← decide_eq_emptyBytes]
    exact decide_eq_false (fun h => hne (by rw [h]; rfl))
  have hcv := Lib.run_convert_string_bytes (P := Tryd.prog) w 9 37 5 t (u := .string) Tryd.underlying9 Tryd.underlying37 Tryd.underlying5
  have hB : ∀ j, j < t.size → (Lib.bytesWorld w 5 t).cell? ⟨w.heap.size, j, none⟩ = some (.int .u8 (t.data.toList.getD j 0).toNat) := fun j hj => Lib.bytesWorld_cell w 5 t j hj
  obtain ⟨W1, hW1⟩ : ∃ W1, W1 = Lib.bytesWorld w 5 t := ⟨_, rfl⟩
  rw [← hW1] at hcv hB ⊢
  clear hW1
  obtain ⟨bs, hL⟩ : ∃ bs, bs = t.data.toList := ⟨_, rfl⟩
  have hLn : bs.length = t.size := by rw [hL, Lib.size_eq]
  rw [← hL] at hB ⊢
  clear hL
  have hmv : IntKind.u64.wrap (IntKind.u64.wrap 65536 - 1) = 65535 := by
    rw [IntKind.wrap_u64, IntKind.wrap_u64]
    decide
  go_enter Tryd.func40, Tryd.ntmps40
  go_wp2
  go_loop [12, 13, 101] (fun vu vn vi => ∃ (k acc : Nat) (a : Int), vu = .bool false ∧ vn = .int .u64 a ∧ vi = .int .i64 k ∧ k ≤ t.size ∧ Hid (a = (acc : Int) ∧ acc ≤ 65535 ∧ pu16 0 bs = pu16 acc (bs.drop k)))
    (fun _ _ vi => t.size - (intOf vi).toNat)
  case atStart => exact ⟨0, 0, 0, rfl, rfl, rfl, by omega, rfl, by omega, rfl⟩
  case round =>
    obtain ⟨k, acc, a, rfl, rfl, rfl, hk, hh⟩ := hrel
    obtain ⟨ha, hacc, hdec⟩ := hh.out
    clear hh
    have a0 : 0 ≤ a := by omega
    have a1 : a ≤ 65535 := by omega
    by_cases hkn : k < t.size
    · have hc := hB k hkn
      have hdrop : bs.drop k = bs[k]'(by omega) :: bs.drop (k + 1) := List.drop_eq_getElem_cons (by omega)
      have hget : bs.getD k 0 = bs[k]'(by omega) := by simp [List.getD, List.getElem?_eq_getElem (show k < bs.length by omega)]
      rw [hdrop] at hdec
      rw [hget] at hc
      generalize bs[k]'(by omega) = c at hc hdec
      have hc256 : c.toNat < 256 := c.toNat_lt
      clear hB hdrop hget
      by_cases hdig : 48 ≤ c.toNat ∧ c.toNat ≤ 57
      · have hD : dig16 c.toNat = some (c.toNat - 48) := if_pos hdig
        obtain ⟨hd0, hd1⟩ := hdig
        by_cases hov : 65535 < acc * 16 + (c.toNat - 48)
        · have hF : pu16 acc (c :: bs.drop (k + 1)) = (1, 65535) := by simp [pu16, hD, hov]
          rw [hF] at hdec
          have HD := Lib.hid hdec
          have iov : 65535 < a * 16 + ((c.toNat : Int) - 48) := by omega
          clear hacc hF hov ha hD hdec
          go_wp2
          go_ret2
          exact ⟨by rw [HD.out]; rfl, rfl⟩
        · have hF : pu16 acc (c :: bs.drop (k + 1)) = pu16 (acc * 16 + (c.toNat - 48)) (bs.drop (k + 1)) := by simp [pu16, hD, hov]
          have HN : Hid (a * 16 + ((c.toNat : Int) - 48) = ((acc * 16 + (c.toNat - 48) : Nat) : Int) ∧ acc * 16 + (c.toNat - 48) ≤ 65535 ∧ pu16 0 bs = pu16 (acc * 16 + (c.toNat - 48)) (bs.drop (k + 1))) := Lib.hid ⟨by omega, by omega, hdec.trans hF⟩
          have iov : a * 16 + ((c.toNat : Int) - 48) ≤ 65535 := by omega
          clear hacc hF hov hdec ha hD
          go_wp2
          refine ⟨⟨k + 1, acc * 16 + (c.toNat - 48), a * 16 + ((c.toNat : Int) - 48), rfl, (by first | rfl | (congr 1; omega)), (by first | rfl | (congr 1; omega)), by omega, HN⟩, by simp [intOf]; omega⟩
      · have hv0 := bits_lo_u8 .or (c.toNat : Int) 32
        have hv1 := bits_hi_u8 .or (c.toNat : Int) 32
        by_cases hlet : 97 ≤ lowB c.toNat ∧ lowB c.toNat ≤ 102
        · have hD : dig16 c.toNat = some ((lowB c.toNat).toNat - 87) := (if_neg hdig).trans (if_pos hlet)
          have h95 : ((c.toNat : Int) == 95) = false := by
            have : c.toNat ≠ 95 := fun e => by
              rw [e] at hlet
              exact absurd hlet (by decide +kernel)
            simp
            omega
          unfold lowB at hlet hD
          generalize hl : bits .or .u8 (c.toNat : Int) 32 = l at *
          have HL := Lib.hid hl
          clear hl
          obtain ⟨hl0, hl1⟩ := hlet
          have hlow : ∀ W, Calls Tryd.prog 55 #[.int .u8 (c.toNat : Int)] W fun e w' => e = .returned (.int .u8 l) ∧ W = w' := fun W => by
            have := low (c.toNat : Int) W
            rw [HL.out] at this
            exact this
          have HLW := Lib.hid hlow
          clear hlow
          have nd : ¬ (48 ≤ c.toNat ∧ c.toNat ≤ 57) := hdig
          by_cases hov : 65535 < acc * 16 + (l.toNat - 87)
          · have hF : pu16 acc (c :: bs.drop (k + 1)) = (1, 65535) := by simp [pu16, hD, hov]
            rw [hF] at hdec
            have HD := Lib.hid hdec
            have iov : 65535 < a * 16 + (l - 97 + 10) := by omega
            clear hacc hF hov ha hD hdec
            rcases (by omega : (c.toNat : Int) < 48 ∨ 57 < (c.toNat : Int)) with h9 | h9
            all_goals
              clear nd hdig
              go_wp2_with (go_at_call 55; refine (HLW.out _).mono ?_; rintro e w' ⟨rfl, rfl⟩)
              go_ret2
              exact ⟨by rw [HD.out]; rfl, rfl⟩
          · have hF : pu16 acc (c :: bs.drop (k + 1)) = pu16 (acc * 16 + (l.toNat - 87)) (bs.drop (k + 1)) := by simp [pu16, hD, hov]
            have HN : Hid (a * 16 + (l - 97 + 10) = ((acc * 16 + (l.toNat - 87) : Nat) : Int) ∧ acc * 16 + (l.toNat - 87) ≤ 65535 ∧ pu16 0 bs = pu16 (acc * 16 + (l.toNat - 87)) (bs.drop (k + 1))) := Lib.hid ⟨by omega, by omega, hdec.trans hF⟩
            have iov : a * 16 + (l - 97 + 10) ≤ 65535 := by omega
            clear hacc hF hov hdec ha hD
            rcases (by omega : (c.toNat : Int) < 48 ∨ 57 < (c.toNat : Int)) with h9 | h9
            all_goals
              clear nd hdig
              go_wp2_with (go_at_call 55; refine (HLW.out _).mono ?_; rintro e w' ⟨rfl, rfl⟩)
              refine ⟨⟨k + 1, acc * 16 + (l.toNat - 87), a * 16 + (l - 97 + 10), rfl, (by first | rfl | (congr 1; omega)), (by first | rfl | (congr 1; omega)), by omega, HN⟩, by simp [intOf]; omega⟩
        · have hD : dig16 c.toNat = none := (if_neg hdig).trans (if_neg hlet)
          have hF : pu16 acc (c :: bs.drop (k + 1)) = (2, 0) := by simp [pu16, hD]
          rw [hF] at hdec
          have HD := Lib.hid hdec
          unfold lowB at hlet
          clear hacc hF ha hD hdec
          have hu0 := bits_lo_u8 .or 95 32
          have hu1 := bits_hi_u8 .or 95 32
          go_wp2_with (go_at_call 55; refine (low _ _).mono ?_; rintro e w' ⟨rfl, rfl⟩)
          all_goals go_ret2
          all_goals exact ⟨by rw [HD.out]; rfl, rfl⟩
    · have hkk : k = t.size := by omega
      subst hkk
      have hF : pu16 acc (bs.drop t.size) = (0, acc) := by rw [List.drop_eq_nil_of_le (by omega)]; rfl
      rw [hF] at hdec
      have HD := Lib.hid hdec
      subst ha
      clear hacc hF a0 a1 hdec
      go_wp2
      go_ret2
      exact ⟨by rw [HD.out]; rfl, rfl⟩

end Go.Proofs.YtmgoncnjagihgaaDoor.Given
