/-
  The document's digits and texts of elements.
-/
import Derived.Test.YtmgoncnjagihgaaDoorPureT
import Derived.Laws.BitsAllLaws
namespace Go.Proofs.YtmgoncnjagihgaaDoor.PureW
set_option linter.unusedSimpArgs false
open Go.RowKit Go.Proofs.YtmgoncnjagihgaaDoorW.PrintWords Go.Proofs.YtmgoncnjagihgaaDoorW.PrintLast Go.Proofs.YtmgoncnjagihgaaDoorW.PrintMore Go.Proofs.YtmgoncnjagihgaaDoor.XA Go.Proofs.YtmgoncnjagihgaaDoor.Given Go.Proofs.YtmgoncnjagihgaaDoor.PureN

theorem digit (d : Int) (h0 : 0 ≤ d) (h1 : d < 16) : (⟨#[48, 49, 50, 51, 52, 53, 54, 55, 56, 57, 97, 98, 99, 100, 101, 102]⟩ : ByteArray).extract d.toNat (d + 1).toNat = strOfNums [hexd d] := by
  rcases (by omega : d = 0 ∨ d = 1 ∨ d = 2 ∨ d = 3 ∨ d = 4 ∨ d = 5 ∨ d = 6 ∨ d = 7 ∨ d = 8 ∨ d = 9 ∨ d = 10 ∨ d = 11 ∨ d = 12 ∨ d = 13 ∨ d = 14 ∨ d = 15) with rfl | rfl | rfl | rfl | rfl | rfl | rfl | rfl | rfl | rfl | rfl | rfl | rfl | rfl | rfl | rfl <;> decide +kernel

theorem and15i (a : Int) : Go.bits .and .i64 a 15 = a % 16 := by
  unfold Go.bits
  simp only [IntKind.bits]
  have e : (BitVec.ofInt 64 a &&& BitVec.ofInt 64 15).toNat = (a % 16).toNat := by
    rw [BitVec.toNat_and, BitVec.toNat_ofInt, show (BitVec.ofInt 64 15).toNat = 2 ^ 4 - 1 from rfl, Nat.and_two_pow_sub_one_eq_mod]
    omega
  show IntKind.i64.wrap ((BitVec.ofInt 64 a &&& BitVec.ofInt 64 15).toNat : Int) = _
  rw [e, i64_w]
  unfold wrap64
  omega

theorem round (k : Nat) (p n i : Int) (s : ByteArray) (q : Int) (hq : shr .i64 p (wrap64 (4 * i)) = q) (hi : i < n) (hi0 : 0 ≤ wrap64 (4 * i)) (hs : s.size ≤ 100) :
    umlautref5_hex.l0 (k + 1) p n s i = umlautref5_hex.l0 k p n (strOfNums [hexd (q % 16)] ++ s) (wrap64 (i + 1)) := by
  rw [umlautref5_hex.l0, if_pos hi, if_pos hi0, hq, and15i q]
  have e : wrap64 (q % 16 + 1) = q % 16 + 1 := by unfold wrap64; omega
  rw [e, if_pos (by omega), if_pos (by omega), if_pos (by omega), digit _ (by omega) (by omega), if_pos]
  have : (strOfNums [hexd (q % 16)]).size = 1 := rfl
  omega

theorem shr_at (p : Int) (i : Int) (h : i = 0 ∨ i = 1 ∨ i = 2 ∨ i = 3) : shr .i64 p (wrap64 (4 * i)) = p / 16 ^ i.toNat := by
  have e : wrap64 (4 * i) = 4 * i := by unfold wrap64; omega
  rw [e]
  unfold shr
  rcases h with rfl | rfl | rfl | rfl <;> simp [IntKind.bits]

theorem at4 (i : Int) (h : i = 0 ∨ i = 1 ∨ i = 2 ∨ i = 3) : 0 ≤ wrap64 (4 * i) := by unfold wrap64; omega

theorem rhex4 (k : Nat) (p : Int) (h0 : 0 ≤ p) (h1 : p < 65536) : umlautref5_hex.f (k + 5) p 4 = some (H4 p) := by
  unfold umlautref5_hex.f
  rw [round (k + 4) p 4 0 _ _ (shr_at p 0 (by decide)) (by decide) (at4 0 (by decide)) (by simp [ByteArray.size_append, strOfNums, ByteArray.size]), show wrap64 (0 + 1) = 1 by decide +kernel,
    round (k + 3) p 4 1 _ _ (shr_at p 1 (by decide)) (by decide) (at4 1 (by decide)) (by simp [ByteArray.size_append, strOfNums, ByteArray.size]), show wrap64 (1 + 1) = 2 by decide +kernel,
    round (k + 2) p 4 2 _ _ (shr_at p 2 (by decide)) (by decide) (at4 2 (by decide)) (by simp [ByteArray.size_append, strOfNums, ByteArray.size]), show wrap64 (2 + 1) = 3 by decide +kernel,
    round (k + 1) p 4 3 _ _ (shr_at p 3 (by decide)) (by decide) (at4 3 (by decide)) (by simp [ByteArray.size_append, strOfNums, ByteArray.size]), show wrap64 (3 + 1) = 4 by decide +kernel, umlautref5_hex.l0, if_neg (by decide)]
  refine congrArg some ?_
  rw [show (⟨#[]⟩ : ByteArray) = strOfNums [] from rfl, strApp, strApp, strApp, strApp]
  unfold H4
  refine congrArg strOfNums ?_
  show [hexd (p / 16 ^ 3 % 16), hexd (p / 16 ^ 2 % 16), hexd (p / 16 ^ 1 % 16), hexd (p / 16 ^ 0 % 16)] = _
  rw [show p / 16 ^ 3 % 16 = p / 4096 by omega, show p / 16 ^ 2 % 16 = p / 256 % 16 by omega, show p / 16 ^ 1 % 16 = p / 16 % 16 by omega, show p / 16 ^ 0 % 16 = p % 16 by omega]

theorem rhex2 (k : Nat) (p : Int) (h0 : 0 ≤ p) (h1 : p < 256) : umlautref5_hex.f (k + 3) p 2 = some (H2 p) := by
  unfold umlautref5_hex.f
  rw [round (k + 2) p 2 0 _ _ (shr_at p 0 (by decide)) (by decide) (at4 0 (by decide)) (by simp [ByteArray.size_append, strOfNums, ByteArray.size]), show wrap64 (0 + 1) = 1 by decide +kernel,
    round (k + 1) p 2 1 _ _ (shr_at p 1 (by decide)) (by decide) (at4 1 (by decide)) (by simp [ByteArray.size_append, strOfNums, ByteArray.size]), show wrap64 (1 + 1) = 2 by decide +kernel, umlautref5_hex.l0, if_neg (by decide)]
  refine congrArg some ?_
  rw [show (⟨#[]⟩ : ByteArray) = strOfNums [] from rfl, strApp, strApp]
  unfold H2
  refine congrArg strOfNums ?_
  show [hexd (p / 16 ^ 1 % 16), hexd (p / 16 ^ 0 % 16)] = _
  rw [show p / 16 ^ 1 % 16 = p / 16 by omega, show p / 16 ^ 0 % 16 = p % 16 by omega]

end Go.Proofs.YtmgoncnjagihgaaDoor.PureW
