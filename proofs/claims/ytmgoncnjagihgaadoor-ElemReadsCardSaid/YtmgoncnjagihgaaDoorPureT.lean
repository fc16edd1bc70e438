/-
  Numbers' digits to the base 16 and elements' texts: the program's and the document's are the same.
-/
import Derived.Test.YtmgoncnjagihgaaDoorXA2
import Derived.Test.YtmgoncnjagihgaaDoorPureM
namespace Go.Proofs.YtmgoncnjagihgaaDoor.PureW
open Go.RowKit Go.Proofs.YtmgoncnjagihgaaDoorW.PrintWords Go.Proofs.YtmgoncnjagihgaaDoorW.PrintLast Go.Proofs.YtmgoncnjagihgaaDoorW.PrintMore Go.Proofs.YtmgoncnjagihgaaDoor.XA Go.Proofs.YtmgoncnjagihgaaDoor.Given Go.Proofs.YtmgoncnjagihgaaDoor.PureN

def H4 (p : Int) : ByteArray := strOfNums [hexd (p / 4096), hexd (p / 256 % 16), hexd (p / 16 % 16), hexd (p % 16)]
def H2 (p : Int) : ByteArray := strOfNums [hexd (p / 16), hexd (p % 16)]

theorem nought (n : Nat) (h : n < 4) : (⟨(Lib.repeatL [48] n).toArray⟩ : ByteArray) = strOfNums (List.replicate n 48) := by
  rcases (by omega : n = 0 ∨ n = 1 ∨ n = 2 ∨ n = 3) with rfl | rfl | rfl | rfl <;> rfl
theorem strApp (a b : List Int) : strOfNums a ++ strOfNums b = strOfNums (a ++ b) := by
  unfold strOfNums
  rw [List.map_append]
  apply ByteArray.ext
  simp

theorem hex4 (p : Int) (h0 : 0 ≤ p) (h1 : p < 65536) : elem_hex.f p 4 = some (H4 p) := by
  unfold elem_hex.f H4 hexL
  have z : hexd 0 = 48 := by decide
  by_cases a1 : p < 16
  · rw [if_pos a1, if_pos ⟨h0, h1, by simp, by decide⟩, show ((4 : Int) - ([hexd p].length : Int)).toNat = 3 from rfl, nought 3 (by decide), strApp, show p / 4096 = 0 by omega, show p / 256 % 16 = 0 by omega, show p / 16 % 16 = 0 by omega, show p % 16 = p by omega, z]
    rfl
  · rw [if_neg a1]
    by_cases a2 : p < 256
    · rw [if_pos a2, if_pos ⟨h0, h1, by simp, by decide⟩, show ((4 : Int) - ([hexd (p / 16), hexd (p % 16)].length : Int)).toNat = 2 from rfl, nought 2 (by decide), strApp, show p / 4096 = 0 by omega, show p / 256 % 16 = 0 by omega, show p / 16 % 16 = p / 16 by omega, z]
      rfl
    · rw [if_neg a2]
      by_cases a3 : p < 4096
      · rw [if_pos a3, if_pos ⟨h0, h1, by simp, by decide⟩, show ((4 : Int) - ([hexd (p / 256), hexd (p / 16 % 16), hexd (p % 16)].length : Int)).toNat = 1 from rfl, nought 1 (by decide), strApp, show p / 4096 = 0 by omega, show p / 256 % 16 = p / 256 by omega, z]
        rfl
      · rw [if_neg a3, if_pos ⟨h0, h1, by simp, by decide⟩, show ((4 : Int) - ([hexd (p / 4096), hexd (p / 256 % 16), hexd (p / 16 % 16), hexd (p % 16)].length : Int)).toNat = 0 from rfl, nought 0 (by decide), strApp]
        rfl

theorem hex2 (p : Int) (h0 : 0 ≤ p) (h1 : p < 256) : elem_hex.f p 2 = some (H2 p) := by
  unfold elem_hex.f H2 hexL
  have z : hexd 0 = 48 := by decide
  by_cases a1 : p < 16
  · rw [if_pos a1, if_pos ⟨h0, by omega, by simp, by decide⟩, show ((2 : Int) - ([hexd p].length : Int)).toNat = 1 from rfl, nought 1 (by decide), strApp, show p / 16 = 0 by omega, show p % 16 = p by omega, z]
    rfl
  · rw [if_neg a1, if_pos h1, if_pos ⟨h0, by omega, by simp, by decide⟩, show ((2 : Int) - ([hexd (p / 16), hexd (p % 16)].length : Int)).toNat = 0 from rfl, nought 0 (by decide), strApp]
    rfl

end Go.Proofs.YtmgoncnjagihgaaDoor.PureW
