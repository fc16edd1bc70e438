/-
  utext.FoldText answers for every text that is not too long.
-/
import Derived.Test.YtmgoncnjagihgaaGreatDoorSigns
import Derived.Lib.RuneCount
import Derived.Shelf.Unicode.DecodeLastEight
namespace Go.Proofs.YtmgoncnjagihgaaGreatDoor.PureF
set_option linter.unusedSimpArgs false
set_option linter.unusedVariables false
open Go.RowKit Go.Proofs.YtmgoncnjagihgaaGreatDoorW.PrintWords Go.Proofs.YtmgoncnjagihgaaGreatDoorW.PrintLast Go.Proofs.YtmgoncnjagihgaaGreatDoorW.PrintMore Go.Proofs.YtmgoncnjagihgaaGreatDoor.Given

theorem width (s : ByteArray) (h : 0 < s.size) : 1 ≤ (Lib.decodeGo s).2 ∧ (Lib.decodeGo s).2 ≤ s.size := by
  refine ⟨?_, Lib.decodeGo_le_size s⟩
  unfold Lib.decodeGo
  rw [if_neg (by omega)]
  exact Lib.decode_width_pos s 0 h

theorem sign_some (s : ByteArray) (h : 0 < s.size) : ∃ c n : Int, XS.utext_sign.f s = some (c, n) ∧ 1 ≤ n ∧ n ≤ s.size := by
  have hw := width s h
  unfold XS.utext_sign.f utf8_DecodeRuneInString.f
  simp only [Option.bind_some]
  split
  · split
    · rw [if_pos (by omega)]
      exact ⟨_, _, rfl, by omega, by omega⟩
    · exact ⟨_, _, rfl, by omega, by omega⟩
  · exact ⟨_, _, rfl, by omega, by omega⟩

theorem signs_some (d : Nat) : ∀ (k : Nat) (s : ByteArray) (l : List Int), s.size ≤ d → l.length + s.size ≤ 1000 → d < k → ∃ r, utext_Signs.l0 k s l = some r ∧ r.length ≤ l.length + s.size := by
  induction d with
  | zero =>
    intro k s l hs hl hk
    obtain ⟨k, rfl⟩ : ∃ m, k = m + 1 := ⟨k - 1, by omega⟩
    exact ⟨l, by rw [utext_Signs.l0, if_neg (by omega)], by omega⟩
  | succ d ih =>
    intro k s l hs hl hk
    obtain ⟨k, rfl⟩ : ∃ m, k = m + 1 := ⟨k - 1, by omega⟩
    by_cases h : s.size = 0
    · exact ⟨l, by rw [utext_Signs.l0, if_neg (by omega)], by omega⟩
    · obtain ⟨c, n, hc, h1, h2⟩ := sign_some s (by omega)
      have hz : (s.extract n.toNat s.size).size = s.size - n.toNat := by rw [ByteArray.size_extract]; omega
      obtain ⟨r, hr, hlr⟩ := ih k (s.extract n.toNat s.size) (l ++ [c]) (by omega) (by rw [List.length_append]; simp; omega) (by omega)
      refine ⟨r, ?_, ?_⟩
      · rw [utext_Signs.l0, if_pos (by omega), hc]
        simp only [Option.bind_some]
        rw [if_pos (by omega), if_pos (by omega), if_pos (by omega)]
        exact hr
      · rw [List.length_append] at hlr
        simp at hlr
        omega

theorem put_some (l : List Int) (c : Int) (h : l.length ≤ 100000) : ∃ r, XP.utext_put.f l c = some r ∧ r.length ≤ l.length + 4 := by
  unfold XP.utext_put.f
  split
  · rw [if_pos (by omega)]
    exact ⟨_, rfl, by simp⟩
  · split
    · rw [if_pos (by omega)]
      exact ⟨_, rfl, by simp⟩
    · split
      · simp only [Option.bind_some]
        rw [if_pos (by simp; omega)]
        exact ⟨_, rfl, by simp⟩
      · split
        · simp only [Option.bind_some]
          rw [if_pos (by simp; omega)]
          exact ⟨_, rfl, by simp⟩
        · simp only [Option.bind_some]
          rw [if_pos (by simp; omega)]
          exact ⟨_, rfl, by simp⟩

theorem puts_some (l : List Int) (hl : l.length ≤ 1000) (d : Nat) : ∀ (k i : Nat) (o : List Int), i + d = l.length → o.length ≤ 4 * i → d < k → ∃ r, XP.utext_Put.l0 k o l (l.length : Int) (i : Int) = some r := by
  induction d with
  | zero =>
    intro k i o hi ho hk
    obtain ⟨k, rfl⟩ : ∃ m, k = m + 1 := ⟨k - 1, by omega⟩
    exact ⟨_, by rw [XP.utext_Put.l0, if_neg (by omega)]⟩
  | succ d ih =>
    intro k i o hi ho hk
    obtain ⟨k, rfl⟩ : ∃ m, k = m + 1 := ⟨k - 1, by omega⟩
    obtain ⟨o', h1, h2⟩ := put_some o (rd l (i : Int)) (by omega)
    obtain ⟨r, hr⟩ := ih k (i + 1) o' (by omega) (by omega) (by omega)
    refine ⟨r, ?_⟩
    rw [XP.utext_Put.l0, if_pos (by omega), if_pos (by omega), if_pos (by omega), h1]
    simp only [Option.bind_some]
    rw [show wrap64 ((i : Int) + 1) = ((i + 1 : Nat) : Int) by unfold wrap64; omega]
    exact hr

theorem fold_text (s : ByteArray) (hs : s.size ≤ 1000) (k : Nat) (hk : 1001 < k) : ∃ r, utext_FoldText.f k s = some r := by
  obtain ⟨l, h1, h2⟩ := signs_some s.size k s [] (Nat.le_refl _) (by simpa using hs) (by omega)
  obtain ⟨r, hr⟩ := puts_some (l.map foldI) (by rw [List.length_map]; simp at h2; omega) (l.map foldI).length k 0 [] (by omega) (by simp) (by rw [List.length_map]; simp at h2; omega)
  refine ⟨r, ?_⟩
  unfold utext_FoldText.f utext_Signs.f
  rw [h1]
  simp only [Option.bind_some]
  exact hr

end Go.Proofs.YtmgoncnjagihgaaGreatDoor.PureF
