/-
  The law CastMay: what may always become of a kind never fails.
-/
import Derived.Test.YtmgoncnjagihgaaGreatDoorPureO
import Derived.Test.YtmgoncnjagihgaaGreatDoorPureF
import Derived.Test.YtmgoncnjagihgaaGreatDoorXM1
namespace Go.Proofs.YtmgoncnjagihgaaGreatDoor.PureC
set_option linter.unusedSimpArgs false
set_option linter.unusedVariables false
open Go.RowKit Go.Proofs.YtmgoncnjagihgaaGreatDoorW.PrintWords Go.Proofs.YtmgoncnjagihgaaGreatDoorW.PrintLast Go.Proofs.YtmgoncnjagihgaaGreatDoorW.PrintMore Go.Proofs.YtmgoncnjagihgaaGreatDoor.XC Go.Proofs.YtmgoncnjagihgaaGreatDoor.Given Go.Proofs.YtmgoncnjagihgaaGreatDoor.XM

/-- Whether it is a value. -/
def okV (k n : Int) (s : ByteArray) : Bool := if k = 0 then n == 0 && s.toList == [] else if k = 1 then (n == 0 || n == 1) && s.toList == [] else if k = 2 then s.toList == [] else if k = 3 then n == 0 else false

theorem ok_eq (k n : Int) (s : ByteArray) : val_Ok.f k n s = some (okV k n s) := by
  unfold val_Ok.f okV
  split
  · by_cases h : n = 0 <;> simp [h]
  · split
    · by_cases h : n = 0
      · simp [h]
      · by_cases h1 : n = 1 <;> simp [h, h1]
    · split
      · rfl
      · split
        · by_cases h : n = 0 <;> simp [h]
        · rfl
theorem rok_eq (k n : Int) (s : ByteArray) : umlautref11_Ok.f k n s = some (okV k n s) := by
  unfold umlautref11_Ok.f okV
  by_cases k0 : k = 0
  · subst k0
    rw [if_pos (by decide), if_pos (by decide)]
    by_cases h : n = 0 <;> by_cases e : s.toList = [] <;> simp [h, e]
  · by_cases k1 : k = 1
    · subst k1
      rw [if_pos (by decide), if_pos (by decide)]
      by_cases h : n = 0
      · by_cases e : s.toList = [] <;> simp [h, e]
      · by_cases h1 : n = 1
        · by_cases e : s.toList = [] <;> simp [h1, e]
        · simp [h, h1]
    · by_cases k2 : k = 2
      · subst k2
        rw [if_pos (by decide), if_pos (by decide)]
        by_cases h : n = 0 <;> by_cases e : s.toList = [] <;> simp [h, e]
      · by_cases k3 : k = 3
        · subst k3
          rw [if_pos (by decide), if_pos (by decide)]
          by_cases h : n = 0 <;> by_cases e : s.toList = [] <;> simp [h, e]
        · by_cases a : k ≥ 0
          · rw [if_pos a, if_neg (by omega)]
            simp [k0, k1, k2, k3]
          · rw [if_neg a]
            simp [k0, k1, k2, k3]

/-- A value, or none. -/
def cl (k n : Int) (s : ByteArray) : Int × Int × ByteArray := if okV k n s = true then (k, n, s) else (0, 0, E)
theorem is_eq (k n : Int) (s : ByteArray) : val_Is.f k n s = some (cl k n s) := by
  unfold val_Is.f cl
  rw [ok_eq]
  simp only [Option.bind_some]
  split <;> rfl
theorem clean_eq (k n : Int) (s : ByteArray) : umlautref11_Clean.f k n s = some (cl k n s) := by
  unfold umlautref11_Clean.f cl
  rw [rok_eq]
  simp only [Option.bind_some]
  split <;> rfl

def mayB (f t : Int) : Bool := if f = 0 then true else if f = 3 then t == 3 else true
theorem may_eq (k : Nat) (f t : Int) (hf : 0 ≤ f ∧ f ≤ 3) (ht : 1 ≤ t ∧ t ≤ 3) : cast_May.f (k + 1) f t = some (mayB f t) := by
  unfold cast_May.f mayB
  by_cases h : f = 0
  · rw [if_pos (by omega), cast_May.j0, if_pos rfl, if_pos h]
  · rw [if_neg (by omega), decide_eq_false (by omega), cast_May.j0, if_neg (by decide), if_neg (by omega), if_neg (by omega), if_neg h]
    split <;> rfl
theorem rmay_eq (f t : Int) (hf : 0 ≤ f ∧ f ≤ 3) (ht : 1 ≤ t ∧ t ≤ 3) : umlautref11_May.f f t = some (mayB f t) := by
  unfold umlautref11_May.f mayB
  by_cases h : f = 0
  · rw [if_pos h, if_pos h]
  · rw [if_neg h, if_neg h, if_pos (by omega), if_pos (by omega), if_pos (by omega), if_pos (by omega)]
    split <;> rfl

theorem cl_kind (k n : Int) (s : ByteArray) : 0 ≤ (cl k n s).1 ∧ (cl k n s).1 ≤ 3 := by
  unfold cl
  split
  · rename_i h
    show 0 ≤ k ∧ k ≤ 3
    unfold okV at h
    by_cases k0 : k = 0
    · omega
    · by_cases k1 : k = 1
      · omega
      · by_cases k2 : k = 2
        · omega
        · by_cases k3 : k = 3
          · omega
          · simp [k0, k1, k2, k3] at h
  · exact ⟨Int.le_refl _, by decide⟩
theorem cl_again (k n : Int) (s : ByteArray) : cl (cl k n s).1 (cl k n s).2.1 (cl k n s).2.2 = cl k n s := by
  unfold cl
  by_cases h : okV k n s = true
  · rw [if_pos h]
    exact if_pos h
  · rw [if_neg h]
    exact if_pos (by decide +kernel)
theorem cl_num (k n : Int) (s : ByteArray) (h : I64 n) : I64 (cl k n s).2.1 := by
  unfold cl
  split
  · exact h
  · show I64 0
    unfold I64
    omega
theorem cl_size (k n : Int) (s : ByteArray) : (cl k n s).2.2.size ≤ s.size := by
  unfold cl
  split
  · exact Nat.le_refl _
  · exact Nat.zero_le _

theorem show_some (k n : Int) (s : ByteArray) (hn : I64 n) (hc : cl k n s = (k, n, s)) (hk : k = 1 ∨ k = 2) : ∃ r, val_Show.f k n s = some r := by
  unfold val_Show.f
  rw [is_eq, hc]
  simp only [Option.bind_some]
  rw [if_neg (by omega)]
  unfold val_Print.f
  rw [is_eq, hc]
  simp only [Option.bind_some]
  rw [if_neg (by omega)]
  rcases hk with hk | hk
  · rw [if_pos hk]
    split <;> exact ⟨_, rfl⟩
  · rw [if_neg (by omega), if_pos hk]
    unfold ints_Text.f
    unfold I64 at hn
    rw [if_pos hn]
    exact ⟨_, rfl⟩

theorem trimS_le (l cs : List UInt8) : (Lib.trimS l cs).length ≤ l.length := by
  unfold Lib.trimS Lib.trimLeftS Lib.trimRightS
  have h1 := (List.dropWhile_sublist (l := (l.reverse.dropWhile (cs.contains ·)).reverse) (cs.contains ·)).length_le
  have h2 := (List.dropWhile_sublist (l := l.reverse) (cs.contains ·)).length_le
  simp only [List.length_reverse] at h1 h2
  omega

theorem read_some (k : Nat) (hk : 1001 < k) (s : ByteArray) (hs : s.size ≤ 1000) (t : Int) : ∃ r, cast_read.f k s t = some r := by
  unfold cast_read.f
  split
  · unfold strings_Trim.f
    rw [if_pos ⟨by omega, by decide, by decide⟩]
    simp only [Option.bind_some]
    unfold ints_Parse.f
    have hz : (⟨(Lib.trimS s.data.toList [32]).toArray⟩ : ByteArray).size ≤ 140737488351232 := by
      have := trimS_le s.data.toList [32]
      rw [data_length] at this
      show (Lib.trimS s.data.toList [32]).toArray.size ≤ _
      simp
      omega
    rw [if_pos hz]
    simp only [Option.bind_some]
    split <;> exact ⟨_, rfl⟩
  · obtain ⟨r, hr⟩ := PureF.fold_text s hs k hk
    rw [hr]
    simp only [Option.bind_some]
    split
    · exact ⟨_, rfl⟩
    · split <;> exact ⟨_, rfl⟩

/-- A value as another kind: something is told; no error where none may be. -/
theorem to_some (k : Nat) (hk : 1001 < k) (a n : Int) (s : ByteArray) (t : Int) (hn : I64 n) (hs : s.size ≤ 1000) (ht : 1 ≤ t ∧ t ≤ 3) : ∃ x y z e, cast_To.f (k + 2) a n s t = some (x, y, z, e) ∧ (mayB (cl a n s).1 t = true → e = 0) := by
  have hc := cl_again a n s
  have hb := cl_kind a n s
  have hnn := cl_num a n s hn
  have hss := cl_size a n s
  unfold cast_To.f
  rw [is_eq]
  simp only [Option.bind_some]
  generalize hv : cl a n s = v at *
  obtain ⟨q, m, u⟩ := v
  simp only at hc hb hnn hss ⊢
  by_cases q0 : q = 0
  · rw [if_pos q0]
    exact ⟨_, _, _, _, rfl, fun _ => rfl⟩
  · rw [if_neg q0, if_neg (by omega), decide_eq_false (by omega), cast_To.j0, if_neg (by decide)]
    by_cases e1 : q = t
    · rw [if_pos e1]
      exact ⟨_, _, _, _, rfl, fun _ => rfl⟩
    · rw [if_neg e1]
      by_cases e2 : (q == 1 && (t == 2)) = true
      · rw [if_pos e2]
        exact ⟨_, _, _, _, rfl, fun _ => rfl⟩
      · rw [if_neg e2]
        by_cases e3 : (q == 2 && (t == 1)) = true
        · rw [if_pos e3]
          unfold val_Bool.f
          split <;> exact ⟨_, _, _, _, rfl, fun _ => rfl⟩
        · rw [if_neg e3]
          have hj : ∀ b : Bool, (b = true → q = 1 ∨ q = 2) → (b = false → q = 3) → ∃ x y z e, cast_To.j1 (k + 1) t b q m u = some (x, y, z, e) ∧ (mayB q t = true → e = 0) := by
            intro b h1 h2
            rw [cast_To.j1]
            by_cases hbb : b = true
            · rw [if_pos hbb]
              obtain ⟨r, hr⟩ := show_some q m u hnn hc (h1 hbb)
              rw [hr]
              exact ⟨_, _, _, _, rfl, fun _ => rfl⟩
            · rw [if_neg hbb]
              have hq : q = 3 := h2 (by simpa using hbb)
              obtain ⟨⟨x, y, z, e⟩, hr⟩ := read_some k hk u (by omega) t
              rw [hr]
              refine ⟨x, y, z, e, rfl, fun hm => ?_⟩
              unfold mayB at hm
              rw [if_neg q0, if_pos hq] at hm
              have : t = 3 := by simpa using hm
              omega
          by_cases e4 : (q == 1 && (t == 3)) = true
          · rw [if_pos e4, e4]
            exact hj true (fun _ => .inl (by simp at e4; omega)) (fun h => by cases h)
          · rw [if_neg e4]
            by_cases e5 : (q == 2 && (t == 3)) = true
            · rw [e5]
              exact hj true (fun _ => .inr (by simp at e5; omega)) (fun h => by cases h)
            · have e6 : (q == 2 && (t == 3)) = false := by simpa using e5
              rw [e6]
              refine hj false (fun h => by cases h) (fun _ => ?_)
              simp at e2 e3 e4 e5
              omega

theorem and3 (a : Int) : Go.bits .and .i64 a 3 = a % 4 := by
  have h : ∀ (n : Nat) (m : Int), True := fun _ _ => trivial
  show IntKind.i64.wrap ((BitVec.ofInt 64 a &&& BitVec.ofInt 64 3).toNat : Int) = _
  have e : (BitVec.ofInt 64 a &&& BitVec.ofInt 64 3).toNat = (a % 4).toNat := by
    rw [BitVec.toNat_and, BitVec.toNat_ofInt, show (BitVec.ofInt 64 3).toNat = 2 ^ 2 - 1 from rfl, Nat.and_two_pow_sub_one_eq_mod]
    omega
  rw [e, i64_w]
  unfold wrap64
  omega
theorem and65535 (a : Int) : Go.bits .and .i64 a 65535 = a % 65536 := by
  show IntKind.i64.wrap ((BitVec.ofInt 64 a &&& BitVec.ofInt 64 65535).toNat : Int) = _
  have e : (BitVec.ofInt 64 a &&& BitVec.ofInt 64 65535).toNat = (a % 65536).toNat := by
    rw [BitVec.toNat_and, BitVec.toNat_ofInt, show (BitVec.ofInt 64 65535).toNat = 2 ^ 16 - 1 from rfl, Nat.and_two_pow_sub_one_eq_mod]
    omega
  rw [e, i64_w]
  unfold wrap64
  omega

theorem may_j (k : Nat) (hk : 1003 < k) (f t : Int) (b : Bool) (a n : Int) (s : ByteArray) (hn : I64 n) (hs : b = false → s.size ≤ 1000) (hf : 0 ≤ f ∧ f ≤ 3) (ht : 1 ≤ t ∧ t ≤ 3) (hb : b = false → (cl a n s).1 = f) : umlautlaw13_CastMay.j0 (k + 1) f t b a n s = some true := by
  have ha := awake_all k (by omega)
  rw [umlautlaw13_CastMay.j0]
  by_cases h : b = true
  · rw [if_pos h, ha]
    rfl
  · rw [if_neg h]
    have h' : b = false := by simpa using h
    obtain ⟨k2, rfl⟩ : ∃ m, k = m + 2 := ⟨k - 2, by omega⟩
    obtain ⟨x, y, z, e, he, hm⟩ := to_some k2 (by omega) a n s t hn (hs h') ht
    rw [he, show cast_May.f (k2 + 2) f t = some (mayB f t) from may_eq (k2 + 1) f t hf ht, ha]
    simp only [Option.bind_some]
    rw [hb h'] at hm
    by_cases hM : mayB f t = true
    · rw [if_pos hM, if_pos (hm hM)]
    · rw [if_neg hM]

theorem CastMay (from_ kind a n : Int) (s : ByteArray) (hn : (Lit.int .i64 n).wf = true) : umlautlaw13_CastMay.f 1006 from_ kind a n s = some true := by
  have hn := i64_of hn
  have e1 : wrap64 (Int.tmod (kind % 65536) 3 + 1) = kind % 65536 % 3 + 1 := by
    rw [Int.tmod_eq_emod_of_nonneg (by omega)]
    unfold wrap64
    omega
  have hf : 0 ≤ from_ % 4 ∧ from_ % 4 ≤ 3 := by omega
  have ht : 1 ≤ kind % 65536 % 3 + 1 ∧ kind % 65536 % 3 + 1 ≤ 3 := by omega
  unfold umlautlaw13_CastMay.f
  rw [and3, and65535, e1]
  generalize from_ % 4 = f at *
  generalize kind % 65536 % 3 + 1 = t at *
  rw [show cast_May.f 1006 f t = _ from may_eq 1005 f t hf ht, rmay_eq f t hf ht]
  simp only [Option.bind_some]
  rw [if_neg (by simp)]
  by_cases hz : (s.size : Int) > 100
  · rw [if_pos hz]
    exact may_j 1005 (by decide) f t true a n s hn (fun h => by cases h) hf ht (fun h => by cases h)
  · rw [if_neg hz, clean_eq]
    simp only [Option.bind_some]
    exact may_j 1005 (by decide) f t _ a n s hn (fun _ => by omega) hf ht (fun h => by simpa using h)

end Go.Proofs.YtmgoncnjagihgaaGreatDoor.PureC
