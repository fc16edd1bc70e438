/-
  internal/strconv.formatBits at the base 16, for a number of one to four digits. (Written by hexb_make.py.)
-/
import Derived.Test.YtmgoncnjagihgaaDoorHexA
import Derived.Laws.Bits64b
namespace Go.Proofs.YtmgoncnjagihgaaDoor.Given
open Go.RowKit Go.Proofs.YtmgoncnjagihgaaDoorW.PrintWords Go.Proofs.YtmgoncnjagihgaaDoorW.PrintLast Go.Proofs.YtmgoncnjagihgaaDoorW.PrintMore Go.Proofs.YtmgoncnjagihgaaDoor.Lem

theorem pow2 (w : World) :
    Calls Tryd.prog 81 #[.int .i64 16] w fun e w' => e = .returned (.bool true) ∧ w' = w := by
  go_enter Tryd.func81, Tryd.ntmps81
  go_wp2
  go_ret
  exact ⟨by rw [show (bits BinOp.and IntKind.i64 16 15 == 0) = true by decide +kernel]; rfl, rfl⟩

theorem rounds_go {P : Program} {c : Code} {Q : Exit → Act → World → Prop} {n : Nat} {a : Act} {w : World} (h : c.wp P (Exit.then (Code.rounds P c Q n) Q) a w) : Code.rounds P c Q (n + 1) a w := h

def zero65 : Array Value := (List.replicate 65 (Value.int .u8 0)).toArray

/-- A digit's letter. -/
def hexd (i : Int) : Int := if i < 10 then 48 + i else 87 + i

@[go_sem high] theorem run_index_digits {P : Program} {w : World} (t : TypeId) (k : IntKind) (i : Int) (h : P.underlying t = some .string) (h0 : 0 ≤ i) (h1 : i < 16) :
    (Instr.index t (.string ⟨#[48, 49, 50, 51, 52, 53, 54, 55, 56, 57, 97, 98, 99, 100, 101, 102, 103, 104, 105, 106, 107, 108, 109, 110, 111, 112, 113, 114, 115, 116, 117, 118, 119, 120, 121, 122]⟩) (.int k i)).run P w = .ok (.int .u8 (hexd i)) w := by
  rw [run_index_string w t _ k i h]
  obtain ⟨n, rfl⟩ := Int.eq_ofNat_of_zero_le h0
  have hn : n < 16 := by omega
  rcases (by omega : n = 0 ∨ n = 1 ∨ n = 2 ∨ n = 3 ∨ n = 4 ∨ n = 5 ∨ n = 6 ∨ n = 7 ∨ n = 8 ∨ n = 9 ∨ n = 10 ∨ n = 11 ∨ n = 12 ∨ n = 13 ∨ n = 14 ∨ n = 15) with rfl | rfl | rfl | rfl | rfl | rfl | rfl | rfl | rfl | rfl | rfl | rfl | rfl | rfl | rfl | rfl <;> rfl

theorem and15 (x : Int) (h0 : 0 ≤ x) (h1 : x < 18446744073709551616) : bits .and .u64 x 15 = x % 16 := by
  obtain ⟨n, rfl⟩ := Int.eq_ofNat_of_zero_le h0
  have h := bits_and_u64_nat n 15 (by omega) (by omega)
  rw [show ((15 : Nat) : Int) = 15 from rfl, show n &&& 15 = n % 16 from Nat.and_two_pow_sub_one_eq_mod n 4] at h
  rw [h]
  omega

set_option maxRecDepth 100000 in
set_option maxHeartbeats 2000000 in
theorem bits1 (u : Int) (h0 : 0 ≤ u) (h1 : u < 16) (w : World) (hG0 : GW w) :
    Calls Tryd.prog 64 #[.slice none 0 0, .int .u64 u, .int .i64 16, .bool false, .bool false] w fun e w' => e = .returned (.tuple #[.slice none 0 0, .string (strOfNums [hexd u])]) ∧ Below w.heap.size w w' := by
  have HG := Aside0.mk hG0
  have HB := Aside0.mk (Below.refl w.heap.size w)
  clear hG0
  have c0 : decide (u ≥ 16) = false := decide_eq_false (by omega)
  have l0 : 0 ≤ u := by omega
  have m0 : u < 16 := by omega
  go_enter Tryd.func64, Tryd.ntmps64
  go_wp2_with (first | ((with_reducible refine gate_dst (N := 12) rfl ?_); refine box_event ?hg (N := 12) ?hd (cs := zero65) (t := 110) ?hr ?_; (case hd => rfl); (case hg => rfl); (case hr => first | (go_simp; done) | (go_simp; rfl)); intro g hg w1 hbox hb; have HB1 := Aside0.mk (below_step HB.out hb); have BK := Aside0.mk hbox; have GE := Aside0.mk ((by rw [hg]; exact (below_size HB.out)) : w.heap.size ≤ g); have HG1 := Aside0.mk (GW.below HG.out (below_step HB.out hb)); clear HB HG; clear hb hbox hg; have z64 : w1.cell? ⟨g, 64, none⟩ = some (.int .u8 0) := (blk_cell BK.out 64).trans rfl; have f64 := blk_frozen BK.out 64) | ((with_reducible refine gate_dst (N := 101) rfl ?_); refine convL_ rfl rfl Tryd.underlying37 Tryd.underlying5 Tryd.underlying9 g 64 1 1 [hexd u] rfl rfl ?hc ?_; (case hc => intro i hi; rcases (by omega : i = 0) with rfl <;> exact (blk_cell (blk_put BK.out 64 (.int .u8 (hexd u)) rfl) _).trans rfl)) | (go_at_call 81; refine (pow2 _).mono ?_; rintro e w' ⟨rfl, rfl⟩) | (go_at_call 82; refine (tz _ HG1.out).mono ?_; rintro e w' ⟨rfl, rfl⟩) | (refine wp_loop_rounds 1 ?_) | (refine rounds_go ?_))
  go_ret2
  exact ⟨rfl, (below_set HB1.out GE.out)⟩

set_option maxRecDepth 100000 in
set_option maxHeartbeats 2000000 in
theorem bits2 (u : Int) (h0 : 16 ≤ u) (h1 : u < 256) (w : World) (hG0 : GW w) :
    Calls Tryd.prog 64 #[.slice none 0 0, .int .u64 u, .int .i64 16, .bool false, .bool false] w fun e w' => e = .returned (.tuple #[.slice none 0 0, .string (strOfNums [hexd (u / 16), hexd (u % 16)])]) ∧ Below w.heap.size w w' := by
  have HG := Aside0.mk hG0
  have HB := Aside0.mk (Below.refl w.heap.size w)
  clear hG0
  have c0 : decide (u ≥ 16) = true := decide_eq_true (by omega)
  have a0 : bits .and .u64 u 15 = u % 16 := and15 _ (by omega) (by omega)
  have l0 : 0 ≤ u % 16 := by omega
  have m0 : u % 16 < 16 := by omega
  have c1 : decide ((u / 16) ≥ 16) = false := decide_eq_false (by omega)
  have l1 : 0 ≤ (u / 16) := by omega
  have m1 : (u / 16) < 16 := by omega
  go_enter Tryd.func64, Tryd.ntmps64
  go_wp2_with (first | ((with_reducible refine gate_dst (N := 12) rfl ?_); refine box_event ?hg (N := 12) ?hd (cs := zero65) (t := 110) ?hr ?_; (case hd => rfl); (case hg => rfl); (case hr => first | (go_simp; done) | (go_simp; rfl)); intro g hg w1 hbox hb; have HB1 := Aside0.mk (below_step HB.out hb); have BK := Aside0.mk hbox; have GE := Aside0.mk ((by rw [hg]; exact (below_size HB.out)) : w.heap.size ≤ g); have HG1 := Aside0.mk (GW.below HG.out (below_step HB.out hb)); clear HB HG; clear hb hbox hg; have z64 : w1.cell? ⟨g, 64, none⟩ = some (.int .u8 0) := (blk_cell BK.out 64).trans rfl; have f64 := blk_frozen BK.out 64; have z63 : w1.cell? ⟨g, 63, none⟩ = some (.int .u8 0) := (blk_cell BK.out 63).trans rfl; have f63 := blk_frozen BK.out 63) | ((with_reducible refine gate_dst (N := 101) rfl ?_); refine convL_ rfl rfl Tryd.underlying37 Tryd.underlying5 Tryd.underlying9 g 63 2 2 [hexd (u / 16), hexd (u % 16)] rfl rfl ?hc ?_; (case hc => intro i hi; rcases (by omega : i = 0 ∨ i = 1) with rfl | rfl <;> exact (blk_cell (blk_put (blk_put BK.out 64 (.int .u8 (hexd (u % 16))) rfl) 63 (.int .u8 (hexd (u / 16))) rfl) _).trans rfl)) | (go_at_call 81; refine (pow2 _).mono ?_; rintro e w' ⟨rfl, rfl⟩) | (go_at_call 82; refine (tz _ HG1.out).mono ?_; rintro e w' ⟨rfl, rfl⟩) | (refine wp_loop_rounds 2 ?_) | (refine rounds_go ?_))
  go_ret2
  exact ⟨rfl, (below_set (below_set HB1.out GE.out) GE.out)⟩

set_option maxRecDepth 100000 in
set_option maxHeartbeats 2000000 in
theorem bits3 (u : Int) (h0 : 256 ≤ u) (h1 : u < 4096) (w : World) (hG0 : GW w) :
    Calls Tryd.prog 64 #[.slice none 0 0, .int .u64 u, .int .i64 16, .bool false, .bool false] w fun e w' => e = .returned (.tuple #[.slice none 0 0, .string (strOfNums [hexd (u / 256), hexd ((u / 16) % 16), hexd (u % 16)])]) ∧ Below w.heap.size w w' := by
  have HG := Aside0.mk hG0
  have HB := Aside0.mk (Below.refl w.heap.size w)
  clear hG0
  have c0 : decide (u ≥ 16) = true := decide_eq_true (by omega)
  have a0 : bits .and .u64 u 15 = u % 16 := and15 _ (by omega) (by omega)
  have l0 : 0 ≤ u % 16 := by omega
  have m0 : u % 16 < 16 := by omega
  have c1 : decide ((u / 16) ≥ 16) = true := decide_eq_true (by omega)
  have a1 : bits .and .u64 (u / 16) 15 = (u / 16) % 16 := and15 _ (by omega) (by omega)
  have l1 : 0 ≤ (u / 16) % 16 := by omega
  have m1 : (u / 16) % 16 < 16 := by omega
  have s1 : u / 16 / 16 = u / 256 := by omega
  have c2 : decide ((u / 256) ≥ 16) = false := decide_eq_false (by omega)
  have l2 : 0 ≤ (u / 256) := by omega
  have m2 : (u / 256) < 16 := by omega
  go_enter Tryd.func64, Tryd.ntmps64
  go_wp2_with (first | ((with_reducible refine gate_dst (N := 12) rfl ?_); refine box_event ?hg (N := 12) ?hd (cs := zero65) (t := 110) ?hr ?_; (case hd => rfl); (case hg => rfl); (case hr => first | (go_simp; done) | (go_simp; rfl)); intro g hg w1 hbox hb; have HB1 := Aside0.mk (below_step HB.out hb); have BK := Aside0.mk hbox; have GE := Aside0.mk ((by rw [hg]; exact (below_size HB.out)) : w.heap.size ≤ g); have HG1 := Aside0.mk (GW.below HG.out (below_step HB.out hb)); clear HB HG; clear hb hbox hg; have z64 : w1.cell? ⟨g, 64, none⟩ = some (.int .u8 0) := (blk_cell BK.out 64).trans rfl; have f64 := blk_frozen BK.out 64; have z63 : w1.cell? ⟨g, 63, none⟩ = some (.int .u8 0) := (blk_cell BK.out 63).trans rfl; have f63 := blk_frozen BK.out 63; have z62 : w1.cell? ⟨g, 62, none⟩ = some (.int .u8 0) := (blk_cell BK.out 62).trans rfl; have f62 := blk_frozen BK.out 62) | ((with_reducible refine gate_dst (N := 101) rfl ?_); refine convL_ rfl rfl Tryd.underlying37 Tryd.underlying5 Tryd.underlying9 g 62 3 3 [hexd (u / 256), hexd ((u / 16) % 16), hexd (u % 16)] rfl rfl ?hc ?_; (case hc => intro i hi; rcases (by omega : i = 0 ∨ i = 1 ∨ i = 2) with rfl | rfl | rfl <;> exact (blk_cell (blk_put (blk_put (blk_put BK.out 64 (.int .u8 (hexd (u % 16))) rfl) 63 (.int .u8 (hexd ((u / 16) % 16))) rfl) 62 (.int .u8 (hexd (u / 256))) rfl) _).trans rfl)) | (go_at_call 81; refine (pow2 _).mono ?_; rintro e w' ⟨rfl, rfl⟩) | (go_at_call 82; refine (tz _ HG1.out).mono ?_; rintro e w' ⟨rfl, rfl⟩) | (refine wp_loop_rounds 3 ?_) | (refine rounds_go ?_))
  go_ret2
  exact ⟨rfl, (below_set (below_set (below_set HB1.out GE.out) GE.out) GE.out)⟩

set_option maxRecDepth 100000 in
set_option maxHeartbeats 2000000 in
theorem bits4 (u : Int) (h0 : 4096 ≤ u) (h1 : u < 65536) (w : World) (hG0 : GW w) :
    Calls Tryd.prog 64 #[.slice none 0 0, .int .u64 u, .int .i64 16, .bool false, .bool false] w fun e w' => e = .returned (.tuple #[.slice none 0 0, .string (strOfNums [hexd (u / 4096), hexd ((u / 256) % 16), hexd ((u / 16) % 16), hexd (u % 16)])]) ∧ Below w.heap.size w w' := by
  have HG := Aside0.mk hG0
  have HB := Aside0.mk (Below.refl w.heap.size w)
  clear hG0
  have c0 : decide (u ≥ 16) = true := decide_eq_true (by omega)
  have a0 : bits .and .u64 u 15 = u % 16 := and15 _ (by omega) (by omega)
  have l0 : 0 ≤ u % 16 := by omega
  have m0 : u % 16 < 16 := by omega
  have c1 : decide ((u / 16) ≥ 16) = true := decide_eq_true (by omega)
  have a1 : bits .and .u64 (u / 16) 15 = (u / 16) % 16 := and15 _ (by omega) (by omega)
  have l1 : 0 ≤ (u / 16) % 16 := by omega
  have m1 : (u / 16) % 16 < 16 := by omega
  have s1 : u / 16 / 16 = u / 256 := by omega
  have c2 : decide ((u / 256) ≥ 16) = true := decide_eq_true (by omega)
  have a2 : bits .and .u64 (u / 256) 15 = (u / 256) % 16 := and15 _ (by omega) (by omega)
  have l2 : 0 ≤ (u / 256) % 16 := by omega
  have m2 : (u / 256) % 16 < 16 := by omega
  have s2 : u / 256 / 16 = u / 4096 := by omega
  have c3 : decide ((u / 4096) ≥ 16) = false := decide_eq_false (by omega)
  have l3 : 0 ≤ (u / 4096) := by omega
  have m3 : (u / 4096) < 16 := by omega
  go_enter Tryd.func64, Tryd.ntmps64
  go_wp2_with (first | ((with_reducible refine gate_dst (N := 12) rfl ?_); refine box_event ?hg (N := 12) ?hd (cs := zero65) (t := 110) ?hr ?_; (case hd => rfl); (case hg => rfl); (case hr => first | (go_simp; done) | (go_simp; rfl)); intro g hg w1 hbox hb; have HB1 := Aside0.mk (below_step HB.out hb); have BK := Aside0.mk hbox; have GE := Aside0.mk ((by rw [hg]; exact (below_size HB.out)) : w.heap.size ≤ g); have HG1 := Aside0.mk (GW.below HG.out (below_step HB.out hb)); clear HB HG; clear hb hbox hg; have z64 : w1.cell? ⟨g, 64, none⟩ = some (.int .u8 0) := (blk_cell BK.out 64).trans rfl; have f64 := blk_frozen BK.out 64; have z63 : w1.cell? ⟨g, 63, none⟩ = some (.int .u8 0) := (blk_cell BK.out 63).trans rfl; have f63 := blk_frozen BK.out 63; have z62 : w1.cell? ⟨g, 62, none⟩ = some (.int .u8 0) := (blk_cell BK.out 62).trans rfl; have f62 := blk_frozen BK.out 62; have z61 : w1.cell? ⟨g, 61, none⟩ = some (.int .u8 0) := (blk_cell BK.out 61).trans rfl; have f61 := blk_frozen BK.out 61) | ((with_reducible refine gate_dst (N := 101) rfl ?_); refine convL_ rfl rfl Tryd.underlying37 Tryd.underlying5 Tryd.underlying9 g 61 4 4 [hexd (u / 4096), hexd ((u / 256) % 16), hexd ((u / 16) % 16), hexd (u % 16)] rfl rfl ?hc ?_; (case hc => intro i hi; rcases (by omega : i = 0 ∨ i = 1 ∨ i = 2 ∨ i = 3) with rfl | rfl | rfl | rfl <;> exact (blk_cell (blk_put (blk_put (blk_put (blk_put BK.out 64 (.int .u8 (hexd (u % 16))) rfl) 63 (.int .u8 (hexd ((u / 16) % 16))) rfl) 62 (.int .u8 (hexd ((u / 256) % 16))) rfl) 61 (.int .u8 (hexd (u / 4096))) rfl) _).trans rfl)) | (go_at_call 81; refine (pow2 _).mono ?_; rintro e w' ⟨rfl, rfl⟩) | (go_at_call 82; refine (tz _ HG1.out).mono ?_; rintro e w' ⟨rfl, rfl⟩) | (refine wp_loop_rounds 4 ?_) | (refine rounds_go ?_))
  go_ret2
  exact ⟨rfl, (below_set (below_set (below_set (below_set HB1.out GE.out) GE.out) GE.out) GE.out)⟩

end Go.Proofs.YtmgoncnjagihgaaDoor.Given
