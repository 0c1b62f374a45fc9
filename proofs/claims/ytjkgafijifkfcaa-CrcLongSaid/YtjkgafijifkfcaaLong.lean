/- The law CrcLong comes to true for every slice of bytes and every number. Conditions: the slice reads as bytes. -/
import Derived.Test.YtjkgafijifkfcaaLongA
import Derived.Test.YtjkgafijifkfcaaLongB
import Derived.Test.YtjkgafijifkfcaaLongC
namespace Go.Proofs.Ytjkgafijifkfcaa
open Go.RowKit Go.Proofs.YtjkgafijifkfcaaW.PrintWords
theorem long_any (w : World) (A : Option Addr) (c : Nat) (l : List Int) (hr : Kd.C (Kd.int .u8) w A l.length l) (hc : l.length ≤ c) (hb : Crc.Bytes l) (more : Int) (_ : -9223372036854775808 ≤ more) (_ : more ≤ 9223372036854775807) :
    Calls Try.prog 14 #[.slice A l.length c, .int .i64 more] w fun e w' => e = .returned (.bool true) ∧ Below w.heap.size w w' := by
  have hlen : l.length ≤ 9223372036854775807 := hr.2.1
  obtain ⟨m, hm1, hm2, hm3, hm4⟩ : ∃ m : Nat, m ≤ 100 ∧ m ≤ l.length ∧ (100 < l.length → m = 100) ∧ (¬ 100 < l.length → m = l.length) := ⟨min 100 l.length, by omega, by omega, by omega, by omega⟩
  have HC := Aside0.mk (C_takeN hr m hm2)
  have HB := Aside0.mk (Bytes_take hb m)
  have hxl := (C_cells HC.out).1
  have HL5 : Aside0 ((l.take m ++ le4 (Crc.more 0 (l.take m)) ++ [more % 256]).length = m + 5) := ⟨by rw [List.length_append, put_len, hxl]; rfl⟩
  have HB4 : Aside0 (Crc.Bytes (l.take m ++ le4 (Crc.more 0 (l.take m)))) := ⟨append_bytes HB.out (le4_bytes (Crc.more_range 0 _))⟩
  have HB5 : Aside0 (Crc.Bytes (l.take m ++ le4 (Crc.more 0 (l.take m)) ++ [more % 256])) := ⟨append_bytes HB4.out (by intro y hy; simp at hy; subst hy; omega)⟩
  by_cases h100 : 100 < l.length
  · obtain rfl := hm3 h100
    exact long_a w A c l.length _ more HC HB (by omega) hlen h100 HL5 HB4 HB5
  · obtain rfl := hm4 h100
    by_cases h0 : 0 < l.length
    · exact long_b w A c l.length _ more HC HB (by omega) hlen h100 h0 HL5 HB4 HB5
    · have h00 : l.length = 0 := by omega
      rw [h00] at HC HL5 ⊢
      rw [h00] at HB HB4 HB5
      exact long_c w A c _ more HC HB (by omega) HL5 HB4 HB5
end Go.Proofs.Ytjkgafijifkfcaa
