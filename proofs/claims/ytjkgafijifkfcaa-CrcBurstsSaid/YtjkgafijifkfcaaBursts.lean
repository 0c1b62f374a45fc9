/- The law CrcBursts comes to true for every slice of bytes and every two numbers. Conditions: the slice reads as bytes. -/
import Derived.Test.YtjkgafijifkfcaaCrcBurst
import Derived.Test.YtjkgafijifkfcaaPuts
import Derived.Test.YtjkgafijifkfcaaLinear
import Derived.Test.YtjkgafijifkfcaaLongTells
namespace Go.Proofs.Ytjkgafijifkfcaa
open Go.RowKit Go.Proofs.YtjkgafijifkfcaaW.PrintWords
set_option linter.unusedVariables false
set_option linter.unusedSimpArgs false

theorem split4 (C : List Int) (k m : Nat) (h : C.length = m + 4) (hk : k ≤ m) : ∃ pre c0 c1 c2 c3 post, C = pre ++ [c0, c1, c2, c3] ++ post ∧ pre.length = k ∧ post.length = m - k := by
  have e : C = C.take k ++ C.drop k := (List.take_append_drop k C).symm
  have hl : (C.drop k).length = m - k + 4 := by rw [List.length_drop]; omega
  match hd : C.drop k, hl with
  | c0 :: c1 :: c2 :: c3 :: post, hl => exact ⟨C.take k, c0, c1, c2, c3, post, by rw [hd] at e; rw [List.append_assoc]; exact e, by simp; omega, by simp at hl; omega⟩
/-- the wth byte of a number -/
def wb (v : BitVec 32) : Nat → Int
  | 0 => (v.toNat : Int) % 256
  | 1 => (v.toNat : Int) / 256 % 256
  | 2 => (v.toNat : Int) / 65536 % 256
  | _ => (v.toNat : Int) / 16777216
theorem wb_byte (v : BitVec 32) (i : Nat) : 0 ≤ wb v i ∧ wb v i < 256 := by
  have h := u32_of v
  match i with
  | 0 | 1 | 2 | n + 3 => simp only [wb]; omega
theorem xor8_zero (c : Int) (hc : 0 ≤ c ∧ c < 256) : Go.bits .xor .u8 c 0 = c := by
  obtain ⟨n, rfl⟩ := Int.eq_ofNat_of_zero_le hc.1
  have := u8_xor_nat n 0 (by omega) (by omega)
  simpa using this
def mid (c0 c1 c2 c3 d0 d1 d2 d3 : Int) : Nat → List Int
  | 0 => [c0, c1, c2, c3]
  | 1 => [d0, c1, c2, c3]
  | 2 => [d0, d1, c2, c3]
  | 3 => [d0, d1, d2, c3]
  | _ => [d0, d1, d2, d3]
abbrev rowOf (pre post : List Int) (m : List Int) : List Value := encs (Value.int .u8) (pre ++ m ++ post)
theorem row_get (pre post m : List Int) (j : Nat) (h : j < m.length) : (rowOf pre post m)[pre.length + j]? = some (.int .u8 m[j]) := by
  simp only [rowOf, encs, List.map_append, List.append_assoc]
  rw [List.getElem?_append_right (by simp), List.length_map, Nat.add_sub_cancel_left, List.getElem?_append_left (by simpa using h)]
  simp [h]
theorem row_set (pre post m : List Int) (j : Nat) (h : j < m.length) (x : Int) : (rowOf pre post m).set (pre.length + j) (.int .u8 x) = rowOf pre post (m.set j x) := by
  simp only [rowOf, encs, List.map_append, List.append_assoc, List.map_set]
  rw [List.set_append_right _ _ (by simp), List.length_map, Nat.add_sub_cancel_left, List.set_append_left _ _ (by simpa using h)]

theorem own_cap {W : World} {base e size n cap : Nat} {A : Addr} {xs : List Value} (h : W.ownsRow base e size (.slice (some A) n cap) n xs) : n ≤ cap := by
  rcases h.2 with ⟨h1, _⟩ | ⟨g', cap', cur, he, _, _, h2, _⟩
  · cases h1
  · cases he
    exact h2
theorem row_step {pre post m m' : List Int} {k j : Nat} {x : Int} (hk : pre.length = k) (h : j < m.length) (hm : m.set j x = m') : (rowOf pre post m).set (k + j) (.int .u8 x) = rowOf pre post m' := by
  subst hk
  subst hm
  exact row_set pre post m j h x
theorem stored_row {w W : World} {g n cap off j k : Nat} {pre post m m' : List Int} {x : Int} (h : W.ownsRow w.heap.size 5 1 (.slice (some ⟨g, 0, none⟩) n cap) n (rowOf pre post m)) (hB : Below w.heap.size w W) (ho : off = k + j) (hk : pre.length = k) (hj : j < m.length) (hm : m.set j x = m') (hg : w.heap.size ≤ g) :
    (W.setCell ⟨g, off, none⟩ (.int .u8 x)).drew.ownsRow w.heap.size 5 1 (.slice (some ⟨g, 0, none⟩) n cap) n (rowOf pre post m') ∧ Below w.heap.size w (W.setCell ⟨g, off, none⟩ (.int .u8 x)).drew := by
  subst ho
  have h1 := (h.stored (k + j) (.int .u8 x)).1
  rw [row_step hk hj hm] at h1
  exact ⟨h1, (hB.setCell hg _).drew⟩
set_option maxRecDepth 100000 in
set_option maxHeartbeats 4000000 in
theorem bursts_any (w : World) (A : Option Addr) (c : Nat) (l : List Int) (hr : Kd.C (Kd.int .u8) w A l.length l) (hc : l.length ≤ c) (hb : Crc.Bytes l) (at_ : Int) (h0 : -9223372036854775808 ≤ at_) (h1 : at_ ≤ 9223372036854775807) (bits : Int) (_ : -9223372036854775808 ≤ bits) (_ : bits ≤ 9223372036854775807) :
    Calls Try.prog 13 #[.slice A l.length c, .int .i64 at_, .int .i64 bits] w fun e w' => e = .returned (.bool true) ∧ Below w.heap.size w w' := by
  have HF := Aside0.mk (few_calls A c l w hc hr.2.1)
  have HA : Aside0 (Kd.C (Kd.int .u8) w A (l.take 200).length (l.take 200)) := ⟨C_take hr 200⟩
  have HB : Aside0 (Crc.Bytes (l.take 200)) := ⟨Bytes_take hb 200⟩
  have la : (l.take 200).length ≤ 200 := by simp; omega
  have lac : (l.take 200).length ≤ c := by simp; omega
  clear hr hb hc
  generalize l.take 200 = x at *
  by_cases hneg : at_ < 0
  all_goals
    go_enter Try.func13, Try.ntmps13
    go_wp2_with (first
      | (go_at_call 15; (with_reducible refine HF.out.mono ?_); rintro e w1 ⟨rfl, rfl⟩)
      | (go_at_call 32; (with_reducible refine (put_nil A c x.length x _ HA.out lac HB.out (by omega)).mono ?_); rintro e w1 ⟨v1, rfl, ho1, hb1⟩; obtain ⟨A1, c1, rfl, hc1, hC1⟩ := Kd.R_reads ho1; rw [put_len] at hc1 hC1 ⊢; have HC1 := Aside0.mk hC1; have HW1 := Aside0.mk hb1; clear ho1 hC1 hb1)
      | (refine appN w.heap.size rfl (.tmp 36) (.tmp 37) rfl _ [] (x ++ le4 (Crc.more 0 x)) A1 (x.length + 4) c1 rfl rfl (Kd.R_nil _ _ _ _ _) HC1.out HW1.out HW1.out.size (by simp; omega) ?_; intro v2 w2 ho2 hb2 hg2; have HO2 := Aside0.mk ho2; have HW2 := Aside0.mk hb2; clear ho2 hb2 hg2))
    rw [show ((x.length : Int) + 4 - 3) = (x.length : Int) + 1 from by omega]
    obtain ⟨k, hk, hkl0⟩ := (by first | exact neg_mod hneg (n := (x.length : Int)) (by omega) | exact pos_mod (a := at_) (n := (x.length : Int)) (by omega) : ∃ k : Nat, _ = (k : Int) ∧ (k : Int) ≤ (x.length : Int))
    have hkl : k ≤ x.length := by omega
    clear hkl0
    rw [hk]
    clear hk
    have hbits : bits % 4294967296 = ((BitVec.ofInt 32 bits).toNat : Int) := by rw [BitVec.toNat_ofInt]; simp; omega
    rw [hbits]
    clear hbits
    generalize BitVec.ofInt 32 bits = W32 at *
    have HBC : Aside0 (Crc.Bytes (x ++ le4 (Crc.more 0 x))) := ⟨append_bytes HB.out (le4_bytes (Crc.more_range 0 x))⟩
    obtain ⟨pre, c0, c1', c2, c3, post, hC, hpre, hpost⟩ := split4 (x ++ le4 (Crc.more 0 x)) k x.length (put_len x) hkl
    have HCC := Aside0.mk hC
    have own2 := Kd.own_of_R HO2.out
    rw [List.nil_append, hC] at own2
    have hn4 : (pre ++ [c0, c1', c2, c3] ++ post).length = x.length + 4 := by rw [← hC, put_len]
    rw [hn4] at own2
    rw [hC] at HBC
    obtain ⟨g, cap, rfl, hgb, hgl⟩ := own2.form (by omega)
    have HOWN2 := Aside0.mk own2
    clear hC own2 HO2 hn4
    have hxr : ∀ ci j, 0 ≤ ci ∧ ci < 256 → 0 ≤ Go.bits .xor .u8 ci (wb W32 j) ∧ Go.bits .xor .u8 ci (wb W32 j) < 256 := fun ci j h => (xor8 ci _ h (wb_byte W32 j)).2
    have HX := Aside0.mk hxr
    clear hxr
    have hW0 : (0 : Int) ≤ (W32.toNat : Int) := by omega
    have hW1 : (W32.toNat : Int) < 4294967296 := by have := u32_of W32; omega
    obtain ⟨d0, hd0⟩ : ∃ d, d = Go.bits .xor .u8 c0 (wb W32 0) := ⟨_, rfl⟩
    obtain ⟨d1, hd1⟩ : ∃ d, d = Go.bits .xor .u8 c1' (wb W32 1) := ⟨_, rfl⟩
    obtain ⟨d2, hd2⟩ : ∃ d, d = Go.bits .xor .u8 c2 (wb W32 2) := ⟨_, rfl⟩
    obtain ⟨d3, hd3⟩ : ∃ d, d = Go.bits .xor .u8 c3 (wb W32 3) := ⟨_, rfl⟩
    have HD := Aside0.mk (And.intro hd0 (And.intro hd1 (And.intro hd2 hd3)))
    clear hd0 hd1 hd2 hd3
    have HPRE := Aside0.mk hpre
    have HPOST := Aside0.mk hpost
    clear hpre hpost
    go_loopw [11] (fun i wr => ∃ j : Nat, j ≤ 4 ∧ i = .int .i64 j ∧ wr.ownsRow w.heap.size 5 1 (.slice (some ⟨g, 0, none⟩) (x.length + 4) cap) (x.length + 4) (rowOf pre post (mid c0 c1' c2 c3 d0 d1 d2 d3 j)) ∧ Below w.heap.size w wr) (fun i _ => 4 - (intOf i).toNat)
    case atStart => exact ⟨0, by omega, rfl, HOWN2.out, HW2.out⟩
    case round =>
      obtain ⟨j, hj, rfl, hown, hbel⟩ := hrel
      obtain ⟨wo, rfl⟩ : ∃ wo : World, wo = wr := ⟨_, rfl⟩
      have HO := Aside0.mk hown
      have HW := Aside0.mk hbel
      clear hown hbel
      by_cases hj4 : j < 4
      · have hk0 : (0 : Int) ≤ (k : Int) := by omega
        have hk' : j = 0 ∨ j = 1 ∨ j = 2 ∨ j = 3 := by omega
        rcases hk' with rfl | rfl | rfl | rfl
        · have hcell : wo.cell? ⟨g, k, none⟩ = some (.int .u8 c0) := by rw [HO.out.cellAt (k) (by omega), ← HPRE.out]; exact row_get pre post _ 0 (by simp [mid])
          have hfr : wo.frozen? ⟨g, k, none⟩ = false := HO.out.frozenAt (k)
          have hb1 : (k : Int) + 0 < (x.length : Int) + 4 := by omega
          go_wp2
          go_region
          go_wp2
          have hs := stored_row (x := d0) (m' := mid c0 c1' c2 c3 d0 d1 d2 d3 1) HO.out HW.out (show k = k + 0 from rfl) HPRE.out (by simp [mid]) rfl (by omega)
          go_roundw
          case rel => exact ⟨1, by omega, by go_num, by have e : Go.bits .xor .u8 c0 ((W32.toNat : Int) % 256) = d0 := HD.out.1.symm; rw [e]; exact hs.1, by have e : Go.bits .xor .u8 c0 ((W32.toNat : Int) % 256) = d0 := HD.out.1.symm; rw [e]; exact hs.2⟩
          case measure => simp [intOf]
        · have hcell : wo.cell? ⟨g, k + 1, none⟩ = some (.int .u8 c1') := by rw [HO.out.cellAt (k + 1) (by omega), ← HPRE.out]; exact row_get pre post _ 1 (by simp [mid])
          have hfr : wo.frozen? ⟨g, k + 1, none⟩ = false := HO.out.frozenAt (k + 1)
          have hb1 : (k : Int) + 1 < (x.length : Int) + 4 := by omega
          go_wp2
          go_region
          go_wp2
          have hs := stored_row (x := d1) (m' := mid c0 c1' c2 c3 d0 d1 d2 d3 2) HO.out HW.out (show k + 1 = k + 1 from rfl) HPRE.out (by simp [mid]) rfl (by omega)
          go_roundw
          case rel => exact ⟨2, by omega, by go_num, by have e : Go.bits .xor .u8 c1' ((W32.toNat : Int) / 256 % 256) = d1 := HD.out.2.1.symm; rw [e]; exact hs.1, by have e : Go.bits .xor .u8 c1' ((W32.toNat : Int) / 256 % 256) = d1 := HD.out.2.1.symm; rw [e]; exact hs.2⟩
          case measure => simp [intOf]
        · have hcell : wo.cell? ⟨g, k + 2, none⟩ = some (.int .u8 c2) := by rw [HO.out.cellAt (k + 2) (by omega), ← HPRE.out]; exact row_get pre post _ 2 (by simp [mid])
          have hfr : wo.frozen? ⟨g, k + 2, none⟩ = false := HO.out.frozenAt (k + 2)
          have hb1 : (k : Int) + 2 < (x.length : Int) + 4 := by omega
          go_wp2
          go_region
          go_wp2
          have hs := stored_row (x := d2) (m' := mid c0 c1' c2 c3 d0 d1 d2 d3 3) HO.out HW.out (show k + 2 = k + 2 from rfl) HPRE.out (by simp [mid]) rfl (by omega)
          go_roundw
          case rel => exact ⟨3, by omega, by go_num, by have e : Go.bits .xor .u8 c2 ((W32.toNat : Int) / 65536 % 256) = d2 := HD.out.2.2.1.symm; rw [e]; exact hs.1, by have e : Go.bits .xor .u8 c2 ((W32.toNat : Int) / 65536 % 256) = d2 := HD.out.2.2.1.symm; rw [e]; exact hs.2⟩
          case measure => simp [intOf]
        · have hcell : wo.cell? ⟨g, k + 3, none⟩ = some (.int .u8 c3) := by rw [HO.out.cellAt (k + 3) (by omega), ← HPRE.out]; exact row_get pre post _ 3 (by simp [mid])
          have hfr : wo.frozen? ⟨g, k + 3, none⟩ = false := HO.out.frozenAt (k + 3)
          have hb1 : (k : Int) + 3 < (x.length : Int) + 4 := by omega
          go_wp2
          go_region
          go_wp2
          have hs := stored_row (x := d3) (m' := mid c0 c1' c2 c3 d0 d1 d2 d3 4) HO.out HW.out (show k + 3 = k + 3 from rfl) HPRE.out (by simp [mid]) rfl (by omega)
          go_roundw
          case rel => exact ⟨4, by omega, by go_num, by have e : Go.bits .xor .u8 c3 ((W32.toNat : Int) / 16777216) = d3 := HD.out.2.2.2.symm; rw [e]; exact hs.1, by have e : Go.bits .xor .u8 c3 ((W32.toNat : Int) / 16777216) = d3 := HD.out.2.2.2.symm; rw [e]; exact hs.2⟩
          case measure => simp [intOf]
      · obtain rfl : j = 4 := by omega
        have HT := Aside0.mk (show Kd.C (Kd.int .u8) wo (some ⟨g, 0, none⟩) (x.length + 4) (pre ++ [d0, d1, d2, d3] ++ post) from by
          have h := Kd.R_of_own (h1 := fun _ => rfl) (enc := Value.int .u8) (xs := pre ++ [d0, d1, d2, d3] ++ post) (ok := fun _ => True) (by
            rw [show (pre ++ [d0, d1, d2, d3] ++ post).length = x.length + 4 from by simp only [List.length_append, List.length_cons, List.length_nil, HPRE.out, HPOST.out]; omega]
            exact HO.out) (fun _ _ => trivial)
          exact kept_reads h)
        have hby : ∀ y, y ∈ [c0, c1', c2, c3] → 0 ≤ y ∧ y < 256 := fun y hy => HBC.out y (List.mem_append_left _ (List.mem_append_right _ hy))
        have q0 := hby c0 (by simp)
        have q1 := hby c1' (by simp)
        have q2 := hby c2 (by simp)
        have q3 := hby c3 (by simp)
        by_cases hz : W32 = 0#32
        · subst hz
          have e0 : d0 = c0 := by rw [HD.out.1]; exact xor8_zero _ q0
          have e1 : d1 = c1' := by rw [HD.out.2.1]; exact xor8_zero _ q1
          have e2 : d2 = c2 := by rw [HD.out.2.2.1]; exact xor8_zero _ q2
          have e3 : d3 = c3 := by rw [HD.out.2.2.2]; exact xor8_zero _ q3
          rw [e0, e1, e2, e3, ← HCC.out] at HT
          clear e0 e1 e2 e3 q0 q1 q2 q3 hby HD
          have hw0 : (((0#32).toNat : Int) == 0) = true := by decide
          go_wp2_with (first
            | (go_at_call 33; (with_reducible refine (take_put (some ⟨g, 0, none⟩) cap (x.length + 4) x _ HT.out (own_cap HO.out) HB.out (by omega)).mono ?_); rintro e w5 ⟨v5, rfl, ho5, hb5⟩; obtain ⟨A5, c5, rfl, hc5, hC5⟩ := Kd.R_reads ho5; clear ho5 hC5)
            | (go_at_call 20; (with_reducible refine (lives_calls _).mono ?_); rintro e w6 ⟨rfl, hb6⟩))
          go_ret
          exact ⟨rfl, below_step (below_step HW.out hb5) hb6⟩
        · have hgd : goodB (pre ++ [d0, d1, d2, d3] ++ post) = false :=
            Crc.burst pre post x c0 c1' c2 c3 d0 d1 d2 d3 W32 HCC.out (by rw [HD.out.1]; exact (xor8 _ _ q0 (wb_byte W32 0)).1) (by rw [HD.out.2.1]; exact (xor8 _ _ q1 (wb_byte W32 1)).1) (by rw [HD.out.2.2.1]; exact (xor8 _ _ q2 (wb_byte W32 2)).1) (by rw [HD.out.2.2.2]; exact (xor8 _ _ q3 (wb_byte W32 3)).1) hz
          have hbt : Crc.Bytes (pre ++ [d0, d1, d2, d3] ++ post) := by
            intro y hy
            simp only [List.mem_append, List.mem_cons, List.not_mem_nil, or_false] at hy
            rcases hy with (hy | rfl | rfl | rfl | rfl) | hy
            · exact HBC.out y (by simp [hy])
            · rw [HD.out.1]; exact (xor8 _ _ q0 (wb_byte W32 0)).2
            · rw [HD.out.2.1]; exact (xor8 _ _ q1 (wb_byte W32 1)).2
            · rw [HD.out.2.2.1]; exact (xor8 _ _ q2 (wb_byte W32 2)).2
            · rw [HD.out.2.2.2]; exact (xor8 _ _ q3 (wb_byte W32 3)).2
            · exact HBC.out y (by simp [hy])
          have hTl : (pre ++ [d0, d1, d2, d3] ++ post).length = x.length + 4 := by simp only [List.length_append, List.length_cons, List.length_nil, HPRE.out, HPOST.out]; omega
          have HTK : Aside0 (x.length + 4 ≤ cap) := ⟨own_cap HO.out⟩
          have HTB : Aside0 (Calls Try.prog 33 #[.slice (some ⟨g, 0, none⟩) (x.length + 4) cap] wo fun e w' => ∃ v, e = .returned (.tuple #[v, .int .i64 3]) ∧ Kd.R (Kd.int .u8) 5 w' wo.heap.size (fun _ => True) v [] ∧ Below wo.heap.size wo w') := ⟨by
            have h := take_bad (some ⟨g, 0, none⟩) cap (pre ++ [d0, d1, d2, d3] ++ post) wo (by rw [hTl]; exact HT.out) (by rw [hTl]; exact HTK.out) hbt (by rw [hTl]; omega) (by rw [hTl]; omega) hgd
            rwa [hTl] at h⟩
          have hw0 : ((W32.toNat : Int) == 0) = false := by
            apply beq_eq_false_iff_ne.2
            intro h
            apply hz
            apply BitVec.eq_of_toNat_eq
            simp
            omega
          clear hgd hbt hTl q0 q1 q2 q3 hby HD HT hz
          go_wp2_with (first
            | (go_at_call 33; (with_reducible refine HTB.out.mono ?_); rintro e w5 ⟨v5, rfl, ho5, hb5⟩; obtain ⟨A5, c5, rfl, hc5, hC5⟩ := Kd.R_reads ho5; clear ho5 hC5; rw [List.length_nil])
            | (go_at_call 20; (with_reducible refine (lives_calls _).mono ?_); rintro e w6 ⟨rfl, hb6⟩))
          go_ret
          exact ⟨rfl, below_step (below_step HW.out hb5) hb6⟩
end Go.Proofs.Ytjkgafijifkfcaa
