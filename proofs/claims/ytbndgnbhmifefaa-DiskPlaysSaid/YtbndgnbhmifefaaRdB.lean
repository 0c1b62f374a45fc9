/- The reference's Do, kind by kind. Printed by gen_rdo.py. The reference's Read. The reference's Do: Rename. Printed by gen_rdn.py. -/
import Derived.Test.YtbndgnbhmifefaaRdA
namespace Go.Proofs.Ytbndgnbhmifefaa
open Go.RowKit Go.Proofs.YtbndgnbhmifefaaW.PrintWords Go.Proofs.YtbndgnbhmifefaaW.PrintMore
set_option linter.unusedVariables false
set_option linter.unusedSimpArgs false
def hasR (L : List RF) (s : ByteArray) : Bool := L.any (fun f => decide (f.name = s))
theorem found_cases (L : List RF) (s : ByteArray) : (hasR L s = false ∧ foundAt L s = -1) ∨ (hasR L s = true ∧ ∃ k, k < L.length ∧ (rdRF L k).name = s ∧ foundAt L s = (k : Int)) := by
  unfold hasR foundAt
  cases h : L.findIdx? (fun f => decide (f.name = s)) with
  | none =>
    left
    rw [List.findIdx?_eq_none_iff] at h
    refine ⟨?_, rfl⟩
    rw [List.any_eq_false]
    intro f hf
    simpa using h f hf
  | some k =>
    right
    rw [List.findIdx?_eq_some_iff_getElem] at h
    obtain ⟨hk, h1, _⟩ := h
    refine ⟨?_, k, hk, ?_, rfl⟩
    · rw [List.any_eq_true]; exact ⟨L[k], List.getElem_mem _, h1⟩
    · have : rdRF L k = L[k] := by unfold rdRF; simp [List.getD_eq_getElem?_getD, hk]
      rw [this]; exact of_decide_eq_true h1
theorem rd_set {L : List RF} {k : Nat} {x : RF} (h : k < L.length) : rdRF (L.set k x) k = x := by simp [rdRF, List.getD_eq_getElem?_getD, h]
theorem bytesR_at {L : List RF} {k : Nat} (h : k < L.length) : (rdRF L k).kept.size + (rdRF L k).loose.size ≤ bytesR L := by
  have h1 := bytesR_step h
  have h2 := bytesR_le L (k + 1)
  omega
theorem bad1 (s : ByteArray) : badB [s] = !namedB s := by simp [badB]
theorem bad2 (s t : ByteArray) : badB [s, t] = (!namedB s || !namedB t) := by simp [badB]
set_option maxRecDepth 100000 in
set_option maxHeartbeats 8000000 in
theorem rdo_c_err (Q : Nat → Prop) (w0 : World) (g : Nat) (r : RS) (s t b : ByteArray) (hs : s.size ≤ 9223372036854775807) (ht : t.size ≤ 9223372036854775807) (hn : r.L.length ≤ 100000) (ha : r.armed ≤ 9223372036854775807) (ha0 : -1 ≤ r.armed) (hm : mayN r.gone false (badB [s]) (hasR r.L s) ≠ 0) (w : World) (h : RHas Q w0 w g r) :
    Calls Try.prog 34 #[.pointer (some ⟨g, 0, none⟩), .int .u8 99, .string s, .string t, .string b] w fun e w' => e = .returned (.int .i64 (mayN r.gone false (badB [s]) (hasR r.L s))) ∧ RHas Q w0 w' g r := by
  obtain ⟨A, c, hl⟩ := h.rep.look
  have c3 := hl.c3
  have H := Aside0.mk h
  have P1 := Aside0.mk (fun W => rnamed_calls s hs W)
  have P2 := Aside0.mk (fun W => rnamed_calls t ht W)
  have P3 := Aside0.mk (rat_calls g r s w h.rep)
  clear h hl
  cases hg : r.gone
  case true =>
    rw [hg] at c3
    have hz : mayN true false (badB [s]) (hasR r.L s) = 12 := rfl
    rw [hz]
    clear hm
    go_enter Try.func34, Try.ntmps34
    go_wp2_with (first
      | (go_at_call 46; (with_reducible refine (P1.out _).mono ?_); rintro e w' ⟨rfl, hw'⟩; have hw2 := hw'.symm; clear hw'; subst hw2)
      | (go_at_call 46; (with_reducible refine (P2.out _).mono ?_); rintro e w' ⟨rfl, hw'⟩; have hw2 := hw'.symm; clear hw'; subst hw2)
      | (go_at_call 47; (with_reducible refine (P3.out).mono ?_); rintro e w' ⟨rfl, hw'⟩; have hw2 := hw'.symm; clear hw'; subst hw2))
    go_ret
    exact ⟨rfl, H.out⟩
  case false =>
    rw [hg] at c3 hm
    cases h1 : namedB s
    case false =>
      rw [h1] at P1
      have hz : mayN false false (badB [s]) (hasR r.L s) = 6 := by rw [bad1, h1]; rfl
      rw [hz]
      clear hm
      go_enter Try.func34, Try.ntmps34
      go_wp2_with (first
        | (go_at_call 46; (with_reducible refine (P1.out _).mono ?_); rintro e w' ⟨rfl, hw'⟩; have hw2 := hw'.symm; clear hw'; subst hw2)
        | (go_at_call 46; (with_reducible refine (P2.out _).mono ?_); rintro e w' ⟨rfl, hw'⟩; have hw2 := hw'.symm; clear hw'; subst hw2)
        | (go_at_call 47; (with_reducible refine (P3.out).mono ?_); rintro e w' ⟨rfl, hw'⟩; have hw2 := hw'.symm; clear hw'; subst hw2))
      go_ret
      exact ⟨rfl, H.out⟩
    case true =>
      rw [h1] at P1
      have hbd : badB [s] = false := by rw [bad1, h1]; rfl
      rw [hbd] at hm ⊢
      rcases found_cases r.L s with ⟨f1, f2⟩ | ⟨f1, k, hk, _, f2⟩
      · exact absurd (by rw [f1]; rfl) hm
      · rw [f2] at P3
        rw [f1]
        have hz : mayN false false false true = 8 := rfl
        have hk0 : decide ((k : Int) ≥ 0) = true := decide_eq_true (by omega)
        rw [hz]
        clear hm f2
        go_enter Try.func34, Try.ntmps34
        go_wp2_with (first
          | (go_at_call 46; (with_reducible refine (P1.out _).mono ?_); rintro e w' ⟨rfl, hw'⟩; have hw2 := hw'.symm; clear hw'; subst hw2)
          | (go_at_call 46; (with_reducible refine (P2.out _).mono ?_); rintro e w' ⟨rfl, hw'⟩; have hw2 := hw'.symm; clear hw'; subst hw2)
          | (go_at_call 47; (with_reducible refine (P3.out).mono ?_); rintro e w' ⟨rfl, hw'⟩; have hw2 := hw'.symm; clear hw'; subst hw2))
        go_ret
        exact ⟨rfl, H.out⟩
set_option maxRecDepth 100000 in
set_option maxHeartbeats 8000000 in
theorem rdo_a_err (Q : Nat → Prop) (w0 : World) (g : Nat) (r : RS) (s t b : ByteArray) (hs : s.size ≤ 9223372036854775807) (ht : t.size ≤ 9223372036854775807) (hn : r.L.length ≤ 100000) (ha : r.armed ≤ 9223372036854775807) (ha0 : -1 ≤ r.armed) (hm : mayN r.gone true (badB [s]) (hasR r.L s) ≠ 0) (w : World) (h : RHas Q w0 w g r) :
    Calls Try.prog 34 #[.pointer (some ⟨g, 0, none⟩), .int .u8 97, .string s, .string t, .string b] w fun e w' => e = .returned (.int .i64 (mayN r.gone true (badB [s]) (hasR r.L s))) ∧ RHas Q w0 w' g r := by
  obtain ⟨A, c, hl⟩ := h.rep.look
  have c3 := hl.c3
  have H := Aside0.mk h
  have P1 := Aside0.mk (fun W => rnamed_calls s hs W)
  have P2 := Aside0.mk (fun W => rnamed_calls t ht W)
  have P3 := Aside0.mk (rat_calls g r s w h.rep)
  clear h hl
  cases hg : r.gone
  case true =>
    rw [hg] at c3
    have hz : mayN true true (badB [s]) (hasR r.L s) = 12 := rfl
    rw [hz]
    clear hm
    go_enter Try.func34, Try.ntmps34
    go_wp2_with (first
      | (go_at_call 46; (with_reducible refine (P1.out _).mono ?_); rintro e w' ⟨rfl, hw'⟩; have hw2 := hw'.symm; clear hw'; subst hw2)
      | (go_at_call 46; (with_reducible refine (P2.out _).mono ?_); rintro e w' ⟨rfl, hw'⟩; have hw2 := hw'.symm; clear hw'; subst hw2)
      | (go_at_call 47; (with_reducible refine (P3.out).mono ?_); rintro e w' ⟨rfl, hw'⟩; have hw2 := hw'.symm; clear hw'; subst hw2))
    go_ret
    exact ⟨rfl, H.out⟩
  case false =>
    rw [hg] at c3 hm
    cases h1 : namedB s
    case false =>
      rw [h1] at P1
      have hz : mayN false true (badB [s]) (hasR r.L s) = 6 := by rw [bad1, h1]; rfl
      rw [hz]
      clear hm
      go_enter Try.func34, Try.ntmps34
      go_wp2_with (first
        | (go_at_call 46; (with_reducible refine (P1.out _).mono ?_); rintro e w' ⟨rfl, hw'⟩; have hw2 := hw'.symm; clear hw'; subst hw2)
        | (go_at_call 46; (with_reducible refine (P2.out _).mono ?_); rintro e w' ⟨rfl, hw'⟩; have hw2 := hw'.symm; clear hw'; subst hw2)
        | (go_at_call 47; (with_reducible refine (P3.out).mono ?_); rintro e w' ⟨rfl, hw'⟩; have hw2 := hw'.symm; clear hw'; subst hw2))
      go_ret
      exact ⟨rfl, H.out⟩
    case true =>
      rw [h1] at P1
      have hbd : badB [s] = false := by rw [bad1, h1]; rfl
      rw [hbd] at hm ⊢
      rcases found_cases r.L s with ⟨f1, f2⟩ | ⟨f1, k, hk, _, f2⟩
      rotate_left
      · exact absurd (by rw [f1]; rfl) hm
      · rw [f2] at P3
        rw [f1]
        have hz : mayN false true false false = 7 := rfl
        rw [hz]
        clear hm f2
        go_enter Try.func34, Try.ntmps34
        go_wp2_with (first
          | (go_at_call 46; (with_reducible refine (P1.out _).mono ?_); rintro e w' ⟨rfl, hw'⟩; have hw2 := hw'.symm; clear hw'; subst hw2)
          | (go_at_call 46; (with_reducible refine (P2.out _).mono ?_); rintro e w' ⟨rfl, hw'⟩; have hw2 := hw'.symm; clear hw'; subst hw2)
          | (go_at_call 47; (with_reducible refine (P3.out).mono ?_); rintro e w' ⟨rfl, hw'⟩; have hw2 := hw'.symm; clear hw'; subst hw2))
        go_ret
        exact ⟨rfl, H.out⟩
set_option maxRecDepth 100000 in
set_option maxHeartbeats 8000000 in
theorem rdo_s_err (Q : Nat → Prop) (w0 : World) (g : Nat) (r : RS) (s t b : ByteArray) (hs : s.size ≤ 9223372036854775807) (ht : t.size ≤ 9223372036854775807) (hn : r.L.length ≤ 100000) (ha : r.armed ≤ 9223372036854775807) (ha0 : -1 ≤ r.armed) (hm : mayN r.gone true (badB [s]) (hasR r.L s) ≠ 0) (w : World) (h : RHas Q w0 w g r) :
    Calls Try.prog 34 #[.pointer (some ⟨g, 0, none⟩), .int .u8 115, .string s, .string t, .string b] w fun e w' => e = .returned (.int .i64 (mayN r.gone true (badB [s]) (hasR r.L s))) ∧ RHas Q w0 w' g r := by
  obtain ⟨A, c, hl⟩ := h.rep.look
  have c3 := hl.c3
  have H := Aside0.mk h
  have P1 := Aside0.mk (fun W => rnamed_calls s hs W)
  have P2 := Aside0.mk (fun W => rnamed_calls t ht W)
  have P3 := Aside0.mk (rat_calls g r s w h.rep)
  clear h hl
  cases hg : r.gone
  case true =>
    rw [hg] at c3
    have hz : mayN true true (badB [s]) (hasR r.L s) = 12 := rfl
    rw [hz]
    clear hm
    go_enter Try.func34, Try.ntmps34
    go_wp2_with (first
      | (go_at_call 46; (with_reducible refine (P1.out _).mono ?_); rintro e w' ⟨rfl, hw'⟩; have hw2 := hw'.symm; clear hw'; subst hw2)
      | (go_at_call 46; (with_reducible refine (P2.out _).mono ?_); rintro e w' ⟨rfl, hw'⟩; have hw2 := hw'.symm; clear hw'; subst hw2)
      | (go_at_call 47; (with_reducible refine (P3.out).mono ?_); rintro e w' ⟨rfl, hw'⟩; have hw2 := hw'.symm; clear hw'; subst hw2))
    go_ret
    exact ⟨rfl, H.out⟩
  case false =>
    rw [hg] at c3 hm
    cases h1 : namedB s
    case false =>
      rw [h1] at P1
      have hz : mayN false true (badB [s]) (hasR r.L s) = 6 := by rw [bad1, h1]; rfl
      rw [hz]
      clear hm
      go_enter Try.func34, Try.ntmps34
      go_wp2_with (first
        | (go_at_call 46; (with_reducible refine (P1.out _).mono ?_); rintro e w' ⟨rfl, hw'⟩; have hw2 := hw'.symm; clear hw'; subst hw2)
        | (go_at_call 46; (with_reducible refine (P2.out _).mono ?_); rintro e w' ⟨rfl, hw'⟩; have hw2 := hw'.symm; clear hw'; subst hw2)
        | (go_at_call 47; (with_reducible refine (P3.out).mono ?_); rintro e w' ⟨rfl, hw'⟩; have hw2 := hw'.symm; clear hw'; subst hw2))
      go_ret
      exact ⟨rfl, H.out⟩
    case true =>
      rw [h1] at P1
      have hbd : badB [s] = false := by rw [bad1, h1]; rfl
      rw [hbd] at hm ⊢
      rcases found_cases r.L s with ⟨f1, f2⟩ | ⟨f1, k, hk, _, f2⟩
      rotate_left
      · exact absurd (by rw [f1]; rfl) hm
      · rw [f2] at P3
        rw [f1]
        have hz : mayN false true false false = 7 := rfl
        rw [hz]
        clear hm f2
        go_enter Try.func34, Try.ntmps34
        go_wp2_with (first
          | (go_at_call 46; (with_reducible refine (P1.out _).mono ?_); rintro e w' ⟨rfl, hw'⟩; have hw2 := hw'.symm; clear hw'; subst hw2)
          | (go_at_call 46; (with_reducible refine (P2.out _).mono ?_); rintro e w' ⟨rfl, hw'⟩; have hw2 := hw'.symm; clear hw'; subst hw2)
          | (go_at_call 47; (with_reducible refine (P3.out).mono ?_); rintro e w' ⟨rfl, hw'⟩; have hw2 := hw'.symm; clear hw'; subst hw2))
        go_ret
        exact ⟨rfl, H.out⟩
set_option maxRecDepth 100000 in
set_option maxHeartbeats 8000000 in
theorem rdo_r_err (Q : Nat → Prop) (w0 : World) (g : Nat) (r : RS) (s t b : ByteArray) (hs : s.size ≤ 9223372036854775807) (ht : t.size ≤ 9223372036854775807) (hn : r.L.length ≤ 100000) (ha : r.armed ≤ 9223372036854775807) (ha0 : -1 ≤ r.armed) (hm : mayN r.gone true (badB [s]) (hasR r.L s) ≠ 0) (w : World) (h : RHas Q w0 w g r) :
    Calls Try.prog 34 #[.pointer (some ⟨g, 0, none⟩), .int .u8 114, .string s, .string t, .string b] w fun e w' => e = .returned (.int .i64 (mayN r.gone true (badB [s]) (hasR r.L s))) ∧ RHas Q w0 w' g r := by
  obtain ⟨A, c, hl⟩ := h.rep.look
  have c3 := hl.c3
  have H := Aside0.mk h
  have P1 := Aside0.mk (fun W => rnamed_calls s hs W)
  have P2 := Aside0.mk (fun W => rnamed_calls t ht W)
  have P3 := Aside0.mk (rat_calls g r s w h.rep)
  clear h hl
  cases hg : r.gone
  case true =>
    rw [hg] at c3
    have hz : mayN true true (badB [s]) (hasR r.L s) = 12 := rfl
    rw [hz]
    clear hm
    go_enter Try.func34, Try.ntmps34
    go_wp2_with (first
      | (go_at_call 46; (with_reducible refine (P1.out _).mono ?_); rintro e w' ⟨rfl, hw'⟩; have hw2 := hw'.symm; clear hw'; subst hw2)
      | (go_at_call 46; (with_reducible refine (P2.out _).mono ?_); rintro e w' ⟨rfl, hw'⟩; have hw2 := hw'.symm; clear hw'; subst hw2)
      | (go_at_call 47; (with_reducible refine (P3.out).mono ?_); rintro e w' ⟨rfl, hw'⟩; have hw2 := hw'.symm; clear hw'; subst hw2))
    go_ret
    exact ⟨rfl, H.out⟩
  case false =>
    rw [hg] at c3 hm
    cases h1 : namedB s
    case false =>
      rw [h1] at P1
      have hz : mayN false true (badB [s]) (hasR r.L s) = 6 := by rw [bad1, h1]; rfl
      rw [hz]
      clear hm
      go_enter Try.func34, Try.ntmps34
      go_wp2_with (first
        | (go_at_call 46; (with_reducible refine (P1.out _).mono ?_); rintro e w' ⟨rfl, hw'⟩; have hw2 := hw'.symm; clear hw'; subst hw2)
        | (go_at_call 46; (with_reducible refine (P2.out _).mono ?_); rintro e w' ⟨rfl, hw'⟩; have hw2 := hw'.symm; clear hw'; subst hw2)
        | (go_at_call 47; (with_reducible refine (P3.out).mono ?_); rintro e w' ⟨rfl, hw'⟩; have hw2 := hw'.symm; clear hw'; subst hw2))
      go_ret
      exact ⟨rfl, H.out⟩
    case true =>
      rw [h1] at P1
      have hbd : badB [s] = false := by rw [bad1, h1]; rfl
      rw [hbd] at hm ⊢
      rcases found_cases r.L s with ⟨f1, f2⟩ | ⟨f1, k, hk, _, f2⟩
      rotate_left
      · exact absurd (by rw [f1]; rfl) hm
      · rw [f2] at P3
        rw [f1]
        have hz : mayN false true false false = 7 := rfl
        rw [hz]
        clear hm f2
        go_enter Try.func34, Try.ntmps34
        go_wp2_with (first
          | (go_at_call 46; (with_reducible refine (P1.out _).mono ?_); rintro e w' ⟨rfl, hw'⟩; have hw2 := hw'.symm; clear hw'; subst hw2)
          | (go_at_call 46; (with_reducible refine (P2.out _).mono ?_); rintro e w' ⟨rfl, hw'⟩; have hw2 := hw'.symm; clear hw'; subst hw2)
          | (go_at_call 47; (with_reducible refine (P3.out).mono ?_); rintro e w' ⟨rfl, hw'⟩; have hw2 := hw'.symm; clear hw'; subst hw2))
        go_ret
        exact ⟨rfl, H.out⟩
set_option maxRecDepth 100000 in
set_option maxHeartbeats 8000000 in
theorem rdo_n_err (Q : Nat → Prop) (w0 : World) (g : Nat) (r : RS) (s t b : ByteArray) (hs : s.size ≤ 9223372036854775807) (ht : t.size ≤ 9223372036854775807) (hn : r.L.length ≤ 100000) (ha : r.armed ≤ 9223372036854775807) (ha0 : -1 ≤ r.armed) (hm : mayN r.gone true (badB [s, t]) (hasR r.L s) ≠ 0) (w : World) (h : RHas Q w0 w g r) :
    Calls Try.prog 34 #[.pointer (some ⟨g, 0, none⟩), .int .u8 110, .string s, .string t, .string b] w fun e w' => e = .returned (.int .i64 (mayN r.gone true (badB [s, t]) (hasR r.L s))) ∧ RHas Q w0 w' g r := by
  obtain ⟨A, c, hl⟩ := h.rep.look
  have c3 := hl.c3
  have H := Aside0.mk h
  have P1 := Aside0.mk (fun W => rnamed_calls s hs W)
  have P2 := Aside0.mk (fun W => rnamed_calls t ht W)
  have P3 := Aside0.mk (rat_calls g r s w h.rep)
  clear h hl
  cases hg : r.gone
  case true =>
    rw [hg] at c3
    have hz : mayN true true (badB [s, t]) (hasR r.L s) = 12 := rfl
    rw [hz]
    clear hm
    go_enter Try.func34, Try.ntmps34
    go_wp2_with (first
      | (go_at_call 46; (with_reducible refine (P1.out _).mono ?_); rintro e w' ⟨rfl, hw'⟩; have hw2 := hw'.symm; clear hw'; subst hw2)
      | (go_at_call 46; (with_reducible refine (P2.out _).mono ?_); rintro e w' ⟨rfl, hw'⟩; have hw2 := hw'.symm; clear hw'; subst hw2)
      | (go_at_call 47; (with_reducible refine (P3.out).mono ?_); rintro e w' ⟨rfl, hw'⟩; have hw2 := hw'.symm; clear hw'; subst hw2))
    go_ret
    exact ⟨rfl, H.out⟩
  case false =>
    rw [hg] at c3 hm
    cases h1 : namedB s
    case false =>
      rw [h1] at P1
      have hz : mayN false true (badB [s, t]) (hasR r.L s) = 6 := by rw [bad2, h1]; rfl
      rw [hz]
      clear hm
      go_enter Try.func34, Try.ntmps34
      go_wp2_with (first
        | (go_at_call 46; (with_reducible refine (P1.out _).mono ?_); rintro e w' ⟨rfl, hw'⟩; have hw2 := hw'.symm; clear hw'; subst hw2)
        | (go_at_call 46; (with_reducible refine (P2.out _).mono ?_); rintro e w' ⟨rfl, hw'⟩; have hw2 := hw'.symm; clear hw'; subst hw2)
        | (go_at_call 47; (with_reducible refine (P3.out).mono ?_); rintro e w' ⟨rfl, hw'⟩; have hw2 := hw'.symm; clear hw'; subst hw2))
      go_ret
      exact ⟨rfl, H.out⟩
    case true =>
      rw [h1] at P1
      cases h2 : namedB t
      case false =>
        rw [h2] at P2
        have hz : mayN false true (badB [s, t]) (hasR r.L s) = 6 := by rw [bad2, h1, h2]; rfl
        rw [hz]
        clear hm
        go_enter Try.func34, Try.ntmps34
        go_wp2_with (first
          | (go_at_call 46; (with_reducible refine (P1.out _).mono ?_); rintro e w' ⟨rfl, hw'⟩; have hw2 := hw'.symm; clear hw'; subst hw2)
          | (go_at_call 46; (with_reducible refine (P2.out _).mono ?_); rintro e w' ⟨rfl, hw'⟩; have hw2 := hw'.symm; clear hw'; subst hw2)
          | (go_at_call 47; (with_reducible refine (P3.out).mono ?_); rintro e w' ⟨rfl, hw'⟩; have hw2 := hw'.symm; clear hw'; subst hw2))
        go_ret
        exact ⟨rfl, H.out⟩
      rw [h2] at P2
      have hbd : badB [s, t] = false := by rw [bad2, h1, h2]; rfl
      rw [hbd] at hm ⊢
      rcases found_cases r.L s with ⟨f1, f2⟩ | ⟨f1, k, hk, _, f2⟩
      rotate_left
      · exact absurd (by rw [f1]; rfl) hm
      · rw [f2] at P3
        rw [f1]
        have hz : mayN false true false false = 7 := rfl
        rw [hz]
        clear hm f2
        go_enter Try.func34, Try.ntmps34
        go_wp2_with (first
          | (go_at_call 46; (with_reducible refine (P1.out _).mono ?_); rintro e w' ⟨rfl, hw'⟩; have hw2 := hw'.symm; clear hw'; subst hw2)
          | (go_at_call 46; (with_reducible refine (P2.out _).mono ?_); rintro e w' ⟨rfl, hw'⟩; have hw2 := hw'.symm; clear hw'; subst hw2)
          | (go_at_call 47; (with_reducible refine (P3.out).mono ?_); rintro e w' ⟨rfl, hw'⟩; have hw2 := hw'.symm; clear hw'; subst hw2))
        go_ret
        exact ⟨rfl, H.out⟩
set_option maxRecDepth 100000 in
set_option maxHeartbeats 8000000 in
theorem rdo_c_ok (Q : Nat → Prop) (w0 : World) (g : Nat) (r : RS) (s t b : ByteArray) (hs : s.size ≤ 9223372036854775807) (ht : t.size ≤ 9223372036854775807) (hn : r.L.length ≤ 100000) (ha : r.armed ≤ 9223372036854775807) (ha0 : -1 ≤ r.armed) (hm : mayN r.gone false (badB [s]) (hasR r.L s) = 0) (w : World) (h : RHas Q w0 w g r) :
    Calls Try.prog 34 #[.pointer (some ⟨g, 0, none⟩), .int .u8 99, .string s, .string t, .string b] w fun e w' => e = .returned (.int .i64 (doN r.armed)) ∧ ∃ r', RHas Q w0 w' g r' ∧ (if r.armed = 0 then r' = { r with armed := -1, gone := true } else ∃ k, PutAt r.L s k ∧ r' = { r with armed := doA r.armed, L := r.L.take k ++ ⟨s, ⟨#[]⟩, ⟨#[]⟩⟩ :: r.L.drop k }) := by
  obtain ⟨A, c, hl⟩ := h.rep.look
  have c3 := hl.c3
  have H := Aside0.mk h
  have P1 := Aside0.mk (fun W => rnamed_calls s hs W)
  have P2 := Aside0.mk (fun W => rnamed_calls t ht W)
  have P3 := Aside0.mk (rat_calls g r s w h.rep)
  clear h hl
  have hgone : r.gone = false := by
    cases hg : r.gone
    · rfl
    · rw [hg] at hm; cases hm
  rw [hgone] at hm c3
  have hbd : badB [s] = false := by
    cases hb : badB [s]
    · rfl
    · rw [hb] at hm; cases hm
  rw [hbd] at hm
  have h1 : namedB s = true := by rw [bad1] at hbd; simpa using hbd
  rw [h1] at P1
  rcases found_cases r.L s with ⟨f1, f2⟩ | ⟨f1, k, hk, _, f2⟩
  rotate_left
  · rw [f1] at hm; cases hm
  rw [f2] at P3
  have P4 := Aside0.mk (rgoes_calls Q w0 g r ha ha0 w H.out)
  clear hm hbd f1 f2 h1
  by_cases h0 : r.armed = 0
  · have hd : doN r.armed = 12 := by unfold doN; rw [if_pos h0]
    rw [if_pos h0, decide_eq_true h0] at P4
    rw [hd]
    simp only [if_pos h0]
    clear hd h0
    go_enter Try.func34, Try.ntmps34
    go_wp2_with (first
    | (go_at_call 46; (with_reducible refine (P1.out _).mono ?_); rintro e w' ⟨rfl, hw'⟩; have hw2 := hw'.symm; clear hw'; subst hw2)
    | (go_at_call 46; (with_reducible refine (P2.out _).mono ?_); rintro e w' ⟨rfl, hw'⟩; have hw2 := hw'.symm; clear hw'; subst hw2)
    | (go_at_call 47; (with_reducible refine (P3.out).mono ?_); rintro e w' ⟨rfl, hw'⟩; have hw2 := hw'.symm; clear hw'; subst hw2)
    | (go_at_call 48; (with_reducible refine (P4.out).mono ?_); rintro e w1 ⟨rfl, h1⟩; have H1 := Aside0.mk h1; clear h1))
    go_ret
    exact ⟨rfl, _, H1.out, rfl⟩
  · have hd : doN r.armed = 0 := by unfold doN; rw [if_neg h0]
    rw [if_neg h0, decide_eq_false h0] at P4
    rw [hd]
    simp only [if_neg h0]
    have HN := Aside0.mk hn
    clear hd h0 hn
    go_enter Try.func34, Try.ntmps34
    go_wp2_with (first
    | (go_at_call 46; (with_reducible refine (P1.out _).mono ?_); rintro e w' ⟨rfl, hw'⟩; have hw2 := hw'.symm; clear hw'; subst hw2)
    | (go_at_call 46; (with_reducible refine (P2.out _).mono ?_); rintro e w' ⟨rfl, hw'⟩; have hw2 := hw'.symm; clear hw'; subst hw2)
    | (go_at_call 47; (with_reducible refine (P3.out).mono ?_); rintro e w' ⟨rfl, hw'⟩; have hw2 := hw'.symm; clear hw'; subst hw2)
    | (go_at_call 48; (with_reducible refine (P4.out).mono ?_); rintro e w1 ⟨rfl, h1⟩; have H1 := Aside0.mk h1; clear h1)
    | (go_at_call 49; (with_reducible refine (rput_calls Q w0 g { r with armed := doA r.armed } ⟨s, ⟨#[]⟩, ⟨#[]⟩⟩ HN.out _ H1.out).mono ?_); rintro e w2 ⟨rfl, k, hp, h2⟩; have HP := Aside0.mk hp; have H2 := Aside0.mk h2; clear hp h2))
    go_ret
    exact ⟨rfl, _, H2.out, k, HP.out, rfl⟩
set_option maxRecDepth 100000 in
set_option maxHeartbeats 8000000 in
theorem rdo_r_ok (Q : Nat → Prop) (w0 : World) (g : Nat) (r : RS) (s t b : ByteArray) (hs : s.size ≤ 9223372036854775807) (ht : t.size ≤ 9223372036854775807) (hn : r.L.length ≤ 100000) (ha : r.armed ≤ 9223372036854775807) (ha0 : -1 ≤ r.armed) (hm : mayN r.gone true (badB [s]) (hasR r.L s) = 0) (w : World) (h : RHas Q w0 w g r) :
    Calls Try.prog 34 #[.pointer (some ⟨g, 0, none⟩), .int .u8 114, .string s, .string t, .string b] w fun e w' => e = .returned (.int .i64 (doN r.armed)) ∧ ∃ r', RHas Q w0 w' g r' ∧ (if r.armed = 0 then r' = { r with armed := -1, gone := true } else ∃ k, k < r.L.length ∧ (rdRF r.L k).name = s ∧ r' = { r with armed := doA r.armed, L := r.L.take k ++ r.L.drop (k + 1) }) := by
  obtain ⟨A, c, hl⟩ := h.rep.look
  have c3 := hl.c3
  have H := Aside0.mk h
  have P1 := Aside0.mk (fun W => rnamed_calls s hs W)
  have P2 := Aside0.mk (fun W => rnamed_calls t ht W)
  have P3 := Aside0.mk (rat_calls g r s w h.rep)
  clear h hl
  have hgone : r.gone = false := by
    cases hg : r.gone
    · rfl
    · rw [hg] at hm; cases hm
  rw [hgone] at hm c3
  have hbd : badB [s] = false := by
    cases hb : badB [s]
    · rfl
    · rw [hb] at hm; cases hm
  rw [hbd] at hm
  have h1 : namedB s = true := by rw [bad1] at hbd; simpa using hbd
  rw [h1] at P1
  rcases found_cases r.L s with ⟨f1, f2⟩ | ⟨f1, k, hk, hks, f2⟩
  · rw [f1] at hm; cases hm
  rw [f2] at P3
  have P4 := Aside0.mk (rgoes_calls Q w0 g r ha ha0 w H.out)
  have hk0 : decide ((k : Int) < 0) = false := decide_eq_false (by omega)
  clear hm hbd f1 f2 h1
  by_cases h0 : r.armed = 0
  · have hd : doN r.armed = 12 := by unfold doN; rw [if_pos h0]
    rw [if_pos h0, decide_eq_true h0] at P4
    rw [hd]
    simp only [if_pos h0]
    clear hd h0
    go_enter Try.func34, Try.ntmps34
    go_wp2_with (first
    | (go_at_call 46; (with_reducible refine (P1.out _).mono ?_); rintro e w' ⟨rfl, hw'⟩; have hw2 := hw'.symm; clear hw'; subst hw2)
    | (go_at_call 46; (with_reducible refine (P2.out _).mono ?_); rintro e w' ⟨rfl, hw'⟩; have hw2 := hw'.symm; clear hw'; subst hw2)
    | (go_at_call 47; (with_reducible refine (P3.out).mono ?_); rintro e w' ⟨rfl, hw'⟩; have hw2 := hw'.symm; clear hw'; subst hw2)
    | (go_at_call 48; (with_reducible refine (P4.out).mono ?_); rintro e w1 ⟨rfl, h1⟩; have H1 := Aside0.mk h1; clear h1))
    go_ret
    exact ⟨rfl, _, H1.out, rfl⟩
  have hd : doN r.armed = 0 := by unfold doN; rw [if_neg h0]
  rw [if_neg h0, decide_eq_false h0] at P4
  rw [hd]
  simp only [if_neg h0]
  have HN := Aside0.mk hn
  have HK := Aside0.mk hk
  have HKS := Aside0.mk hks
  clear hd h0 hn hk hks
  go_enter Try.func34, Try.ntmps34
  go_wp2_with (first
    | (go_at_call 46; (with_reducible refine (P1.out _).mono ?_); rintro e w' ⟨rfl, hw'⟩; have hw2 := hw'.symm; clear hw'; subst hw2)
    | (go_at_call 46; (with_reducible refine (P2.out _).mono ?_); rintro e w' ⟨rfl, hw'⟩; have hw2 := hw'.symm; clear hw'; subst hw2)
    | (go_at_call 47; (with_reducible refine (P3.out).mono ?_); rintro e w' ⟨rfl, hw'⟩; have hw2 := hw'.symm; clear hw'; subst hw2)
    | (go_at_call 48; (with_reducible refine (P4.out).mono ?_); rintro e w1 ⟨rfl, h1⟩; have H1 := Aside0.mk h1; clear h1)
    | (go_at_call 50; (with_reducible refine (rcut_calls Q w0 g { r with armed := doA r.armed } k HK.out HN.out _ H1.out).mono ?_); rintro e w2 ⟨rfl, h2⟩; have H2 := Aside0.mk h2; clear h2))
  go_ret
  exact ⟨rfl, _, H2.out, k, HK.out, HKS.out, rfl⟩
set_option maxRecDepth 100000 in
set_option maxHeartbeats 8000000 in
theorem rdo_s_ok (Q : Nat → Prop) (w0 : World) (g : Nat) (r : RS) (s t b : ByteArray) (hs : s.size ≤ 9223372036854775807) (ht : t.size ≤ 9223372036854775807) (hn : r.L.length ≤ 100000) (ha : r.armed ≤ 9223372036854775807) (ha0 : -1 ≤ r.armed) (hbytes : bytesR r.L ≤ 1000000) (hbs : b.size ≤ 1000000) (hm : mayN r.gone true (badB [s]) (hasR r.L s) = 0) (w : World) (h : RHas Q w0 w g r) :
    Calls Try.prog 34 #[.pointer (some ⟨g, 0, none⟩), .int .u8 115, .string s, .string t, .string b] w fun e w' => e = .returned (.int .i64 (doN r.armed)) ∧ ∃ r', RHas Q w0 w' g r' ∧ (if r.armed = 0 then r' = { r with armed := -1, gone := true } else ∃ k, k < r.L.length ∧ (rdRF r.L k).name = s ∧ r' = { r with armed := doA r.armed, L := r.L.set k ⟨(rdRF r.L k).name, (rdRF r.L k).kept ++ (rdRF r.L k).loose, ⟨#[]⟩⟩ }) := by
  obtain ⟨A, c, hl⟩ := h.rep.look
  have c3 := hl.c3
  have H := Aside0.mk h
  have P1 := Aside0.mk (fun W => rnamed_calls s hs W)
  have P2 := Aside0.mk (fun W => rnamed_calls t ht W)
  have P3 := Aside0.mk (rat_calls g r s w h.rep)
  clear h hl
  have hgone : r.gone = false := by
    cases hg : r.gone
    · rfl
    · rw [hg] at hm; cases hm
  rw [hgone] at hm c3
  have hbd : badB [s] = false := by
    cases hb : badB [s]
    · rfl
    · rw [hb] at hm; cases hm
  rw [hbd] at hm
  have h1 : namedB s = true := by rw [bad1] at hbd; simpa using hbd
  rw [h1] at P1
  rcases found_cases r.L s with ⟨f1, f2⟩ | ⟨f1, k, hk, hks, f2⟩
  · rw [f1] at hm; cases hm
  rw [f2] at P3
  have P4 := Aside0.mk (rgoes_calls Q w0 g r ha ha0 w H.out)
  have hk0 : decide ((k : Int) < 0) = false := decide_eq_false (by omega)
  clear hm hbd f1 f2 h1
  by_cases h0 : r.armed = 0
  · have hd : doN r.armed = 12 := by unfold doN; rw [if_pos h0]
    rw [if_pos h0, decide_eq_true h0] at P4
    rw [hd]
    simp only [if_pos h0]
    clear hd h0
    go_enter Try.func34, Try.ntmps34
    go_wp2_with (first
    | (go_at_call 46; (with_reducible refine (P1.out _).mono ?_); rintro e w' ⟨rfl, hw'⟩; have hw2 := hw'.symm; clear hw'; subst hw2)
    | (go_at_call 46; (with_reducible refine (P2.out _).mono ?_); rintro e w' ⟨rfl, hw'⟩; have hw2 := hw'.symm; clear hw'; subst hw2)
    | (go_at_call 47; (with_reducible refine (P3.out).mono ?_); rintro e w' ⟨rfl, hw'⟩; have hw2 := hw'.symm; clear hw'; subst hw2)
    | (go_at_call 48; (with_reducible refine (P4.out).mono ?_); rintro e w1 ⟨rfl, h1⟩; have H1 := Aside0.mk h1; clear h1))
    go_ret
    exact ⟨rfl, _, H1.out, rfl⟩
  have hd : doN r.armed = 0 := by unfold doN; rw [if_neg h0]
  rw [if_neg h0, decide_eq_false h0] at P4
  rw [hd]
  simp only [if_neg h0]
  have HN := Aside0.mk hn
  have HK := Aside0.mk hk
  have HKS := Aside0.mk hks
  clear hd h0 hn hk hks
  go_enter Try.func34, Try.ntmps34
  have hj0 : (0 : Int) ≤ (k : Int) := by omega
  have hj1 : (k : Int) < (r.L.length : Int) := by have := HK.out; omega
  go_upto_region 23 with (first
    | (go_at_call 46; (with_reducible refine (P1.out _).mono ?_); rintro e w' ⟨rfl, hw'⟩; have hw2 := hw'.symm; clear hw'; subst hw2)
    | (go_at_call 46; (with_reducible refine (P2.out _).mono ?_); rintro e w' ⟨rfl, hw'⟩; have hw2 := hw'.symm; clear hw'; subst hw2)
    | (go_at_call 47; (with_reducible refine (P3.out).mono ?_); rintro e w' ⟨rfl, hw'⟩; have hw2 := hw'.symm; clear hw'; subst hw2)
    | (go_at_call 48; (with_reducible refine (P4.out).mono ?_); rintro e w1 ⟨rfl, h1⟩; have HX := Aside0.mk h1; clear h1))
  obtain ⟨bb, cc, he⟩ := HX.out.elem (k := k) HK.out
  have HE := Aside0.mk he
  have c1 : w1.cell? ⟨g, 1, none⟩ = some (.slice (some ⟨bb, 0, none⟩) r.L.length cc) := he.c1
  have d0 : w1.cell? ⟨bb, k * 3, none⟩ = some (.string (rdRF r.L k).name) := he.d0
  have d1 : w1.cell? ⟨bb, k * 3 + 1, none⟩ = some (.string (rdRF r.L k).kept) := he.d1
  have d2 : w1.cell? ⟨bb, k * 3 + 2, none⟩ = some (.string (rdRF r.L k).loose) := he.d2
  clear he
  clear c3
  have hadd : ∀ W : World, (Op.stringOp .add (rdRF r.L k).kept (rdRF r.L k).loose).run Try.prog W = .ok (.string ((rdRF r.L k).kept ++ (rdRF r.L k).loose)) W := fun W => run_string_add_sum (P := Try.prog) W _ _ (by have := bytesR_at HK.out; omega)
  go_still_tail 24, (by kernel_rfl)
  change wpList _ _ _ _ _ w1.drew
  generalize hw2 : w1.drew = w2
  have hb12 : Below w1.heap.size w1 w2 := hw2 ▸ (Below.refl _ _).drew
  have HX2 := Aside0.mk (HX.out.below hb12)
  have e1 := pw_cell_below hb12 c1
  clear c1 d0 d1 d2 HE hw2 hb12
  obtain ⟨bx, cx, he⟩ := HX2.out.elem (k := k) HK.out
  obtain ⟨ex1, ex2⟩ : bx = bb ∧ cx = cc := by
    have e2 := he.c1.symm.trans e1
    simp only [Option.some.injEq, Value.slice.injEq, Addr.mk.injEq, and_true] at e2
    exact ⟨e2.1, e2.2.2⟩
  subst bx
  subst cx
  clear e1
  have HE := Aside0.mk he
  have c1 : w2.cell? ⟨g, 1, none⟩ = some (.slice (some ⟨bb, 0, none⟩) r.L.length cc) := he.c1
  have d0 : w2.cell? ⟨bb, k * 3, none⟩ = some (.string (rdRF r.L k).name) := he.d0
  have d1 : w2.cell? ⟨bb, k * 3 + 1, none⟩ = some (.string (rdRF r.L k).kept) := he.d1
  have d2 : w2.cell? ⟨bb, k * 3 + 2, none⟩ = some (.string (rdRF r.L k).loose) := he.d2
  have f1 := he.f1
  have f2 := he.f2
  clear he
  go_upto_region 24 with fail
  have h3 := HE.out.s1 ((rdRF r.L k).kept ++ (rdRF r.L k).loose)
  generalize w2.setCell ⟨bb, k * 3 + 1, none⟩ (.string ((rdRF r.L k).kept ++ (rdRF r.L k).loose)) = w3 at *
  clear c1 d0 d1 d2 f1 f2 HE
  obtain ⟨b3, cc3, he⟩ := h3.elem (k := k) (by show k < (r.L.set k _).length; rw [List.length_set]; exact HK.out)
  have c1 : w3.cell? ⟨g, 1, none⟩ = some (.slice (some ⟨b3, 0, none⟩) r.L.length cc3) := by have := he.c1; rw [List.length_set] at this; exact this
  have d2 := he.d2
  have f2 := he.f2
  have h4 := he.s2 ⟨#[]⟩
  have hq : (r.L.set k { rdRF r.L k with kept := (rdRF r.L k).kept ++ (rdRF r.L k).loose }).set k { rdRF (r.L.set k { rdRF r.L k with kept := (rdRF r.L k).kept ++ (rdRF r.L k).loose }) k with loose := ⟨#[]⟩ } = r.L.set k ⟨(rdRF r.L k).name, (rdRF r.L k).kept ++ (rdRF r.L k).loose, ⟨#[]⟩⟩ := by rw [List.set_set, rd_set HK.out]
  have h5 : RHas Q w0 (w3.setCell ⟨b3, k * 3 + 2, none⟩ (.string ⟨#[]⟩)) g { r with armed := doA r.armed, L := r.L.set k ⟨(rdRF r.L k).name, (rdRF r.L k).kept ++ (rdRF r.L k).loose, ⟨#[]⟩⟩ } := by rw [← hq]; exact h4
  have H5 := Aside0.mk h5
  clear he h3 h4 hq h5
  go_wp2_with fail
  go_ret
  exact ⟨rfl, _, H5.out, k, HK.out, HKS.out, by first | rfl | rw [hgone]⟩
set_option maxRecDepth 100000 in
set_option maxHeartbeats 8000000 in
theorem rdo_a_full (Q : Nat → Prop) (w0 : World) (g : Nat) (r : RS) (s t b : ByteArray) (hs : s.size ≤ 9223372036854775807) (ht : t.size ≤ 9223372036854775807) (hn : r.L.length ≤ 100000) (ha : r.armed ≤ 9223372036854775807) (ha0 : -1 ≤ r.armed) (hbytes : bytesR r.L ≤ 1000000) (hbs : b.size ≤ 1000000) (hr0 : 0 ≤ r.room) (hr1 : r.room ≤ 1000000) (hfull : r.room - (bytesR r.L : Int) < (b.size : Int)) (hm : mayN r.gone true (badB [s]) (hasR r.L s) = 0) (w : World) (h : RHas Q w0 w g r) :
    Calls Try.prog 34 #[.pointer (some ⟨g, 0, none⟩), .int .u8 97, .string s, .string t, .string b] w fun e w' => e = .returned (.int .i64 11) ∧ RHas Q w0 w' g r := by
  obtain ⟨A, c, hl⟩ := h.rep.look
  have c3 := hl.c3
  have H := Aside0.mk h
  have P1 := Aside0.mk (fun W => rnamed_calls s hs W)
  have P2 := Aside0.mk (fun W => rnamed_calls t ht W)
  have P3 := Aside0.mk (rat_calls g r s w h.rep)
  clear h hl
  have hgone : r.gone = false := by
    cases hg : r.gone
    · rfl
    · rw [hg] at hm; cases hm
  rw [hgone] at hm c3
  have hbd : badB [s] = false := by
    cases hb : badB [s]
    · rfl
    · rw [hb] at hm; cases hm
  rw [hbd] at hm
  have h1 : namedB s = true := by rw [bad1] at hbd; simpa using hbd
  rw [h1] at P1
  rcases found_cases r.L s with ⟨f1, f2⟩ | ⟨f1, k, hk, hks, f2⟩
  · rw [f1] at hm; cases hm
  rw [f2] at P3
  have PF := Aside0.mk (rfree_calls g r w H.out.rep hr0 hr1 hbytes)
  have hk0 : decide ((k : Int) < 0) = false := decide_eq_false (by omega)
  have HK := Aside0.mk hk
  have HKS := Aside0.mk hks
  have HN := Aside0.mk hn
  clear hm hbd f1 f2 h1 hk hks hn
  have hff : decide ((b.size : Int) > r.room - (bytesR r.L : Int)) = true := decide_eq_true (by omega)
  clear hfull
  generalize hfr : r.room - (bytesR r.L : Int) = fr at *
  go_enter Try.func34, Try.ntmps34
  go_wp2_with (first
    | (go_at_call 46; (with_reducible refine (P1.out _).mono ?_); rintro e w' ⟨rfl, hw'⟩; have hw2 := hw'.symm; clear hw'; subst hw2)
    | (go_at_call 46; (with_reducible refine (P2.out _).mono ?_); rintro e w' ⟨rfl, hw'⟩; have hw2 := hw'.symm; clear hw'; subst hw2)
    | (go_at_call 47; (with_reducible refine (P3.out).mono ?_); rintro e w' ⟨rfl, hw'⟩; have hw2 := hw'.symm; clear hw'; subst hw2)
    | (go_at_call 38; (with_reducible refine (PF.out).mono ?_); rintro e w1 ⟨rfl, hb1⟩; have HB1 := Aside0.mk hb1; clear hb1))
  go_ret
  exact ⟨rfl, H.out.below HB1.out⟩
def RApp (Q : Nat → Prop) (w0 : World) (g : Nat) (r : RS) (s b : ByteArray) (e : Ending) (w' : World) : Prop := e = .returned (.int .i64 (doN r.armed)) ∧ ∃ r' k, RHas Q w0 w' g r' ∧ k < r.L.length ∧ (rdRF r.L k).name = s ∧ r' = (if r.armed = 0 then { r with armed := -1, gone := true, L := r.L.set k ⟨(rdRF r.L k).name, (rdRF r.L k).kept, (rdRF r.L k).loose ++ b⟩ } else { r with armed := doA r.armed, L := r.L.set k ⟨(rdRF r.L k).name, (rdRF r.L k).kept, (rdRF r.L k).loose ++ b⟩ })
set_option maxRecDepth 100000 in
set_option maxHeartbeats 8000000 in
theorem rdo_a_ok (Q : Nat → Prop) (w0 : World) (g : Nat) (r : RS) (s t b : ByteArray) (hs : s.size ≤ 9223372036854775807) (ht : t.size ≤ 9223372036854775807) (hn : r.L.length ≤ 100000) (ha : r.armed ≤ 9223372036854775807) (ha0 : -1 ≤ r.armed) (hbytes : bytesR r.L ≤ 1000000) (hbs : b.size ≤ 1000000) (hr0 : 0 ≤ r.room) (hr1 : r.room ≤ 1000000) (hfit : (b.size : Int) ≤ r.room - (bytesR r.L : Int)) (hm : mayN r.gone true (badB [s]) (hasR r.L s) = 0) (w : World) (h : RHas Q w0 w g r) :
    Calls Try.prog 34 #[.pointer (some ⟨g, 0, none⟩), .int .u8 97, .string s, .string t, .string b] w fun e w' => RApp Q w0 g r s b e w' := by
  obtain ⟨A, c, hl⟩ := h.rep.look
  have c3 := hl.c3
  have H := Aside0.mk h
  have P1 := Aside0.mk (fun W => rnamed_calls s hs W)
  have P2 := Aside0.mk (fun W => rnamed_calls t ht W)
  have P3 := Aside0.mk (rat_calls g r s w h.rep)
  clear h hl
  have hgone : r.gone = false := by
    cases hg : r.gone
    · rfl
    · rw [hg] at hm; cases hm
  rw [hgone] at hm c3
  have hbd : badB [s] = false := by
    cases hb : badB [s]
    · rfl
    · rw [hb] at hm; cases hm
  rw [hbd] at hm
  have h1 : namedB s = true := by rw [bad1] at hbd; simpa using hbd
  rw [h1] at P1
  rcases found_cases r.L s with ⟨f1, f2⟩ | ⟨f1, k, hk, hks, f2⟩
  · rw [f1] at hm; cases hm
  rw [f2] at P3
  have PF := Aside0.mk (rfree_calls g r w H.out.rep hr0 hr1 hbytes)
  have hk0 : decide ((k : Int) < 0) = false := decide_eq_false (by omega)
  have HK := Aside0.mk hk
  have HKS := Aside0.mk hks
  have HN := Aside0.mk hn
  clear hm hbd f1 f2 h1 hk hks hn
  have hff : decide ((b.size : Int) > r.room - (bytesR r.L : Int)) = false := decide_eq_false (by omega)
  have hadd : ∀ W : World, (Op.stringOp .add (rdRF r.L k).loose b).run Try.prog W = .ok (.string ((rdRF r.L k).loose ++ b)) W := fun W => run_string_add_sum (P := Try.prog) W _ _ (by have := bytesR_at HK.out; omega)
  clear hfit
  generalize hfr : r.room - (bytesR r.L : Int) = fr at *
  have hj0 : (0 : Int) ≤ (k : Int) := by omega
  have hj1 : (k : Int) < (r.L.length : Int) := by have := HK.out; omega
  have P4 := Aside0.mk (fun (L' : List RF) (W : World) (h : RHas Q w0 W g { r with L := L' }) => rgoes_calls Q w0 g { r with L := L' } ha ha0 W h)
  go_enter Try.func34, Try.ntmps34
  go_upto_region 15 with (first
    | (go_at_call 46; (with_reducible refine (P1.out _).mono ?_); rintro e w' ⟨rfl, hw'⟩; have hw2 := hw'.symm; clear hw'; subst hw2)
    | (go_at_call 46; (with_reducible refine (P2.out _).mono ?_); rintro e w' ⟨rfl, hw'⟩; have hw2 := hw'.symm; clear hw'; subst hw2)
    | (go_at_call 47; (with_reducible refine (P3.out).mono ?_); rintro e w' ⟨rfl, hw'⟩; have hw2 := hw'.symm; clear hw'; subst hw2)
    | (go_at_call 38; (with_reducible refine (PF.out).mono ?_); rintro e w1 ⟨rfl, hb1⟩; have HB1 := Aside0.mk hb1; clear hb1))
  have HX := Aside0.mk (H.out.below HB1.out)
  obtain ⟨bb, cc, he⟩ := HX.out.elem (k := k) HK.out
  have HE := Aside0.mk he
  have c1 : w1.cell? ⟨g, 1, none⟩ = some (.slice (some ⟨bb, 0, none⟩) r.L.length cc) := he.c1
  have d0 : w1.cell? ⟨bb, k * 3, none⟩ = some (.string (rdRF r.L k).name) := he.d0
  have d1 : w1.cell? ⟨bb, k * 3 + 1, none⟩ = some (.string (rdRF r.L k).kept) := he.d1
  have d2 : w1.cell? ⟨bb, k * 3 + 2, none⟩ = some (.string (rdRF r.L k).loose) := he.d2
  clear he
  clear c3
  go_still_tail 17, (by kernel_rfl)
  change wpList _ _ _ _ _ w1.drew
  generalize hw2 : w1.drew = w2
  have hb12 : Below w1.heap.size w1 w2 := hw2 ▸ (Below.refl _ _).drew
  have HX2 := Aside0.mk (HX.out.below hb12)
  have e1 := pw_cell_below hb12 c1
  clear c1 d0 d1 d2 HE hw2 hb12
  obtain ⟨bx, cx, he⟩ := HX2.out.elem (k := k) HK.out
  obtain ⟨ex1, ex2⟩ : bx = bb ∧ cx = cc := by
    have e2 := he.c1.symm.trans e1
    simp only [Option.some.injEq, Value.slice.injEq, Addr.mk.injEq, and_true] at e2
    exact ⟨e2.1, e2.2.2⟩
  subst bx
  subst cx
  clear e1
  have HE := Aside0.mk he
  have c1 : w2.cell? ⟨g, 1, none⟩ = some (.slice (some ⟨bb, 0, none⟩) r.L.length cc) := he.c1
  have d0 : w2.cell? ⟨bb, k * 3, none⟩ = some (.string (rdRF r.L k).name) := he.d0
  have d1 : w2.cell? ⟨bb, k * 3 + 1, none⟩ = some (.string (rdRF r.L k).kept) := he.d1
  have d2 : w2.cell? ⟨bb, k * 3 + 2, none⟩ = some (.string (rdRF r.L k).loose) := he.d2
  have f1 := he.f1
  have f2 := he.f2
  clear he
  go_upto_region 16 with fail
  have H3 := Aside0.mk (HE.out.s2 ((rdRF r.L k).loose ++ b))
  generalize w2.setCell ⟨bb, k * 3 + 2, none⟩ (.string ((rdRF r.L k).loose ++ b)) = w3 at *
  clear c1 d0 d1 d2 f1 f2 HE
  have PG := Aside0.mk (P4.out _ w3 H3.out)
  by_cases h0 : r.armed = 0
  · have hd : doN r.armed = 12 := by unfold doN; rw [if_pos h0]
    have PG2 := PG.out
    simp only [h0, if_true, decide_true] at PG2
    have PH := Aside0.mk PG2
    have HD := Aside0.mk hd
    have H0 := Aside0.mk h0
    clear hd h0 PG2
    go_wp2_with (go_at_call 48; (with_reducible refine (PH.out).mono ?_); rintro e w4 ⟨rfl, h1⟩; have H1 := Aside0.mk h1; clear h1)
    go_ret
    exact ⟨by rw [HD.out]; rfl, _, k, H1.out, HK.out, HKS.out, by rw [if_pos H0.out]⟩
  · have hd : doN r.armed = 0 := by unfold doN; rw [if_neg h0]
    have PG2 := PG.out
    simp only [h0, if_false, decide_false] at PG2
    have PH := Aside0.mk PG2
    have HD := Aside0.mk hd
    have H0 := Aside0.mk h0
    clear hd h0 PG2
    go_wp2_with (go_at_call 48; (with_reducible refine (PH.out).mono ?_); rintro e w4 ⟨rfl, h1⟩; have H1 := Aside0.mk h1; clear h1)
    go_ret
    exact ⟨by rw [HD.out]; rfl, _, k, H1.out, HK.out, HKS.out, by rw [if_neg H0.out]⟩
end Go.Proofs.Ytbndgnbhmifefaa
namespace Go.Proofs.Ytbndgnbhmifefaa
open Go.RowKit Go.Proofs.YtbndgnbhmifefaaW.PrintWords Go.Proofs.YtbndgnbhmifefaaW.PrintMore
set_option linter.unusedVariables false
set_option linter.unusedSimpArgs false
set_option maxRecDepth 100000 in
set_option maxHeartbeats 8000000 in
theorem rread_err {Q : Nat → Prop} (g : Nat) (r : RS) (s : ByteArray) (hs : s.size ≤ 9223372036854775807) (w : World) (h : RRep Q w g r) (hm : mayN r.gone true (badB [s]) (hasR r.L s) ≠ 0) :
    Calls Try.prog 37 #[.pointer (some ⟨g, 0, none⟩), .string s] w fun e w' => e = .returned (.tuple #[.string ⟨#[]⟩, .int .i64 (mayN r.gone true (badB [s]) (hasR r.L s))]) ∧ w' = w := by
  obtain ⟨A, c, hl⟩ := h.look
  have c3 := hl.c3
  have P1 := Aside0.mk (fun W => rnamed_calls s hs W)
  have P3 := Aside0.mk (rat_calls g r s w h)
  clear h hl
  cases hg : r.gone
  case true =>
    rw [hg] at c3
    have hz : mayN true true (badB [s]) (hasR r.L s) = 12 := rfl
    rw [hz]
    clear hm
    go_enter Try.func37, Try.ntmps37
    go_wp2_with (first
    | (go_at_call 46; (with_reducible refine (P1.out _).mono ?_); rintro e w' ⟨rfl, hw'⟩; have hw2 := hw'.symm; clear hw'; subst hw2))
    exact bodyPost_ret (v := .tuple #[.string ⟨#[]⟩, .int .i64 12]) (by simp [results, Try.results37, go_sem]) rfl ⟨rfl, rfl⟩
  case false =>
    rw [hg] at c3 hm
    cases h1 : namedB s
    case false =>
      rw [h1] at P1
      have hz : mayN false true (badB [s]) (hasR r.L s) = 6 := by rw [bad1, h1]; rfl
      rw [hz]
      clear hm
      go_enter Try.func37, Try.ntmps37
      go_wp2_with (first
      | (go_at_call 46; (with_reducible refine (P1.out _).mono ?_); rintro e w' ⟨rfl, hw'⟩; have hw2 := hw'.symm; clear hw'; subst hw2))
      exact bodyPost_ret (v := .tuple #[.string ⟨#[]⟩, .int .i64 6]) (by simp [results, Try.results37, go_sem]) rfl ⟨rfl, rfl⟩
    case true =>
      rw [h1] at P1
      have hbd : badB [s] = false := by rw [bad1, h1]; rfl
      rw [hbd] at hm ⊢
      rcases found_cases r.L s with ⟨f1, f2⟩ | ⟨f1, k, hk, _, f2⟩
      rotate_left
      · exact absurd (by rw [f1]; rfl) hm
      · rw [f2] at P3
        rw [f1]
        have hz : mayN false true false false = 7 := rfl
        rw [hz]
        clear hm f2
        go_enter Try.func37, Try.ntmps37
        go_wp2_with (first
        | (go_at_call 46; (with_reducible refine (P1.out _).mono ?_); rintro e w' ⟨rfl, hw'⟩; have hw2 := hw'.symm; clear hw'; subst hw2)
        | (go_at_call 47; (with_reducible refine (P3.out).mono ?_); rintro e w' ⟨rfl, hw'⟩; have hw2 := hw'.symm; clear hw'; subst hw2))
        exact bodyPost_ret (v := .tuple #[.string ⟨#[]⟩, .int .i64 7]) (by simp [results, Try.results37, go_sem]) rfl ⟨rfl, rfl⟩
set_option maxRecDepth 100000 in
set_option maxHeartbeats 8000000 in
theorem rread_ok {Q : Nat → Prop} (g : Nat) (r : RS) (s : ByteArray) (hs : s.size ≤ 9223372036854775807) (hbytes : bytesR r.L ≤ 1000000) (w : World) (h : RRep Q w g r) (hm : mayN r.gone true (badB [s]) (hasR r.L s) = 0) :
    Calls Try.prog 37 #[.pointer (some ⟨g, 0, none⟩), .string s] w fun e w' => Below w.heap.size w w' ∧ ∃ k, k < r.L.length ∧ (rdRF r.L k).name = s ∧ e = .returned (.tuple #[.string ((rdRF r.L k).kept ++ (rdRF r.L k).loose), .int .i64 0]) := by
  obtain ⟨A, c, hl⟩ := h.look
  have c3 := hl.c3
  have c1 := hl.c1
  have HC := Aside0.mk hl.hC
  have P1 := Aside0.mk (fun W => rnamed_calls s hs W)
  have P3 := Aside0.mk (rat_calls g r s w h)
  clear h hl
  have hgone : r.gone = false := by
    cases hg : r.gone
    · rfl
    · rw [hg] at hm; cases hm
  rw [hgone] at hm c3
  have hbd : badB [s] = false := by
    cases hb : badB [s]
    · rfl
    · rw [hb] at hm; cases hm
  rw [hbd] at hm
  have h1 : namedB s = true := by rw [bad1] at hbd; simpa using hbd
  rw [h1] at P1
  rcases found_cases r.L s with ⟨f1, f2⟩ | ⟨f1, k, hk, hks, f2⟩
  · rw [f1] at hm; cases hm
  rw [f2] at P3
  have hk0 : decide ((k : Int) < 0) = false := decide_eq_false (by omega)
  have hj0 : (0 : Int) ≤ (k : Int) := by omega
  have hj1 : (k : Int) < (r.L.length : Int) := by omega
  have hadd : ∀ W : World, (Op.stringOp .add (rdRF r.L k).kept (rdRF r.L k).loose).run Try.prog W = .ok (.string ((rdRF r.L k).kept ++ (rdRF r.L k).loose)) W := fun W => run_string_add_sum (P := Try.prog) W _ _ (by have := bytesR_at hk; omega)
  obtain ⟨ad, eA, d0, d1, d2⟩ := at_RF HC.out k hk
  subst eA
  have HK := Aside0.mk (show k < r.L.length ∧ (rdRF r.L k).name = s from ⟨hk, hks⟩)
  clear hm hbd f1 f2 h1 hk hks hgone
  go_enter Try.func37, Try.ntmps37
  go_wp2_with (first
  | (go_at_call 46; (with_reducible refine (P1.out _).mono ?_); rintro e w' ⟨rfl, hw'⟩; have hw2 := hw'.symm; clear hw'; subst hw2)
  | (go_at_call 47; (with_reducible refine (P3.out).mono ?_); rintro e w' ⟨rfl, hw'⟩; have hw2 := hw'.symm; clear hw'; subst hw2))
  go_region_held3 (fun W => W.cell? ⟨g, 1, none⟩ = some (.slice (some ad) r.L.length c) ∧ W.cell? ⟨(ad.add (k * 3)).block, (ad.add (k * 3)).off + 1, none⟩ = some (.string (rdRF r.L k).kept) ∧ W.cell? ⟨(ad.add (k * 3)).block, (ad.add (k * 3)).off + 2, none⟩ = some (.string (rdRF r.L k).loose))
    (first | exact ⟨c1, d1, d2⟩ | go_keep) (fail)
  go_wp2_with fail
  exact bodyPost_ret (v := .tuple #[.string ((rdRF r.L k).kept ++ (rdRF r.L k).loose), .int .i64 0]) (by simp [results, Try.results37, go_sem]) rfl ⟨(Below.refl _ _).drew, k, HK.out.1, HK.out.2, rfl⟩
end Go.Proofs.Ytbndgnbhmifefaa
namespace Go.Proofs.Ytbndgnbhmifefaa
open Go.RowKit Go.Proofs.YtbndgnbhmifefaaW.PrintWords Go.Proofs.YtbndgnbhmifefaaW.PrintMore
set_option linter.unusedVariables false
set_option linter.unusedSimpArgs false
theorem RHas.pass {Q Q' : Nat → Prop} {w0 w w' : World} {g : Nat} {r r' : RS} (h : RHas Q w0 w g r) (h2 : RHas Q' w w' g r') (hQ : ∀ k, Q' k → Q k) : RHas Q w0 w' g r' :=
  ⟨fun k hk => hQ k (h2.hB k hk), h.frame.trans (h2.frame.mono hQ), h2.rep.mono (fun k hk _ => hQ k hk)⟩
/-- a block that is new is none of the reference's own -/
theorem RHas.apart {Q : Nat → Prop} {w0 w1 : World} {g : Nat} {r : RS} (h : RHas Q w0 w1 g r) (o : Obj) : RHas (fun k => Q k ∧ k ≠ w1.heap.size) (w1.alloc o) (w1.alloc o) g r :=
  ⟨fun k hk => ⟨h.hB k (by simp at hk; omega), by simp at hk; omega⟩, DFrame.refl _ _, (h.rep.mono (fun k hk hlt => ⟨hk, by omega⟩)).below (below_alloc (Below.refl _ _) o)⟩
def RRen (Q : Nat → Prop) (w0 : World) (g : Nat) (r : RS) (s t : ByteArray) (e : Ending) (w' : World) : Prop := e = .returned (.int .i64 (doN r.armed)) ∧ ∃ r', RHas Q w0 w' g r' ∧ if r.armed = 0 then r' = { r with armed := -1, gone := true } else ∃ k j L2 L3, k < r.L.length ∧ (rdRF r.L k).name = s ∧ L2 = r.L.take k ++ r.L.drop (k + 1) ∧ ((hasR L2 t = false ∧ L3 = L2) ∨ ∃ m, m < L2.length ∧ (rdRF L2 m).name = t ∧ L3 = L2.take m ++ L2.drop (m + 1)) ∧ PutAt L3 t j ∧ r' = { r with armed := doA r.armed, L := L3.take j ++ ⟨t, (rdRF r.L k).kept, (rdRF r.L k).loose⟩ :: L3.drop j }
set_option maxRecDepth 100000 in
set_option maxHeartbeats 8000000 in
theorem rdo_n_ok (Q : Nat → Prop) (w0 : World) (g : Nat) (r : RS) (s t b : ByteArray) (hs : s.size ≤ 9223372036854775807) (ht : t.size ≤ 9223372036854775807) (hn : r.L.length ≤ 100000) (ha : r.armed ≤ 9223372036854775807) (ha0 : -1 ≤ r.armed) (hm : mayN r.gone true (badB [s, t]) (hasR r.L s) = 0) (w : World) (h : RHas Q w0 w g r) :
    Calls Try.prog 34 #[.pointer (some ⟨g, 0, none⟩), .int .u8 110, .string s, .string t, .string b] w fun e w' => RRen Q w0 g r s t e w' := by
  obtain ⟨A, c, hl⟩ := h.rep.look
  have c3 := hl.c3
  have H := Aside0.mk h
  have P1 := Aside0.mk (fun W => rnamed_calls s hs W)
  have P2 := Aside0.mk (fun W => rnamed_calls t ht W)
  have P3 := Aside0.mk (rat_calls g r s w h.rep)
  clear h hl
  have hgone : r.gone = false := by
    cases hg : r.gone
    · rfl
    · rw [hg] at hm; cases hm
  rw [hgone] at hm c3
  have hbd : badB [s, t] = false := by
    cases hb : badB [s, t]
    · rfl
    · rw [hb] at hm; cases hm
  rw [hbd] at hm
  have h1 : namedB s = true := by rw [bad2] at hbd; cases h1 : namedB s <;> cases h2 : namedB t <;> simp [h1, h2] at hbd ⊢
  have h2 : namedB t = true := by rw [bad2] at hbd; cases h1 : namedB s <;> cases h2 : namedB t <;> simp [h1, h2] at hbd ⊢
  rw [h1] at P1
  rw [h2] at P2
  rcases found_cases r.L s with ⟨f1, f2⟩ | ⟨f1, k, hk, hks, f2⟩
  · rw [f1] at hm; cases hm
  rw [f2] at P3
  have P4 := Aside0.mk (rgoes_calls Q w0 g r ha ha0 w H.out)
  have hk0 : decide ((k : Int) < 0) = false := decide_eq_false (by omega)
  have HK := Aside0.mk hk
  have HKS := Aside0.mk hks
  have HN := Aside0.mk hn
  clear hm hbd f1 f2 h1 h2 hk hks hn
  by_cases h0 : r.armed = 0
  · rw [if_pos h0, decide_eq_true h0] at P4
    have H0 := Aside0.mk h0
    clear h0
    go_enter Try.func34, Try.ntmps34
    go_wp2_with (first
    | (go_at_call 46; (with_reducible refine (P1.out _).mono ?_); rintro e w' ⟨rfl, hw'⟩; have hw2 := hw'.symm; clear hw'; subst hw2)
    | (go_at_call 46; (with_reducible refine (P2.out _).mono ?_); rintro e w' ⟨rfl, hw'⟩; have hw2 := hw'.symm; clear hw'; subst hw2)
    | (go_at_call 47; (with_reducible refine (P3.out).mono ?_); rintro e w' ⟨rfl, hw'⟩; have hw2 := hw'.symm; clear hw'; subst hw2)
    | (go_at_call 48; (with_reducible refine (P4.out).mono ?_); rintro e w1 ⟨rfl, h1⟩; have HX := Aside0.mk h1; clear h1))
    go_ret
    exact ⟨by unfold doN; rw [if_pos H0.out]; rfl, _, HX.out, by rw [if_pos H0.out]⟩
  rw [if_neg h0, decide_eq_false h0] at P4
  have H0 := Aside0.mk h0
  clear h0
  have hj0 : (0 : Int) ≤ (k : Int) := by omega
  have hj1 : (k : Int) < (r.L.length : Int) := by have := HK.out; omega
  go_enter Try.func34, Try.ntmps34
  go_upto_region 28 with (first
    | (go_at_call 46; (with_reducible refine (P1.out _).mono ?_); rintro e w' ⟨rfl, hw'⟩; have hw2 := hw'.symm; clear hw'; subst hw2)
    | (go_at_call 46; (with_reducible refine (P2.out _).mono ?_); rintro e w' ⟨rfl, hw'⟩; have hw2 := hw'.symm; clear hw'; subst hw2)
    | (go_at_call 47; (with_reducible refine (P3.out).mono ?_); rintro e w' ⟨rfl, hw'⟩; have hw2 := hw'.symm; clear hw'; subst hw2)
    | (go_at_call 48; (with_reducible refine (P4.out).mono ?_); rintro e w1 ⟨rfl, h1⟩; have HX := Aside0.mk h1; clear h1))
  obtain ⟨bb, cc, he⟩ := HX.out.elem (k := k) HK.out
  have HE := Aside0.mk he
  have c1 : w1.cell? ⟨g, 1, none⟩ = some (.slice (some ⟨bb, 0, none⟩) r.L.length cc) := he.c1
  have d0 : w1.cell? ⟨bb, k * 3, none⟩ = some (.string (rdRF r.L k).name) := he.d0
  have d1 : w1.cell? ⟨bb, k * 3 + 1, none⟩ = some (.string (rdRF r.L k).kept) := he.d1
  have d2 : w1.cell? ⟨bb, k * 3 + 2, none⟩ = some (.string (rdRF r.L k).loose) := he.d2
  clear he
  clear c3 HE
  go_upto_region 29 with fail
  have HA := Aside0.mk (HX.out.below (below_alloc (Below.refl _ _) (.cells #[.string (rdRF r.L k).name, .string (rdRF r.L k).kept, .string (rdRF r.L k).loose] 69)))
  have HQ := Aside0.mk (HX.out.apart (.cells #[.string (rdRF r.L k).name, .string (rdRF r.L k).kept, .string (rdRF r.L k).loose] 69))
  have hf2 := heap_alloc_new w1 (.cells #[.string (rdRF r.L k).name, .string (rdRF r.L k).kept, .string (rdRF r.L k).loose] 69)
  have hs2 : (w1.alloc (.cells #[.string (rdRF r.L k).name, .string (rdRF r.L k).kept, .string (rdRF r.L k).loose] 69)).heap.size = w1.heap.size + 1 := by simp
  generalize w1.alloc (.cells #[.string (rdRF r.L k).name, .string (rdRF r.L k).kept, .string (rdRF r.L k).loose] 69) = w2 at *
  have HF2 := Aside0.mk hf2
  have HS2 := Aside0.mk hs2
  clear hf2 hs2 c1 d0 d1 d2
  go_upto_region 30 with (go_at_call 50; (with_reducible refine (rcut_calls (fun k => Q k ∧ k ≠ w1.heap.size) w2 g { r with armed := doA r.armed } k HK.out HN.out _ HQ.out).mono ?_); rintro e w3 ⟨rfl, h3⟩)
  have HL2 := Aside0.mk (show (r.L.take k ++ r.L.drop (k + 1)).length ≤ 100000 by rw [List.length_append, List.length_take, List.length_drop]; have := HN.out; omega)
  obtain ⟨L2, hL2⟩ : ∃ L2, L2 = r.L.take k ++ r.L.drop (k + 1) := ⟨_, rfl⟩
  rw [← hL2] at h3 HL2
  have HLe := Aside0.mk hL2
  have HP3 := Aside0.mk (HA.out.pass h3 (fun _ h => h.1))
  have hf3 := (h3.frame.block w1.heap.size (by rw [HS2.out]; omega) (fun h => h.2 rfl)).trans HF2.out
  have P5 := Aside0.mk (rat_calls g _ t w3 h3.rep)
  have H3 := Aside0.mk h3
  have hlt3 : w1.heap.size < w3.heap.size := (Array.getElem?_eq_some_iff.1 hf3).1
  have HF3 := Aside0.mk hf3
  have HPA := HA
  clear h3 hf3 hL2 HQ
  rcases found_cases L2 t with ⟨q1, q2⟩ | ⟨q1, m, hm, hmt, q2⟩
  · change foundAt _ t = _ at q2
    have P6 := Aside0.mk (show Calls Try.prog 47 #[.pointer (some ⟨g, 0, none⟩), .string t] w3 fun e w' => e = .returned (.int .i64 (-1)) ∧ w' = w3 by rw [← q2]; exact P5.out)
    have HQ1 := Aside0.mk q1
    clear P5 q1 q2
    go_upto_region 33 with (go_at_call 47; (with_reducible refine (P6.out).mono ?_); rintro e w' ⟨rfl, hw'⟩; have hw2 := hw'.symm; clear hw'; subst hw2)
    have fx0 := cell_of_row w3 _ 0 _ _ _ HF3.out
    have zx0 := frozen_of_row w3 w1.heap.size 0 _ _ HF3.out
    go_upto_region 34 with fail
    have h5r := H3.out.rep.kept (w' := w3.setCell ⟨w1.heap.size, 0, none⟩ (.string t)) (fun k hk _ => heap_setCell_other _ _ _ _ (by simp only; exact hk.2))
    have h5f := HP3.out.frame.set ⟨w1.heap.size, 0, none⟩ (.string t) (HX.out.hB _ (Nat.le_refl _))
    have h5s : (w3.setCell ⟨w1.heap.size, 0, none⟩ (.string t)).heap.size = w3.heap.size := by simp [World.setCell]
    have h5b := heap_setCell_same w3 w1.heap.size 0 _ _ (.string t) HF3.out
    generalize w3.setCell ⟨w1.heap.size, 0, none⟩ (.string t) = w5 at *
    have g0 : w5.cell? ⟨w1.heap.size, 0, none⟩ = some (.string t) := cell_of_row w5 _ 0 _ _ _ h5b
    have g1 : w5.cell? ⟨w1.heap.size, 1, none⟩ = some (.string (rdRF r.L k).kept) := cell_of_row w5 _ 1 _ _ _ h5b
    have g2 : w5.cell? ⟨w1.heap.size, 2, none⟩ = some (.string (rdRF r.L k).loose) := cell_of_row w5 _ 2 _ _ _ h5b
    have HP5 := Aside0.mk (⟨fun j hj => HP3.out.hB j (by omega), h5f, h5r.mono (fun j hj _ => hj.1)⟩ : RHas Q w0 w5 g { r with armed := doA r.armed, L := L2 })
    have PP := Aside0.mk (rput_calls (fun k => Q k ∧ k ≠ w1.heap.size) w5 g { r with armed := doA r.armed, L := L2 } ⟨t, (rdRF r.L k).kept, (rdRF r.L k).loose⟩ HL2.out w5 ⟨fun j hj => H3.out.hB j (by omega), DFrame.refl _ _, h5r⟩)
    clear h5r h5f h5s h5b fx0 zx0
    go_wp2_with (go_at_call 49; (with_reducible refine (PP.out).mono ?_); rintro e w6 ⟨rfl, j, hp, h6⟩; have HPJ := Aside0.mk hp; have H6 := Aside0.mk (HP5.out.pass h6 (fun _ h => h.1)); clear hp h6)
    go_ret
    exact ⟨by unfold doN; rw [if_neg H0.out]; rfl, _, H6.out, by rw [if_neg H0.out]; exact ⟨k, j, L2, L2, HK.out, HKS.out, HLe.out, .inl ⟨HQ1.out, rfl⟩, HPJ.out, rfl⟩⟩
  · change foundAt _ t = _ at q2
    have P6 := Aside0.mk (show Calls Try.prog 47 #[.pointer (some ⟨g, 0, none⟩), .string t] w3 fun e w' => e = .returned (.int .i64 m) ∧ w' = w3 by rw [← q2]; exact P5.out)
    have hm0 : decide ((m : Int) ≥ 0) = true := decide_eq_true (by omega)
    obtain ⟨L3, hL3⟩ : ∃ L3, L3 = L2.take m ++ L2.drop (m + 1) := ⟨_, rfl⟩
    have HL4 := Aside0.mk (show L3.length ≤ 100000 by rw [hL3, List.length_append, List.length_take, List.length_drop]; have := HL2.out; omega)
    have HL3 := Aside0.mk (show (hasR L2 t = false ∧ L3 = L2) ∨ ∃ m, m < L2.length ∧ (rdRF L2 m).name = t ∧ L3 = L2.take m ++ L2.drop (m + 1) from .inr ⟨m, hm, hmt, hL3⟩)
    have PC := Aside0.mk (rcut_calls (fun k => Q k ∧ k ≠ w1.heap.size) w2 g { r with armed := doA r.armed, L := L2 } m hm HL2.out w3 H3.out)
    simp only [← hL3] at PC
    clear P5 q1 q2 hm hmt hL3
    go_upto_region 33 with (first
      | (go_at_call 47; (with_reducible refine (P6.out).mono ?_); rintro e w' ⟨rfl, hw'⟩; have hw2 := hw'.symm; clear hw'; subst hw2)
      | (go_at_call 50; (with_reducible refine (PC.out).mono ?_); rintro e w4 ⟨rfl, h4⟩; have HH4 := Aside0.mk h4; clear h4))
    have HP4 := Aside0.mk (HPA.out.pass HH4.out (fun _ h => h.1))
    have HF4 := Aside0.mk ((HH4.out.frame.block w1.heap.size (by rw [HS2.out]; omega) (fun h => h.2 rfl)).trans HF2.out)
    have fx0 := cell_of_row w4 _ 0 _ _ _ HF4.out
    have zx0 := frozen_of_row w4 w1.heap.size 0 _ _ HF4.out
    go_upto_region 34 with fail
    have h5r := HH4.out.rep.kept (w' := w4.setCell ⟨w1.heap.size, 0, none⟩ (.string t)) (fun k hk _ => heap_setCell_other _ _ _ _ (by simp only; exact hk.2))
    have h5f := HP4.out.frame.set ⟨w1.heap.size, 0, none⟩ (.string t) (HX.out.hB _ (Nat.le_refl _))
    have h5s : (w4.setCell ⟨w1.heap.size, 0, none⟩ (.string t)).heap.size = w4.heap.size := by simp [World.setCell]
    have h5b := heap_setCell_same w4 w1.heap.size 0 _ _ (.string t) HF4.out
    generalize w4.setCell ⟨w1.heap.size, 0, none⟩ (.string t) = w5 at *
    have g0 : w5.cell? ⟨w1.heap.size, 0, none⟩ = some (.string t) := cell_of_row w5 _ 0 _ _ _ h5b
    have g1 : w5.cell? ⟨w1.heap.size, 1, none⟩ = some (.string (rdRF r.L k).kept) := cell_of_row w5 _ 1 _ _ _ h5b
    have g2 : w5.cell? ⟨w1.heap.size, 2, none⟩ = some (.string (rdRF r.L k).loose) := cell_of_row w5 _ 2 _ _ _ h5b
    have HP5 := Aside0.mk (⟨fun j hj => HP4.out.hB j (by omega), h5f, h5r.mono (fun j hj _ => hj.1)⟩ : RHas Q w0 w5 g { r with armed := doA r.armed, L := L3 })
    have PP := Aside0.mk (rput_calls (fun k => Q k ∧ k ≠ w1.heap.size) w5 g { r with armed := doA r.armed, L := L3 } ⟨t, (rdRF r.L k).kept, (rdRF r.L k).loose⟩ HL4.out w5 ⟨fun j hj => HH4.out.hB j (by omega), DFrame.refl _ _, h5r⟩)
    clear h5r h5f h5s h5b fx0 zx0
    go_wp2_with (go_at_call 49; (with_reducible refine (PP.out).mono ?_); rintro e w6 ⟨rfl, j, hp, h6⟩; have HPJ := Aside0.mk hp; have H6 := Aside0.mk (HP5.out.pass h6 (fun _ h => h.1)); clear hp h6)
    go_ret
    exact ⟨by unfold doN; rw [if_neg H0.out]; rfl, _, H6.out, by rw [if_neg H0.out]; exact ⟨k, j, L2, L3, HK.out, HKS.out, HLe.out, HL3.out, HPJ.out, rfl⟩⟩
end Go.Proofs.Ytbndgnbhmifefaa
