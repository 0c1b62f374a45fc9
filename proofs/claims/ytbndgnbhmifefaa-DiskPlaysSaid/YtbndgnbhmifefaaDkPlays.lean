/- The law DiskPlays comes to true for every input. Conditions: the asks read so. -/
import Derived.Test.YtbndgnbhmifefaaPlLike
namespace Go.Proofs.Ytbndgnbhmifefaa
open Go.RowKit Go.Proofs.YtbndgnbhmifefaaW.PrintWords Go.Proofs.YtbndgnbhmifefaaW.PrintMore
set_option linter.unusedVariables false
set_option linter.unusedSimpArgs false
def d0 (room : Int) : DS := ⟨room, -1, false, []⟩
def r0 (room : Int) : RS := ⟨room, -1, false, []⟩
theorem pair_new {w w1 : World} {room : Int} (h1 : DRep (fun k => w.heap.size ≤ k) w1 (w.heap.size + 1) w.heap.size room (-1) false []) (hb : Below w.heap.size w w1) :
    Pair (fun k => k < w.heap.size) (w1.alloc (.cells #[.int .i64 room, .slice none 0 0, .int .i64 (-1), .bool false] 64)) (w.heap.size + 1) w.heap.size w1.heap.size (d0 room) (r0 room) := by
  have hs := hb.size
  refine ⟨fun k hk => by simp; omega, fun k => w.heap.size ≤ k ∧ k < w1.heap.size, fun k => k = w1.heap.size, [], fun k hk hp => by omega, fun k hk hp => by omega, fun k _ hk hq => by omega, rfl, ?_, ⟨⟨_, heap_alloc_new _ _, Kd.R_nil _ _ _ _ _⟩, rfl⟩⟩
  exact (h1.mono (fun k hk hlt => ⟨hk, hlt⟩)).below (below_alloc (Below.refl _ _) _)
theorem like_new {room : Int} (h0 : 0 ≤ room) (h1 : room ≤ 1000000) : Like (d0 room) (r0 room) :=
  ⟨rfl, rfl, rfl, List.Perm.refl _, List.Pairwise.nil, h0, h1, by show (0 : Int) ≤ room; exact h0, by show (-1 : Int) ≤ -1; omega, by show (-1 : Int) ≤ 9223372036854775807; omega, fun f hf => by cases hf⟩
def roomP (room : Int) : Int := if 500 < room then room % 501 else room
theorem roomP_max (room : Int) : 0 ≤ max (roomP room) 0 ∧ max (roomP room) 0 ≤ 1000000 := by unfold roomP; split <;> omega
theorem next_like {P : Nat → Prop} {w wr w' : World} {gd M gr n : Nat} (h : Next P w wr gd M gr n) (hb : Below wr.heap.size wr w') : Next P w w' gd M gr n := by
  obtain ⟨h1, d, r, h2, h3, h4⟩ := h
  exact ⟨h1.trans (PFrame.of hb), d, r, h2.below hb, h3, h4⟩
theorem like_next {P : Nat → Prop} {w wr : World} {gd M gr n : Nat} (h : Next P w wr gd M gr n) (hn : n ≤ 900) :
    Calls Try.prog 23 #[.pointer (some ⟨gd, 0, none⟩), .pointer (some ⟨gr, 0, none⟩)] wr fun x w' => x = .returned (.bool true) ∧ Next P w w' gd M gr n := by
  obtain ⟨h1, d, r, h2, h3, h4⟩ := h
  exact (like_calls wr h2 h3 (by omega)).mono fun x w' hh => ⟨hh.1, next_like ⟨h1, d, r, h2, h3, h4⟩ hh.2⟩
theorem asks_next {P : Nat → Prop} {w wr : World} {gd M gr n : Nat} (h : Next P w wr gd M gr n) (hn : n ≤ 900) (x : Ask) (hx : askOk x) (A3 : Option Addr) (c3 : Nat) (l3 : x.bytes.length ≤ c3) (g3 : Kd.C kByt wr A3 x.bytes.length x.bytes) (p3 : 0 < x.bytes.length → ∀ ad, A3 = some ad → P ad.block) (A5 : Option Addr) (c5 : Nat) (g5 : Kd.C kI64 wr A5 x.keep.length x.keep) (p5 : 0 < x.keep.length → ∀ ad, A5 = some ad → P ad.block) :
    Calls Try.prog 22 #[.pointer (some ⟨gd, 0, none⟩), .pointer (some ⟨gr, 0, none⟩), .agg #[.int .i64 x.kind, .string x.name, .string x.dest, .slice A3 x.bytes.length c3, .int .i64 x.n, .slice A5 x.keep.length c5]] wr fun e w' => e = .returned (.bool true) ∧ Next P w w' gd M gr (n + 1) := by
  obtain ⟨h1, d, r, h2, h3, h4⟩ := h
  exact (asks_any n wr h2 h3 h4 hn x hx A3 c3 l3 g3 p3 A5 c5 g5 p5).mono fun e w' hh => ⟨hh.1, Next.from h1 hh.2⟩
theorem next_frame {P : Nat → Prop} {w wr : World} {gd M gr n : Nat} (h : Next P w wr gd M gr n) : PFrame P w wr := h.1
set_option maxRecDepth 100000 in
set_option maxHeartbeats 8000000 in
theorem plays_row (w : World) (room : Int) (hr0 : -9223372036854775808 ≤ room) (hr1 : room ≤ 9223372036854775807) (A : Option Addr) (c : Nat) (S : List Ask) (hC : Kd.C kAsk w A S.length S) (hc : S.length ≤ c) (hS : asksOk S) :
    Calls Try.prog 7 #[.int .i64 room, .slice A S.length c] w fun x w' => x = .returned (.bool true) ∧ Below w.heap.size w w' := by
  have hSl : S.length ≤ 9223372036854775807 := hC.2.1
  have HC := Aside0.mk hC
  have HS := Aside0.mk hS
  clear hC hS hc
  have hRM := roomP_max room
  have HR0 := Aside0.mk hRM.1
  have HR1 := Aside0.mk hRM.2
  clear hRM
  go_enter Try.func7, Try.ntmps7
  go_upto_if 11 with fail
  go_cut [0] (fun v w' => w = w' ∧ v = .int .i64 (roomP room))
  case first =>
    by_cases hlt : 500 < room
    · have hd : decide (500 < room) = true := decide_eq_true hlt
      have hp : roomP room = room % 501 := by unfold roomP; rw [if_pos hlt]
      have h0 : 0 ≤ room := by omega
      have HPp := Aside0.mk hp
      clear hp
      go_wp2_with fail
      go_meet
      case rel => exact ⟨rfl, by rw [HPp.out]⟩
    · have hd : decide (500 < room) = false := decide_eq_false hlt
      have hp : roomP room = room := by unfold roomP; rw [if_neg hlt]
      have HPp := Aside0.mk hp
      clear hp
      go_wp2_with fail
      go_meet
      case rel => exact ⟨rfl, by rw [HPp.out]⟩
  obtain ⟨rfl, rfl⟩ := hcut
  generalize roomP room = rm at *
  clear hr0 hr1
  go_upto_block 0 with (first
    | (go_at_call 9; (with_reducible refine (new_calls rm w).mono ?_); rintro x w1 ⟨rfl, h1, hb1⟩; have H1 := Aside0.mk h1; have HB1 := Aside0.mk hb1; clear h1 hb1)
    | (go_at_call 21; (with_reducible refine (rnew_calls rm w1).mono ?_); rintro x w' ⟨rfl, hw'⟩; have hw2 := hw'.symm; clear hw'; subst hw2))
  have HN := Aside0.mk (show Next (fun k => k < w.heap.size) w (w1.alloc (.cells #[.int .i64 (max rm 0), .slice none 0 0, .int .i64 (-1), .bool false] 64)) (w.heap.size + 1) w.heap.size w1.heap.size 0 from
    ⟨PFrame.of (below_more HB1.out (below_alloc (Below.refl _ _) _)), _, _, pair_new H1.out HB1.out, like_new HR0.out HR1.out, by show 0 ≤ 0; omega⟩)
  generalize w1.alloc (.cells #[.int .i64 (max rm 0), .slice none 0 0, .int .i64 (-1), .bool false] 64) = w2 at *
  generalize w1.heap.size = gr at *
  clear H1 HB1
  go_cut [] (fun w' => ∃ n, Next (fun k => k < w.heap.size) w w' (w.heap.size + 1) w.heap.size gr n)
  case first =>
    go_wp2
    go_loopw [7] (fun i wr => ∃ j : Nat, j ≤ 40 ∧ i = .int .i64 j ∧ Next (fun k => k < w.heap.size) w wr (w.heap.size + 1) w.heap.size gr j) (fun i _ => 40 - (intOf i).toNat)
    case atStart => exact ⟨0, by omega, rfl, HN.out⟩
    case round =>
      obtain ⟨j, hj, rfl, hat⟩ := hrel
      have HA := Aside0.mk hat
      have hfr := next_frame hat
      have hbel : Below w.heap.size w _ := PFrame.below hfr (fun k hk => hk) (Nat.le_refl _)
      clear hat
      by_cases hlt : j < S.length
      · by_cases hl6 : j < 40
        · have hl6' : (j : Int) < 40 := by omega
          obtain ⟨ad, A3, c3, A5, c5, eA, q0, q1, q2, q3, q4, q5, l3, g3, l5, g5⟩ := at_Ask HC.out j hlt
          have hax := rdAsk_ok HS.out hlt
          cases eA
          replace q0 := pw_cell_below hbel q0
          replace q1 := pw_cell_below hbel q1
          replace q2 := pw_cell_below hbel q2
          replace q3 := pw_cell_below hbel q3
          replace q4 := pw_cell_below hbel q4
          replace q5 := pw_cell_below hbel q5
          have HAx := Aside0.mk (asks_next HA.out (by omega) (rdAsk S j) hax A3 c3 l3 (Kd.C_below g3 hbel) (fun h0 ad e => C_lt g3 h0 ad e) A5 c5 (Kd.C_below g5 hbel) (fun h0 ad e => C_lt g5 h0 ad e))
          clear g3 g5 l3 l5 hbel hax hfr
          generalize (rdAsk S j).kind = kind at *
          generalize (rdAsk S j).name = nm at *
          generalize (rdAsk S j).dest = dst at *
          generalize (rdAsk S j).bytes.length = bl0 at *
          generalize (rdAsk S j).n = an at *
          generalize (rdAsk S j).keep.length = kl at *
          go_wp2_with (first
            | (go_at_call 22; (with_reducible refine (HAx.out).mono ?_); rintro x w6 ⟨rfl, h6⟩; have H6 := Aside0.mk h6; clear h6)
            | (go_at_call 23; (with_reducible refine (like_next H6.out (by omega)).mono ?_); rintro x w7 ⟨rfl, h7⟩; have H7 := Aside0.mk h7; clear h7))
          go_roundw
          case rel => exact ⟨j + 1, by omega, by go_num, H7.out⟩
          case measure => simp [intOf]; omega
        · have hl6' : ¬ (j : Int) < 40 := by omega
          obtain rfl : j = 40 := by omega
          go_wp2
          go_meet
          exact ⟨_, HA.out⟩
      · go_wp2
        go_meet
        exact ⟨_, HA.out⟩
  case rest =>
    obtain ⟨n, hn⟩ := hcut
    have HF := Aside0.mk (next_frame hn)
    clear hn
    go_wp2_with (go_at_call 15; (with_reducible refine (lives_calls _).mono ?_); rintro x w11 ⟨rfl, hb11⟩)
    go_ret
    exact ⟨rfl, below_more (PFrame.below HF.out (fun k hk => hk) (Nat.le_refl _)) hb11⟩
end Go.Proofs.Ytbndgnbhmifefaa
