/- The law DiskOwns comes to true for every text. Conditions: the text reads so. -/
import Derived.Test.YtbndgnbhmifefaaDkArms
import Derived.Lib.ConvBytes
namespace Go.Proofs.Ytbndgnbhmifefaa
open Go.RowKit Go.Proofs.YtbndgnbhmifefaaW.PrintWords Go.Proofs.YtbndgnbhmifefaaW.PrintMore
set_option linter.unusedVariables false
set_option linter.unusedSimpArgs false
theorem few_calls (A : Option Addr) (c : Nat) (l : List Int) (w : World) (hc : l.length ≤ c) :
    Calls Try.prog 10 #[.slice A l.length c] w fun x w' => x = .returned (.slice A (l.take 30).length c) ∧ w' = w := by
  by_cases h : l.length ≤ 30
  · rw [List.length_take, Nat.min_eq_right h]
    exact few_short A _ c w h
  · rw [List.length_take, Nat.min_eq_left (by omega)]
    exact few_long A _ c w (by omega) hc
def nums (s : ByteArray) : List Int := s.data.toList.map (fun b => (b.toNat : Int))
theorem nums_length (s : ByteArray) : (nums s).length = s.size := by unfold nums; rw [List.length_map, Array.length_toList]; rfl
theorem str_size (l : List Int) : (strOfNums l).size = l.length := by
  show (strOfNums l).data.size = _
  simp [strOfNums]
theorem conv_new (w : World) (s : ByteArray) : (convert 9 22 (.string s)).run Try.prog w = .ok (.slice (some ⟨w.heap.size, 0, none⟩) (nums s).length (grownCap w s.size 0 5)) (Lib.bytesWorld w 5 s) := by
  rw [Lib.run_convert_string_bytes w _ _ _ s Try.underlying9 Try.underlying22 Try.underlying5, nums_length]
theorem C_new (w : World) (s : ByteArray) (hs : s.size ≤ 9223372036854775807) : Kd.C kByt (Lib.bytesWorld w 5 s) (some ⟨w.heap.size, 0, none⟩) (nums s).length (nums s) :=
  Kd.C_of_reads (enc := Value.int .u8) (d := (0 : Int)) (h1 := fun _ => rfl) ⟨rfl, by rw [nums_length]; exact hs, fun _ => ⟨_, rfl, fun j hj => by
    rw [nums_length] at hj
    rw [add_plain, Lib.bytesWorld_cell w _ s j hj]
    have hj' : j < s.data.toList.length := by rw [Array.length_toList]; exact hj
    simp [nums, List.getD_eq_getElem?_getD, List.getElem?_eq_getElem hj']⟩⟩
theorem below_new (w : World) (s : ByteArray) : Below w.heap.size w (Lib.bytesWorld w 5 s) :=
  ⟨by unfold Lib.bytesWorld World.freeze; rw [if_neg (by decide)]; rfl, by unfold Lib.bytesWorld World.freeze; rw [if_neg (by decide)]; rfl, by unfold Lib.bytesWorld World.freeze; rw [if_neg (by decide)]; rfl, by rw [Lib.bytesWorld_size]; omega, fun k hk => Lib.bytesWorld_at_old w _ s k hk⟩
theorem One.kept {O O' : Nat → Prop} {w0 w w' : World} {g M : Nat} {room armed : Int} {down : Bool} {s : ByteArray} {bs : List Int} {kept : Nat} (h : One O w0 w g M room armed down s bs kept) (hk : ∀ k, O k → k < w.heap.size → w'.heap[k]? = w.heap[k]?) (ho : ∀ k, O k → k < w.heap.size → O' k) (hB : ∀ k, w'.heap.size ≤ k → O' k) (hle : w.heap.size ≤ w'.heap.size) : One O' w' w' g M room armed down s bs kept :=
  ⟨hB, DFrame.refl _ _, by
    obtain ⟨e, h1, h2, h3⟩ := h.rep
    refine ⟨e, h1, h2, ?_⟩
    exact (DRep.kept (h3.mono (O' := fun k => O k ∧ k < w.heap.size) (fun k hk hlt => ⟨hk, hlt⟩)) (fun k h1 h2 => hk k h1.1 h2)).mono (fun k h1 _ => ho k h1.1 h1.2)⟩
theorem C_few {w : World} {A : Option Addr} {l : List Int} (h : Kd.C kByt w A l.length l) : Kd.C kByt w A (l.take 30).length (l.take 30) := by
  by_cases hl : 30 ≤ l.length
  · exact Kd.C_take h hl
  · rw [List.take_of_length_le (by omega)]; exact h
theorem heap_setCell_any (w : World) (g i : Nat) (cs : Array Value) (t : TypeId) (fz : Nat × Nat) (v : Value) (hg : w.heap[g]? = some (.cells cs t fz)) :
    (w.setCell ⟨g, i, none⟩ v).heap[g]? = some (.cells (cs.setIfInBounds i v) t fz) := by
  rw [setCell_eq_setRow w g i cs t fz v hg]
  exact setRow_heap w g cs _ t _ hg
theorem frozen_under (w : World) (g j n m : Nat) (cs : Array Value) (t : TypeId) (hg : w.heap[g]? = some (.cells cs t (n, m))) (hj : j < n) : w.frozen? ⟨g, j, none⟩ = false := by
  simp [World.frozen?, hg]; omega
/-- a row of bytes, of n cells at least, that may be written -/
def Bytes8 (w : World) (b n : Nat) : Prop := ∃ (cur : Array Value) (fz : Nat × Nat), w.heap[b]? = some (.cells cur 5 fz) ∧ (fz = (0, 0) ∨ n ≤ fz.1) ∧ ∀ j, j < n → ∃ v : Int, cur[j]? = some (.int .u8 v)
theorem Bytes8.cell {w : World} {b n : Nat} (h : Bytes8 w b n) (j : Nat) (hj : j < n) : ∃ v : Int, w.cell? ⟨b, j, none⟩ = some (.int .u8 v) := by
  obtain ⟨cur, fz, h1, _, h3⟩ := h
  obtain ⟨v, hv⟩ := h3 j hj
  exact ⟨v, by rw [cell_of_row w b j _ _ _ h1, hv]⟩
theorem Bytes8.free {w : World} {b n : Nat} (h : Bytes8 w b n) (j : Nat) (hj : j < n) : w.frozen? ⟨b, j, none⟩ = false := by
  obtain ⟨cur, ⟨f1, f2⟩, h1, h2, _⟩ := h
  rcases h2 with h2 | h2
  · cases h2
    exact frozen_of_row w b j _ _ h1
  · exact frozen_under w b j _ _ _ _ h1 (Nat.lt_of_lt_of_le hj h2)
theorem Bytes8.set {w : World} {b n : Nat} (h : Bytes8 w b n) (j : Nat) (v : Int) : Bytes8 (w.setCell ⟨b, j, none⟩ (.int .u8 v)) b n := by
  obtain ⟨cur, fz, h1, h2, h3⟩ := h
  refine ⟨_, fz, heap_setCell_any w b j _ _ _ _ h1, h2, fun k hk => ?_⟩
  obtain ⟨u, hu⟩ := h3 k hk
  by_cases hjk : j = k
  · subst hjk
    exact ⟨v, by rw [Array.getElem?_setIfInBounds_self]; simp [(Array.getElem?_eq_some_iff.1 hu).1]⟩
  · exact ⟨u, by rw [Array.getElem?_setIfInBounds_ne hjk]; exact hu⟩
theorem Bytes8.move {w w' : World} {b n : Nat} (h : Bytes8 w b n) (hb : w'.heap[b]? = w.heap[b]?) : Bytes8 w' b n := by
  obtain ⟨cur, fz, h1, h2⟩ := h
  exact ⟨cur, fz, hb.trans h1, h2⟩
theorem Bytes8.lt {w : World} {b n : Nat} (h : Bytes8 w b n) : b < w.heap.size := by
  obtain ⟨cur, fz, h1, _⟩ := h
  exact (Array.getElem?_eq_some_iff.1 h1).1
theorem Bytes8.new (w : World) (s : ByteArray) : Bytes8 (Lib.bytesWorld w 5 s) w.heap.size (nums s).length := by
  refine ⟨_, _, Lib.bytesWorld_at_new w _ s, .inr ?_, fun j hj => ?_⟩
  · rw [nums_length]
    show s.size ≤ (Lib.bytesCells w 5 s).size
    simp only [Lib.bytesCells, Array.size_append, Array.size_map]
    exact Nat.le_add_right _ _
  · rw [nums_length] at hj
    have := Lib.bytesWorld_cell w 5 s j hj
    rw [cell_of_row _ _ j _ _ _ (Lib.bytesWorld_at_new w _ s)] at this
    exact ⟨_, this⟩
theorem Bytes8.ofR {w : World} {base : Nat} {ok : Nat → Prop} {v : Value} {l : List Int} (hR : Kd.R (Kd.int .u8) 5 w base ok v l) (hl : 1 ≤ l.length) : ∃ g c, v = .slice (some ⟨g, 0, none⟩) l.length c ∧ base ≤ g ∧ Bytes8 w g l.length := by
  have ho := Kd.own_of_R hR
  rcases ho.2 with ⟨_, h0⟩ | ⟨g, cap, cur, rfl, hg, hgg, _, _, _, ht⟩
  · omega
  · refine ⟨g, cap, rfl, hg, cur, (0, 0), hgg, .inl rfl, fun j hj => ?_⟩
    have hc := ho.cells (g := g) rfl j (.int .u8 (l.getD j 0)) (by simp [encs, List.getD_eq_getElem?_getD, List.getElem?_eq_getElem hj])
    rw [add_plain, cell_of_row w g j _ _ _ hgg] at hc
    exact ⟨_, hc⟩
/-- where the law stands: the disk has the bytes, the slice at b may be written -/
def OwnAt (w wr : World) (b n : Nat) (bs : List Int) : Prop :=
  Below w.heap.size w wr ∧ w.heap.size ≤ b ∧ Bytes8 wr b n ∧ One (fun k => w.heap.size ≤ k ∧ k ≠ b) wr wr (w.heap.size + 1) w.heap.size 100 (-1) false ⟨#[97]⟩ bs 0
theorem OwnAt.one {w wr : World} {b n : Nat} {bs : List Int} (h : OwnAt w wr b n bs) : One (fun k => w.heap.size ≤ k ∧ k ≠ b) wr wr (w.heap.size + 1) w.heap.size 100 (-1) false ⟨#[97]⟩ bs 0 := h.2.2.2
theorem OwnAt.bel {w wr : World} {b n : Nat} {bs : List Int} (h : OwnAt w wr b n bs) : Below w.heap.size w wr := h.1
theorem OwnAt.set {w wr : World} {b n : Nat} {bs : List Int} (h : OwnAt w wr b n bs) (j : Nat) (v : Int) : OwnAt w (wr.setCell ⟨b, j, none⟩ (.int .u8 v)) b n bs := by
  have hsz : (wr.setCell ⟨b, j, none⟩ (.int .u8 v)).heap.size = wr.heap.size := by simp [World.setCell]
  refine ⟨h.1.trans ((DFrame.of (Below.refl _ _)).set (O := fun k => k = b) _ _ rfl |>.below (fun k hk => by rw [hk]; exact h.2.1) h.1.size), h.2.1, h.2.2.1.set j v, ?_⟩
  exact h.2.2.2.kept (fun k hk _ => heap_setCell_other _ _ _ _ (by simp only; exact hk.2)) (fun k hk _ => hk) (fun k hk => h.2.2.2.hB k (by omega)) (by omega)
theorem C_move {w w' : World} (s : ByteArray) (bs : List Int) (hbs : nums s = bs) (hl : bs.length ≤ 9223372036854775807) (hb : w'.heap[w.heap.size]? = (Lib.bytesWorld w 5 s).heap[w.heap.size]?) : Kd.C kByt w' (some ⟨w.heap.size, 0, none⟩) bs.length bs := by
  subst hbs
  refine Kd.C_of_reads (enc := Value.int .u8) (d := (0 : Int)) (h1 := fun _ => rfl) ⟨rfl, hl, fun _ => ⟨_, rfl, fun j hj => ?_⟩⟩
  rw [nums_length] at hj
  have h1 := Lib.bytesWorld_cell w 5 s j hj
  have hj' : j < s.data.toList.length := by rw [Array.length_toList]; exact hj
  rw [add_plain]
  unfold World.cell? at h1 ⊢
  simp only [hb]
  rw [h1]
  simp [nums, List.getD_eq_getElem?_getD, List.getElem?_eq_getElem hj']
theorem not_own (B b : Nat) : ¬ (fun k => B ≤ k ∧ k ≠ b) b := fun h => h.2 rfl
theorem own_len (l : List Int) : 1 ≤ (nums (strOfNums (l.take 30) ++ ⟨#[120]⟩)).length ∧ (nums (strOfNums (l.take 30) ++ ⟨#[120]⟩)).length ≤ 31 := by
  rw [nums_length]
  have h1 : (strOfNums (l.take 30) ++ ⟨#[120]⟩).size = (strOfNums (l.take 30)).size + 1 := by rw [ByteArray.size_append]; rfl
  rw [h1, str_size, List.length_take]
  omega
set_option maxRecDepth 100000 in
set_option maxHeartbeats 8000000 in
theorem owns_any (w : World) (A : Option Addr) (c : Nat) (l : List Int) (hC : Kd.C (Kd.int .u8) w A l.length l) (hc : l.length ≤ c) :
    Calls Try.prog 3 #[.slice A l.length c] w fun x w' => x = .returned (.bool true) ∧ Below w.heap.size w w' := by
  obtain ⟨hn1, hn2⟩ := own_len l
  have hcv := conv_new
  have HC := Aside0.mk hC
  have hadd : ∀ s : ByteArray, s.size ≤ 30 → ∀ W : World, (Op.stringOp .add s ⟨#[120]⟩).run Try.prog W = .ok (.string (s ++ ⟨#[120]⟩)) W := fun s hs W => run_string_add_sum W s ⟨#[120]⟩ (by have : (⟨#[120]⟩ : ByteArray).size = 1 := rfl; omega)
  have hadd0 := hadd (strOfNums (l.take 30)) (by rw [str_size, List.length_take]; omega)
  clear hadd hC
  generalize hs0 : strOfNums (l.take 30) ++ ⟨#[120]⟩ = s0 at *
  have hst : ∀ W, Below w.heap.size w W → (convert 22 9 (.slice A (min 30 l.length) c)).run Try.prog W = .ok (.string (strOfNums (l.take 30))) W := fun W hb => str_run W A _ c _ (by rw [List.length_take]) (C_few (Kd.C_below HC.out hb))
  have HST := Aside0.mk hst
  clear hst
  generalize hbs : nums s0 = bs at *
  go_enter Try.func3, Try.ntmps3
  go_upto_block 0 with (first
    | (go_at_call 9; (with_reducible refine (new_calls 100 w).mono ?_); rintro x w1 ⟨rfl, h1, hb1⟩; have H1 := Aside0.mk (show DRep (fun k => w.heap.size ≤ k) w1 (w.heap.size + 1) w.heap.size 100 (-1) false [] from h1); have HB1 := Aside0.mk hb1; have hst := HST.out w1 hb1; have hbk := str_run (Lib.bytesWorld w1 5 s0) (some ⟨w1.heap.size, 0, none⟩) bs.length (grownCap w1 s0.size 0 5) bs rfl (by have := C_new w1 s0 (by rw [← nums_length, hbs]; omega); rwa [hbs] at this); clear h1 hb1)
    | (go_at_call 10; (with_reducible refine (few_calls A c l _ hc).mono ?_); rintro x w2 ⟨rfl, hw2⟩; have hw3 := hw2.symm; clear hw2; subst hw3)
    | (go_at_call 11; (with_reducible refine (create_first (O := fun k => w.heap.size ≤ k ∧ k ≠ w1.heap.size) (w0 := Lib.bytesWorld w1 5 s0) good_a _ ((H1.out.mono (fun k hk hlt => ⟨hk, by omega⟩)).below (below_new w1 s0)) (fun k hk => by rw [Lib.bytesWorld_size] at hk; have := HB1.out.size; omega) (DFrame.refl _ _) (by decide)).mono ?_); rintro x w3 ⟨rfl, h3⟩; have H3 := Aside0.mk h3; clear h3)
    | (go_at_call 12; (with_reducible refine (app_one good_a (some ⟨w1.heap.size, 0, none⟩) bs.length (grownCap w1 s0.size 0 5) bs _ H3.out rfl (C_move s0 bs hbs (by omega) (H3.out.frame.block w1.heap.size (by rw [Lib.bytesWorld_size]; omega) (not_own _ _))) (Nat.le_trans (Nat.le_of_eq (by rw [← hbs, nums_length])) (grownCap_ge w1 s0.size 0 5)) (by simp; omega) (by decide) (by decide)).mono ?_); rintro x w4 ⟨rfl, h4⟩; have H4 := Aside0.mk (show One (fun k => w.heap.size ≤ k ∧ k ≠ w1.heap.size) (Lib.bytesWorld w1 5 s0) w4 (w.heap.size + 1) w.heap.size 100 (-1) false ⟨#[97]⟩ bs 0 from h4); clear h4))
  go_wp2
  have HOwn : OwnAt w w4 w1.heap.size bs.length bs := ⟨(HB1.out.trans ((below_new w1 s0).mono HB1.out.size)).trans (H4.out.frame.below (fun k hk => hk.1) (by rw [Lib.bytesWorld_size]; have := HB1.out.size; omega)), HB1.out.size, (hbs ▸ Bytes8.new w1 s0).move (H4.out.frame.block w1.heap.size (by rw [Lib.bytesWorld_size]; omega) (not_own _ _)), H4.out.kept (fun _ _ _ => rfl) (fun _ h _ => h) H4.out.hB (Nat.le_refl _)⟩
  generalize w1.heap.size = ob at *
  generalize grownCap w1 s0.size 0 5 = oc at *
  go_loopw [6] (fun i wr => ∃ k : Nat, k ≤ bs.length ∧ i = .int .i64 k ∧ OwnAt w wr ob bs.length bs) (fun i _ => bs.length - (intOf i).toNat)
  case atStart => exact ⟨0, by omega, rfl, HOwn⟩
  case round =>
    obtain ⟨k, hk, rfl, hat⟩ := hrel
    by_cases hgo : k < bs.length
    · obtain ⟨v, hv⟩ := hat.2.2.1.cell k hgo
      have hfr := hat.2.2.1.free k hgo
      have hgo' : (k : Int) < bs.length := by omega
      have HA := Aside0.mk hat
      clear hat
      go_wp2
      go_roundw
      case rel => exact ⟨k + 1, by omega, by go_num, HA.out.set k _⟩
      case measure => simp [intOf]; omega
    · obtain rfl : k = bs.length := by omega
      have HA := Aside0.mk hat
      clear hat
      go_upto_block 2 with (go_at_call 13; (with_reducible refine (read_one good_a _ HA.out.one (by omega)).mono ?_); rintro x w5 ⟨h5, v5, base5, hb5, rfl, hR5, hbl5⟩; obtain ⟨xb, xc, rfl, hxb, hB8⟩ := Bytes8.ofR hR5 hn1; have HX := Aside0.mk (show OwnAt w w5 xb bs.length bs from ⟨below_more HA.out.bel hbl5, by have := HA.out.bel.size; omega, hB8, HA.out.one.kept (fun k _ hlt => hbl5.block k hlt) (fun k hk hlt => ⟨hk.1, by omega⟩) (fun k hk => ⟨by have := HA.out.bel.size; have := hbl5.size; omega, by have := hB8.lt; omega⟩) hbl5.size⟩); clear h5 hR5 hB8)
      go_wp2
      go_loopw [9] (fun i wr => ∃ k : Nat, k ≤ bs.length ∧ i = .int .i64 k ∧ OwnAt w wr xb bs.length bs) (fun i _ => bs.length - (intOf i).toNat)
      case atStart => exact ⟨0, by omega, rfl, HX.out⟩
      case round =>
        obtain ⟨k, hk, rfl, hat⟩ := hrel
        by_cases hgo : k < bs.length
        · obtain ⟨v, hv⟩ := hat.2.2.1.cell k hgo
          have hfr := hat.2.2.1.free k hgo
          have hgo' : (k : Int) < bs.length := by omega
          have HA := Aside0.mk hat
          clear hat
          go_wp2
          go_roundw
          case rel => exact ⟨k + 1, by omega, by go_num, HA.out.set k _⟩
          case measure => simp [intOf]; omega
        · obtain rfl : k = bs.length := by omega
          have HA := Aside0.mk hat
          clear hat
          have hlen : (strOfNums bs).size = bs.length := str_size bs
          have hw : IntKind.i64.wrap (100 - (bs.length : Int)) = 100 - (bs.length : Int) := by rw [IntKind.wrap_i64]; omega
          go_wp2_with (first
            | (go_at_call 13; (with_reducible refine (read_one good_a _ HA.out.one (by omega)).mono ?_); rintro x w6 ⟨h6, v6, base6, hb6, rfl, hR6, hbl6⟩; obtain ⟨A6, c6, rfl⟩ := Kd.R_slice hR6; have hstr := str_run w6 A6 bs.length c6 bs rfl (Kd.F_now (Kd.R_F hR6)); have H6 := Aside0.mk h6; have HB6 := Aside0.mk (below_more HA.out.bel hbl6); clear h6 hR6 hbl6)
            | (go_at_call 14; (with_reducible refine (free_one _ _ H6.out (by decide) (by decide) (by omega)).mono ?_); rintro x w7 ⟨rfl, h7⟩; have H7 := Aside0.mk h7; clear h7)
            | (go_at_call 15; (with_reducible refine (lives_calls _).mono ?_); rintro x w9 ⟨rfl, hb9⟩))
          go_ret
          exact ⟨rfl, below_more (HA.out.bel.trans (H7.out.frame.below (fun k hk => hk.1) HA.out.bel.size)) hb9⟩
theorem owns_row (w : World) (A : Option Addr) (c : Nat) (l : List Int) (hC : Kd.C (Kd.int .u8) w A l.length l) (hc : l.length ≤ c) {p : Prop} (hp : p) :
    Calls Try.prog 3 #[.slice A l.length c] w fun x w' => x = .returned (.bool true) ∧ Below w.heap.size w w' := owns_any w A c l hC hc
end Go.Proofs.Ytbndgnbhmifefaa
