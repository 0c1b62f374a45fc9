/- The law's asks, kind by kind: the two tell the same and are alike behind it. Printed by gen_asks.py. -/
import Derived.Test.YtbndgnbhmifefaaPlA
import Derived.Test.YtbndgnbhmifefaaDkDown
namespace Go.Proofs.Ytbndgnbhmifefaa
open Go.RowKit Go.Proofs.YtbndgnbhmifefaaW.PrintWords Go.Proofs.YtbndgnbhmifefaaW.PrintMore
set_option linter.unusedVariables false
set_option linter.unusedSimpArgs false
variable {P : Nat → Prop} {gd M gr : Nat} {d : DS} {r : RS}
theorem nums_str {l : List Int} (h : bytesOk l) : nums (strOfNums l) = l := by
  unfold nums strOfNums
  rw [List.map_map]
  have : ∀ a ∈ l, ((fun b : UInt8 => (b.toNat : Int)) ∘ (fun n : Int => UInt8.ofNat n.toNat)) a = a := by
    intro a ha
    have h1 := h.1 a ha
    have h2 : IntKind.u8.min ≤ a ∧ a ≤ IntKind.u8.max := by simpa [Lit.wf] using h1
    have h3 : IntKind.u8.min = 0 := by decide
    have h4 : IntKind.u8.max = 255 := by decide
    rw [h3, h4] at h2
    show (((UInt8.ofNat a.toNat).toNat : Nat) : Int) = a
    have h5 : (UInt8.ofNat a.toNat).toNat = a.toNat % 256 := rfl
    omega
  rw [List.map_congr_left this]
  simp
theorem bytesOk_take {l : List Int} (h : bytesOk l) (n : Nat) : bytesOk (l.take n) := ⟨fun a ha => h.1 a (List.mem_of_mem_take ha), by have := h.2; rw [List.length_take]; omega⟩
theorem C_fifty {w : World} {A : Option Addr} {l : List Int} (h : Kd.C kByt w A l.length l) : Kd.C kByt w A (l.take 50).length (l.take 50) := by
  by_cases hl : 50 ≤ l.length
  · exact Kd.C_take h hl
  · rw [List.take_of_length_le (by omega)]; exact h
/-- where an ask is called: its cells are boxed -/
structure AskW (P : Nat → Prop) (w : World) (gd M gr : Nat) (d : DS) (r : RS) (cs : Array Value) (w5 : World) : Prop where
  frame : PFrame P w w5
  pair : Pair (fun k => P k ∨ k = w.heap.size) w5 gd M gr d r
  box : w5.heap[w.heap.size]? = some (.cells cs 47 (0, 0))
theorem AskW.mk0 {w : World} (h : Pair P w gd M gr d r) (cs : Array Value) : AskW P w gd M gr d r cs (w.alloc (.cells cs 47)) := by
  have hb := below_alloc (Below.refl w.heap.size w) (.cells cs 47)
  refine ⟨PFrame.of hb, (h.grow hb).less ?_, heap_alloc_new _ _⟩
  rintro k (hk | rfl)
  · exact .inl hk
  · exact .inr ⟨Nat.le_refl _, by simp⟩
def CutA (P : Nat → Prop) (w : World) (gd M gr : Nat) (d : DS) (r : RS) (cs : Array Value) (A3 : Option Addr) (m c3 : Nat) (v : Value) (w' : World) : Prop := v = .slice A3 m c3 ∧ ∃ w5, w5 = w' ∧ AskW P w gd M gr d r cs w5
theorem CutA.mk0 {w : World} (h : Pair P w gd M gr d r) (cs : Array Value) (A3 : Option Addr) (m c3 : Nat) : CutA P w gd M gr d r cs A3 m c3 (.slice A3 m c3) (w.alloc (.cells cs 47)) := ⟨rfl, _, rfl, AskW.mk0 h cs⟩
theorem Next.back {w w5 w' : World} {b n : Nat} (hf : PFrame P w w5) (h : Next (fun k => P k ∨ k = b) w5 w' gd M gr n) : Next P w w' gd M gr n := by
  obtain ⟨h1, d, r, h2, h3, h4⟩ := h
  exact ⟨hf.trans (h1.less (fun k hk => .inl hk)), d, r, h2.less (fun k hk => .inl hk), h3, h4⟩
theorem Next.more {w w5 : World} {n m : Nat} (h : Next P w w5 gd M gr n) (hm : n ≤ m) : Next P w w5 gd M gr m := by
  obtain ⟨h1, d, r, h2, h3, h4⟩ := h
  exact ⟨h1, d, r, h2, h3, by omega⟩
theorem Next.from {w w5 w' : World} {n : Nat} (hf : PFrame P w w5) (h : Next P w5 w' gd M gr n) : Next P w w' gd M gr n := by
  obtain ⟨h1, d, r, h2⟩ := h
  exact ⟨hf.trans h1, d, r, h2⟩
theorem frame_cells {w w' : World} {b : Nat} {cs : Array Value} (h : PFrame P w w') (hP : P b) (hb : w.heap[b]? = some (.cells cs 47 (0, 0))) : w'.heap[b]? = some (.cells cs 47 (0, 0)) :=
  (h.at hP (Array.getElem?_eq_some_iff.1 hb).1).trans hb
/-- what is told by the disk, and what the reference tells behind it -/
structure Two (P : Nat → Prop) (w5 : World) (gd M gr n : Nat) (f g : FuncId) (a1 a2 : Array Value) : Prop where
  ex : ∃ (N : Int) (Mid : World → Prop), (∀ W, Below w5.heap.size w5 W → Calls Try.prog f a1 W fun x w' => x = .returned (.int .i64 N) ∧ Mid w' ∧ PFrame P W w') ∧ (∀ W W', Mid W → Below W.heap.size W W' → Calls Try.prog g a2 W' fun x w' => x = .returned (.int .i64 N) ∧ Next P W' w' gd M gr (n + 1))
theorem two_create {w : World} (h : Pair P w gd M gr d r) (hl : Like d r) {n : Nat} (hn : r.L.length ≤ n) (hn' : n ≤ 900) {s : ByteArray} (hs : s.size ≤ 9223372036854775807) :
    Two P w gd M gr n 11 34 #[.pointer (some ⟨gd, 0, none⟩), .string s] #[.pointer (some ⟨gr, 0, none⟩), .int .u8 99, .string s, .string ⟨#[]⟩, .string ⟨#[]⟩] :=
  ⟨_, fun W => Pair P W gd M gr (if mayS d false [s] = 0 then d.goes ((s, ⟨[], 0⟩) :: d.L) else d) r, fun W hb => create_p hs W (h.below hb) (by rw [like_len hl]; omega) (by rw [hl.armed]; exact hl.a1),
    fun W W' hm hb => (do_c_p hs W' hl (by omega) (Pair.below hm hb)).mono fun x w' hh => ⟨hh.1, hh.2.more (by omega)⟩⟩
theorem two_sync {w : World} (h : Pair P w gd M gr d r) (hl : Like d r) {n : Nat} (hn : r.L.length ≤ n) (hn' : n ≤ 900) {s : ByteArray} (hs : s.size ≤ 9223372036854775807) :
    Two P w gd M gr n 16 34 #[.pointer (some ⟨gd, 0, none⟩), .string s] #[.pointer (some ⟨gr, 0, none⟩), .int .u8 115, .string s, .string ⟨#[]⟩, .string ⟨#[]⟩] :=
  ⟨_, fun W => Pair P W gd M gr (if mayS d true [s] = 0 then d.goes (updL d.L s ⟨(getL d.L s).bytes, (getL d.L s).bytes.length⟩) else d) r, fun W hb => sync_p hs W (h.below hb) (by rw [hl.armed]; exact hl.a1),
    fun W W' hm hb => (do_s_p hs W' hl (by omega) (Pair.below hm hb)).mono fun x w' hh => ⟨hh.1, hh.2.more (by omega)⟩⟩
theorem two_remove {w : World} (h : Pair P w gd M gr d r) (hl : Like d r) {n : Nat} (hn : r.L.length ≤ n) (hn' : n ≤ 900) {s : ByteArray} (hs : s.size ≤ 9223372036854775807) :
    Two P w gd M gr n 24 34 #[.pointer (some ⟨gd, 0, none⟩), .string s] #[.pointer (some ⟨gr, 0, none⟩), .int .u8 114, .string s, .string ⟨#[]⟩, .string ⟨#[]⟩] :=
  ⟨_, fun W => Pair P W gd M gr (if mayS d true [s] = 0 then d.goes (delL d.L s) else d) r, fun W hb => remove_p hs W (h.below hb) (by rw [hl.armed]; exact hl.a1),
    fun W W' hm hb => (do_r_p hs W' hl (by omega) (Pair.below hm hb)).mono fun x w' hh => ⟨hh.1, hh.2.more (by omega)⟩⟩
theorem two_rename {w : World} (h : Pair P w gd M gr d r) (hl : Like d r) {n : Nat} (hn : r.L.length ≤ n) (hn' : n ≤ 900) {s t : ByteArray} (hs : s.size ≤ 9223372036854775807) (ht : t.size ≤ 9223372036854775807) :
    Two P w gd M gr n 20 34 #[.pointer (some ⟨gd, 0, none⟩), .string s, .string t] #[.pointer (some ⟨gr, 0, none⟩), .int .u8 110, .string s, .string t, .string ⟨#[]⟩] :=
  ⟨_, fun W => Pair P W gd M gr (if mayS d true [s, t] = 0 then d.goes ((t, getL d.L s) :: delL (delL d.L s) t) else d) r, fun W hb => rename_p hs ht W (h.below hb) (by rw [like_len hl]; omega) (by rw [hl.armed]; exact hl.a1),
    fun W W' hm hb => (do_n_p hs ht W' hl (by omega) (Pair.below hm hb)).mono fun x w' hh => ⟨hh.1, hh.2.more (by omega)⟩⟩
theorem two_append {w : World} (h : Pair P w gd M gr d r) (hl : Like d r) {n : Nat} (hn : r.L.length ≤ n) (hn' : n ≤ 900) {s : ByteArray} (hs : s.size ≤ 9223372036854775807) {A : Option Addr} {bs : List Int} {c : Nat} (hC : Kd.C kByt w A bs.length bs) (hc : bs.length ≤ c) (hb : bytesOk bs) (hbl : bs.length ≤ 1000) :
    Two P w gd M gr n 12 34 #[.pointer (some ⟨gd, 0, none⟩), .string s, .slice A bs.length c] #[.pointer (some ⟨gr, 0, none⟩), .int .u8 97, .string s, .string ⟨#[]⟩, .string (strOfNums bs)] :=
  ⟨_, fun W => Pair P W gd M gr (appS d s bs) r, fun W hB => app_p hs A bs.length c bs W (h.below hB) rfl (Kd.C_below hC hB) hc (by omega) (by rw [hl.room]; exact hl.r0) (by rw [hl.room]; exact hl.r1) (by rw [like_total hl]; exact bytes_le hl) (by rw [hl.armed]; exact hl.a1),
    fun W W' hm hB => (do_a_p (b := strOfNums bs) hs (by rw [str_size]; omega) W' hl (by omega) (by rw [nums_str hb]; exact Pair.below hm hB)).mono fun x w' hh => ⟨by rw [nums_str hb] at hh; exact hh.1, hh.2.more (by omega)⟩⟩
set_option maxRecDepth 100000 in
set_option maxHeartbeats 4000000 in
theorem asks_create (n : Nat) (w : World) (h : Pair P w gd M gr d r) (hl : Like d r) (hn : r.L.length ≤ n) (hn' : n ≤ 900) (an : Int) (nm dst : ByteArray) (hnm : nm.size ≤ 9223372036854775807) (hds : dst.size ≤ 9223372036854775807) (bs : List Int) (A3 : Option Addr) (c3 : Nat) (l3 : bs.length ≤ c3) (g3 : Kd.C kByt w A3 bs.length bs) (b3 : bytesOk bs) (kp : List Int) (A5 : Option Addr) (c5 : Nat) :
    Calls Try.prog 22 #[.pointer (some ⟨gd, 0, none⟩), .pointer (some ⟨gr, 0, none⟩), .agg #[.int .i64 0, .string nm, .string dst, .slice A3 bs.length c3, .int .i64 an, .slice A5 kp.length c5]] w fun e w' => e = .returned (.bool true) ∧ Next P w w' gd M gr (n + 1) := by
  have HA := Aside0.mk (AskW.mk0 h (#[.int .i64 0, .string nm, .string dst, .slice A3 bs.length c3, .int .i64 an, .slice A5 kp.length c5]))
  have hlb : bs.length ≤ 9223372036854775807 := g3.2.1
  have HG := Aside0.mk (C_fifty g3)
  have hcA := CutA.mk0 h (#[.int .i64 0, .string nm, .string dst, .slice A3 bs.length c3, .int .i64 an, .slice A5 kp.length c5]) A3 (bs.take 50).length c3
  have hcut50 : ∀ W : World, (Instr.slice 22 (.slice A3 bs.length c3) none (some (.int .i64 50)) none).run Try.prog W = .ok (.slice A3 50 c3) W ∨ bs.length < 50 := fun W => by
    by_cases hx : 50 ≤ bs.length
    · exact .inl (cut_run A3 bs.length c3 50 (by omega) (by omega) W)
    · exact .inr (by omega)
  have HT := Aside0.mk hcut50
  have HTl := Aside0.mk (List.length_take (i := 50) (l := bs))
  have HCA := Aside0.mk hcA
  clear hcut50 hcA g3
  generalize (bs.take 50).length = m at *
  have HNL := Aside0.mk hn
  have HLK := Aside0.mk hl
  have HP := Aside0.mk h
  clear hn hl h
  go_enter Try.func22, Try.ntmps22
  go_upto_if 16 with fail
  go_cut [7] (fun v w' => CutA P w gd M gr d r (#[.int .i64 0, .string nm, .string dst, .slice A3 bs.length c3, .int .i64 an, .slice A5 kp.length c5]) A3 m c3 v w')
  case first =>
    by_cases hlen : 50 < bs.length
    · have hcut : ∀ W : World, (Instr.slice 22 (.slice A3 bs.length c3) none (some (.int .i64 50)) none).run Try.prog W = .ok (.slice A3 50 c3) W := fun W => (HT.out W).resolve_right (by omega)
      have hd1 : decide ((50 : Int) < (bs.length : Int)) = true := decide_eq_true (by omega)
      have hi : (50 : Int) < (bs.length : Int) := by omega
      have hm : m = 50 := by have := HTl.out; omega
      subst hm
      generalize bs.length = bl at *
      go_wp2_with fail
      go_meet
      case rel => exact HCA.out
    · have hd1 : decide ((50 : Int) < (bs.length : Int)) = false := decide_eq_false (by omega)
      have hi : ¬ (50 : Int) < (bs.length : Int) := by omega
      have hm : bs.length = m := by have := HTl.out; omega
      generalize hbl : bs.length = bl at *
      subst hm
      go_wp2_with fail
      go_meet
      case rel => exact HCA.out
  obtain ⟨rfl, w5, rfl, hw⟩ := hcut
  clear HCA HA HT
  have HW := Aside0.mk hw
  have hbx := hw.box
  clear hw
  obtain ⟨N, Mid, hT1, hT2⟩ := (two_create HW.out.pair HLK.out HNL.out hn' hnm).ex
  have T1 := Aside0.mk hT1
  have T2 := Aside0.mk hT2
  have HS := Aside0.mk (fun (W : World) (hx : W.heap[w.heap.size]? = some (.cells #[.int .i64 0, .string nm, .string dst, .slice A3 bs.length c3, .int .i64 an, .slice A5 kp.length c5] 47 (0, 0))) => (show W.cell? ⟨w.heap.size, 1, none⟩ = some (.string nm) from cell_of_row W _ 1 _ _ _ hx))
  have hS0 := HS.out w5 hbx
  have HB := Aside0.mk hbx
  have q0 : w5.cell? ⟨w.heap.size, 0, none⟩ = some (.int .i64 0) := cell_of_row w5 _ 0 _ _ _ hbx
  clear hT1 hT2 hbx
  go_wp2_with fail
  go_region_held3 (fun W => W.cell? ⟨w.heap.size, 1, none⟩ = some (.string nm))
    (first | assumption | exact hS0 | exact HS6.out | exact HS7.out | go_keep)
    (first
    | (go_at_call 11; (with_reducible refine (T1.out _ ((Below.refl _ _).drew)).mono ?_); rintro x w6 ⟨rfl, h6, hf6⟩; have H6 := Aside0.mk h6; have hx6 := frame_cells hf6 (.inr rfl) (by exact (((Below.refl w5.heap.size w5).drew).block _ (Array.getElem?_eq_some_iff.1 HB.out).1).trans HB.out); have HB6 := Aside0.mk hx6; have HF6 := Aside0.mk ((PFrame.of ((Below.refl w5.heap.size w5).drew)).trans hf6); have HS6 := Aside0.mk (HS.out _ hx6); clear h6 hx6 hf6)
    | (go_at_call 34; (with_reducible refine (T2.out _ _ H6.out (Below.refl _ _)).mono ?_); rintro x w7 ⟨rfl, h7⟩; have H7 := Aside0.mk h7; have HS7 := Aside0.mk (HS.out _ (frame_cells h7.1 (.inr rfl) HB6.out)); clear h7))
  go_wp2_with fail
  go_ret
  exact ⟨by first | rfl | simp, (Next.from HF6.out H7.out).back HW.out.frame⟩
set_option maxRecDepth 100000 in
set_option maxHeartbeats 4000000 in
theorem asks_sync (n : Nat) (w : World) (h : Pair P w gd M gr d r) (hl : Like d r) (hn : r.L.length ≤ n) (hn' : n ≤ 900) (an : Int) (nm dst : ByteArray) (hnm : nm.size ≤ 9223372036854775807) (hds : dst.size ≤ 9223372036854775807) (bs : List Int) (A3 : Option Addr) (c3 : Nat) (l3 : bs.length ≤ c3) (g3 : Kd.C kByt w A3 bs.length bs) (b3 : bytesOk bs) (kp : List Int) (A5 : Option Addr) (c5 : Nat) :
    Calls Try.prog 22 #[.pointer (some ⟨gd, 0, none⟩), .pointer (some ⟨gr, 0, none⟩), .agg #[.int .i64 2, .string nm, .string dst, .slice A3 bs.length c3, .int .i64 an, .slice A5 kp.length c5]] w fun e w' => e = .returned (.bool true) ∧ Next P w w' gd M gr (n + 1) := by
  have HA := Aside0.mk (AskW.mk0 h (#[.int .i64 2, .string nm, .string dst, .slice A3 bs.length c3, .int .i64 an, .slice A5 kp.length c5]))
  have hlb : bs.length ≤ 9223372036854775807 := g3.2.1
  have HG := Aside0.mk (C_fifty g3)
  have hcA := CutA.mk0 h (#[.int .i64 2, .string nm, .string dst, .slice A3 bs.length c3, .int .i64 an, .slice A5 kp.length c5]) A3 (bs.take 50).length c3
  have hcut50 : ∀ W : World, (Instr.slice 22 (.slice A3 bs.length c3) none (some (.int .i64 50)) none).run Try.prog W = .ok (.slice A3 50 c3) W ∨ bs.length < 50 := fun W => by
    by_cases hx : 50 ≤ bs.length
    · exact .inl (cut_run A3 bs.length c3 50 (by omega) (by omega) W)
    · exact .inr (by omega)
  have HT := Aside0.mk hcut50
  have HTl := Aside0.mk (List.length_take (i := 50) (l := bs))
  have HCA := Aside0.mk hcA
  clear hcut50 hcA g3
  generalize (bs.take 50).length = m at *
  have HNL := Aside0.mk hn
  have HLK := Aside0.mk hl
  have HP := Aside0.mk h
  clear hn hl h
  go_enter Try.func22, Try.ntmps22
  go_upto_if 16 with fail
  go_cut [7] (fun v w' => CutA P w gd M gr d r (#[.int .i64 2, .string nm, .string dst, .slice A3 bs.length c3, .int .i64 an, .slice A5 kp.length c5]) A3 m c3 v w')
  case first =>
    by_cases hlen : 50 < bs.length
    · have hcut : ∀ W : World, (Instr.slice 22 (.slice A3 bs.length c3) none (some (.int .i64 50)) none).run Try.prog W = .ok (.slice A3 50 c3) W := fun W => (HT.out W).resolve_right (by omega)
      have hd1 : decide ((50 : Int) < (bs.length : Int)) = true := decide_eq_true (by omega)
      have hi : (50 : Int) < (bs.length : Int) := by omega
      have hm : m = 50 := by have := HTl.out; omega
      subst hm
      generalize bs.length = bl at *
      go_wp2_with fail
      go_meet
      case rel => exact HCA.out
    · have hd1 : decide ((50 : Int) < (bs.length : Int)) = false := decide_eq_false (by omega)
      have hi : ¬ (50 : Int) < (bs.length : Int) := by omega
      have hm : bs.length = m := by have := HTl.out; omega
      generalize hbl : bs.length = bl at *
      subst hm
      go_wp2_with fail
      go_meet
      case rel => exact HCA.out
  obtain ⟨rfl, w5, rfl, hw⟩ := hcut
  clear HCA HA HT
  have HW := Aside0.mk hw
  have hbx := hw.box
  clear hw
  obtain ⟨N, Mid, hT1, hT2⟩ := (two_sync HW.out.pair HLK.out HNL.out hn' hnm).ex
  have T1 := Aside0.mk hT1
  have T2 := Aside0.mk hT2
  have HS := Aside0.mk (fun (W : World) (hx : W.heap[w.heap.size]? = some (.cells #[.int .i64 2, .string nm, .string dst, .slice A3 bs.length c3, .int .i64 an, .slice A5 kp.length c5] 47 (0, 0))) => (show W.cell? ⟨w.heap.size, 1, none⟩ = some (.string nm) from cell_of_row W _ 1 _ _ _ hx))
  have hS0 := HS.out w5 hbx
  have HB := Aside0.mk hbx
  have q0 : w5.cell? ⟨w.heap.size, 0, none⟩ = some (.int .i64 2) := cell_of_row w5 _ 0 _ _ _ hbx
  clear hT1 hT2 hbx
  go_wp2_with fail
  go_region_held3 (fun W => W.cell? ⟨w.heap.size, 1, none⟩ = some (.string nm))
    (first | assumption | exact hS0 | exact HS6.out | exact HS7.out | go_keep)
    (first
    | (go_at_call 16; (with_reducible refine (T1.out _ ((Below.refl _ _).drew)).mono ?_); rintro x w6 ⟨rfl, h6, hf6⟩; have H6 := Aside0.mk h6; have hx6 := frame_cells hf6 (.inr rfl) (by exact (((Below.refl w5.heap.size w5).drew).block _ (Array.getElem?_eq_some_iff.1 HB.out).1).trans HB.out); have HB6 := Aside0.mk hx6; have HF6 := Aside0.mk ((PFrame.of ((Below.refl w5.heap.size w5).drew)).trans hf6); have HS6 := Aside0.mk (HS.out _ hx6); clear h6 hx6 hf6)
    | (go_at_call 34; (with_reducible refine (T2.out _ _ H6.out (Below.refl _ _)).mono ?_); rintro x w7 ⟨rfl, h7⟩; have H7 := Aside0.mk h7; have HS7 := Aside0.mk (HS.out _ (frame_cells h7.1 (.inr rfl) HB6.out)); clear h7))
  go_wp2_with fail
  go_ret
  exact ⟨by first | rfl | simp, (Next.from HF6.out H7.out).back HW.out.frame⟩
set_option maxRecDepth 100000 in
set_option maxHeartbeats 4000000 in
theorem asks_remove (n : Nat) (w : World) (h : Pair P w gd M gr d r) (hl : Like d r) (hn : r.L.length ≤ n) (hn' : n ≤ 900) (an : Int) (nm dst : ByteArray) (hnm : nm.size ≤ 9223372036854775807) (hds : dst.size ≤ 9223372036854775807) (bs : List Int) (A3 : Option Addr) (c3 : Nat) (l3 : bs.length ≤ c3) (g3 : Kd.C kByt w A3 bs.length bs) (b3 : bytesOk bs) (kp : List Int) (A5 : Option Addr) (c5 : Nat) :
    Calls Try.prog 22 #[.pointer (some ⟨gd, 0, none⟩), .pointer (some ⟨gr, 0, none⟩), .agg #[.int .i64 4, .string nm, .string dst, .slice A3 bs.length c3, .int .i64 an, .slice A5 kp.length c5]] w fun e w' => e = .returned (.bool true) ∧ Next P w w' gd M gr (n + 1) := by
  have HA := Aside0.mk (AskW.mk0 h (#[.int .i64 4, .string nm, .string dst, .slice A3 bs.length c3, .int .i64 an, .slice A5 kp.length c5]))
  have hlb : bs.length ≤ 9223372036854775807 := g3.2.1
  have HG := Aside0.mk (C_fifty g3)
  have hcA := CutA.mk0 h (#[.int .i64 4, .string nm, .string dst, .slice A3 bs.length c3, .int .i64 an, .slice A5 kp.length c5]) A3 (bs.take 50).length c3
  have hcut50 : ∀ W : World, (Instr.slice 22 (.slice A3 bs.length c3) none (some (.int .i64 50)) none).run Try.prog W = .ok (.slice A3 50 c3) W ∨ bs.length < 50 := fun W => by
    by_cases hx : 50 ≤ bs.length
    · exact .inl (cut_run A3 bs.length c3 50 (by omega) (by omega) W)
    · exact .inr (by omega)
  have HT := Aside0.mk hcut50
  have HTl := Aside0.mk (List.length_take (i := 50) (l := bs))
  have HCA := Aside0.mk hcA
  clear hcut50 hcA g3
  generalize (bs.take 50).length = m at *
  have HNL := Aside0.mk hn
  have HLK := Aside0.mk hl
  have HP := Aside0.mk h
  clear hn hl h
  go_enter Try.func22, Try.ntmps22
  go_upto_if 16 with fail
  go_cut [7] (fun v w' => CutA P w gd M gr d r (#[.int .i64 4, .string nm, .string dst, .slice A3 bs.length c3, .int .i64 an, .slice A5 kp.length c5]) A3 m c3 v w')
  case first =>
    by_cases hlen : 50 < bs.length
    · have hcut : ∀ W : World, (Instr.slice 22 (.slice A3 bs.length c3) none (some (.int .i64 50)) none).run Try.prog W = .ok (.slice A3 50 c3) W := fun W => (HT.out W).resolve_right (by omega)
      have hd1 : decide ((50 : Int) < (bs.length : Int)) = true := decide_eq_true (by omega)
      have hi : (50 : Int) < (bs.length : Int) := by omega
      have hm : m = 50 := by have := HTl.out; omega
      subst hm
      generalize bs.length = bl at *
      go_wp2_with fail
      go_meet
      case rel => exact HCA.out
    · have hd1 : decide ((50 : Int) < (bs.length : Int)) = false := decide_eq_false (by omega)
      have hi : ¬ (50 : Int) < (bs.length : Int) := by omega
      have hm : bs.length = m := by have := HTl.out; omega
      generalize hbl : bs.length = bl at *
      subst hm
      go_wp2_with fail
      go_meet
      case rel => exact HCA.out
  obtain ⟨rfl, w5, rfl, hw⟩ := hcut
  clear HCA HA HT
  have HW := Aside0.mk hw
  have hbx := hw.box
  clear hw
  obtain ⟨N, Mid, hT1, hT2⟩ := (two_remove HW.out.pair HLK.out HNL.out hn' hnm).ex
  have T1 := Aside0.mk hT1
  have T2 := Aside0.mk hT2
  have HS := Aside0.mk (fun (W : World) (hx : W.heap[w.heap.size]? = some (.cells #[.int .i64 4, .string nm, .string dst, .slice A3 bs.length c3, .int .i64 an, .slice A5 kp.length c5] 47 (0, 0))) => (show W.cell? ⟨w.heap.size, 1, none⟩ = some (.string nm) from cell_of_row W _ 1 _ _ _ hx))
  have hS0 := HS.out w5 hbx
  have HB := Aside0.mk hbx
  have q0 : w5.cell? ⟨w.heap.size, 0, none⟩ = some (.int .i64 4) := cell_of_row w5 _ 0 _ _ _ hbx
  clear hT1 hT2 hbx
  go_wp2_with fail
  go_region_held3 (fun W => W.cell? ⟨w.heap.size, 1, none⟩ = some (.string nm))
    (first | assumption | exact hS0 | exact HS6.out | exact HS7.out | go_keep)
    (first
    | (go_at_call 24; (with_reducible refine (T1.out _ ((Below.refl _ _).drew)).mono ?_); rintro x w6 ⟨rfl, h6, hf6⟩; have H6 := Aside0.mk h6; have hx6 := frame_cells hf6 (.inr rfl) (by exact (((Below.refl w5.heap.size w5).drew).block _ (Array.getElem?_eq_some_iff.1 HB.out).1).trans HB.out); have HB6 := Aside0.mk hx6; have HF6 := Aside0.mk ((PFrame.of ((Below.refl w5.heap.size w5).drew)).trans hf6); have HS6 := Aside0.mk (HS.out _ hx6); clear h6 hx6 hf6)
    | (go_at_call 34; (with_reducible refine (T2.out _ _ H6.out (Below.refl _ _)).mono ?_); rintro x w7 ⟨rfl, h7⟩; have H7 := Aside0.mk h7; have HS7 := Aside0.mk (HS.out _ (frame_cells h7.1 (.inr rfl) HB6.out)); clear h7))
  go_wp2_with fail
  go_ret
  exact ⟨by first | rfl | simp, (Next.from HF6.out H7.out).back HW.out.frame⟩
set_option maxRecDepth 100000 in
set_option maxHeartbeats 4000000 in
theorem asks_rename (n : Nat) (w : World) (h : Pair P w gd M gr d r) (hl : Like d r) (hn : r.L.length ≤ n) (hn' : n ≤ 900) (an : Int) (nm dst : ByteArray) (hnm : nm.size ≤ 9223372036854775807) (hds : dst.size ≤ 9223372036854775807) (bs : List Int) (A3 : Option Addr) (c3 : Nat) (l3 : bs.length ≤ c3) (g3 : Kd.C kByt w A3 bs.length bs) (b3 : bytesOk bs) (kp : List Int) (A5 : Option Addr) (c5 : Nat) :
    Calls Try.prog 22 #[.pointer (some ⟨gd, 0, none⟩), .pointer (some ⟨gr, 0, none⟩), .agg #[.int .i64 3, .string nm, .string dst, .slice A3 bs.length c3, .int .i64 an, .slice A5 kp.length c5]] w fun e w' => e = .returned (.bool true) ∧ Next P w w' gd M gr (n + 1) := by
  have HA := Aside0.mk (AskW.mk0 h (#[.int .i64 3, .string nm, .string dst, .slice A3 bs.length c3, .int .i64 an, .slice A5 kp.length c5]))
  have hlb : bs.length ≤ 9223372036854775807 := g3.2.1
  have HG := Aside0.mk (C_fifty g3)
  have hcA := CutA.mk0 h (#[.int .i64 3, .string nm, .string dst, .slice A3 bs.length c3, .int .i64 an, .slice A5 kp.length c5]) A3 (bs.take 50).length c3
  have hcut50 : ∀ W : World, (Instr.slice 22 (.slice A3 bs.length c3) none (some (.int .i64 50)) none).run Try.prog W = .ok (.slice A3 50 c3) W ∨ bs.length < 50 := fun W => by
    by_cases hx : 50 ≤ bs.length
    · exact .inl (cut_run A3 bs.length c3 50 (by omega) (by omega) W)
    · exact .inr (by omega)
  have HT := Aside0.mk hcut50
  have HTl := Aside0.mk (List.length_take (i := 50) (l := bs))
  have HCA := Aside0.mk hcA
  clear hcut50 hcA g3
  generalize (bs.take 50).length = m at *
  have HNL := Aside0.mk hn
  have HLK := Aside0.mk hl
  have HP := Aside0.mk h
  clear hn hl h
  go_enter Try.func22, Try.ntmps22
  go_upto_if 16 with fail
  go_cut [7] (fun v w' => CutA P w gd M gr d r (#[.int .i64 3, .string nm, .string dst, .slice A3 bs.length c3, .int .i64 an, .slice A5 kp.length c5]) A3 m c3 v w')
  case first =>
    by_cases hlen : 50 < bs.length
    · have hcut : ∀ W : World, (Instr.slice 22 (.slice A3 bs.length c3) none (some (.int .i64 50)) none).run Try.prog W = .ok (.slice A3 50 c3) W := fun W => (HT.out W).resolve_right (by omega)
      have hd1 : decide ((50 : Int) < (bs.length : Int)) = true := decide_eq_true (by omega)
      have hi : (50 : Int) < (bs.length : Int) := by omega
      have hm : m = 50 := by have := HTl.out; omega
      subst hm
      generalize bs.length = bl at *
      go_wp2_with fail
      go_meet
      case rel => exact HCA.out
    · have hd1 : decide ((50 : Int) < (bs.length : Int)) = false := decide_eq_false (by omega)
      have hi : ¬ (50 : Int) < (bs.length : Int) := by omega
      have hm : bs.length = m := by have := HTl.out; omega
      generalize hbl : bs.length = bl at *
      subst hm
      go_wp2_with fail
      go_meet
      case rel => exact HCA.out
  obtain ⟨rfl, w5, rfl, hw⟩ := hcut
  clear HCA HA HT
  have HW := Aside0.mk hw
  have hbx := hw.box
  clear hw
  obtain ⟨N, Mid, hT1, hT2⟩ := (two_rename HW.out.pair HLK.out HNL.out hn' hnm hds).ex
  have T1 := Aside0.mk hT1
  have T2 := Aside0.mk hT2
  have HS := Aside0.mk (fun (W : World) (hx : W.heap[w.heap.size]? = some (.cells #[.int .i64 3, .string nm, .string dst, .slice A3 bs.length c3, .int .i64 an, .slice A5 kp.length c5] 47 (0, 0))) => (show W.cell? ⟨w.heap.size, 1, none⟩ = some (.string nm) ∧ W.cell? ⟨w.heap.size, 2, none⟩ = some (.string dst) from ⟨cell_of_row W _ 1 _ _ _ hx, cell_of_row W _ 2 _ _ _ hx⟩))
  have hS0 := HS.out w5 hbx
  have HB := Aside0.mk hbx
  have q0 : w5.cell? ⟨w.heap.size, 0, none⟩ = some (.int .i64 3) := cell_of_row w5 _ 0 _ _ _ hbx
  clear hT1 hT2 hbx
  go_wp2_with fail
  go_region_held3 (fun W => W.cell? ⟨w.heap.size, 1, none⟩ = some (.string nm) ∧ W.cell? ⟨w.heap.size, 2, none⟩ = some (.string dst))
    (first | assumption | exact hS0 | exact HS6.out | exact HS7.out | go_keep)
    (first
    | (go_at_call 20; (with_reducible refine (T1.out _ ((Below.refl _ _).drew)).mono ?_); rintro x w6 ⟨rfl, h6, hf6⟩; have H6 := Aside0.mk h6; have hx6 := frame_cells hf6 (.inr rfl) (by exact (((Below.refl w5.heap.size w5).drew).block _ (Array.getElem?_eq_some_iff.1 HB.out).1).trans HB.out); have HB6 := Aside0.mk hx6; have HF6 := Aside0.mk ((PFrame.of ((Below.refl w5.heap.size w5).drew)).trans hf6); have HS6 := Aside0.mk (HS.out _ hx6); clear h6 hx6 hf6)
    | (go_at_call 34; (with_reducible refine (T2.out _ _ H6.out (Below.refl _ _)).mono ?_); rintro x w7 ⟨rfl, h7⟩; have H7 := Aside0.mk h7; have HS7 := Aside0.mk (HS.out _ (frame_cells h7.1 (.inr rfl) HB6.out)); clear h7))
  go_wp2_with fail
  go_ret
  exact ⟨by first | rfl | simp, (Next.from HF6.out H7.out).back HW.out.frame⟩
theorem C_frame {k : IntKind} {w w' : World} {A : Option Addr} {n : Nat} {l : List Int} (h : Kd.C (Kd.int k) w A n l) (hm : ∀ ad, A = some ad → w'.heap[ad.block]? = w.heap[ad.block]?) : Kd.C (Kd.int k) w' A n l := by
  refine ⟨h.1, h.2.1, fun h0 => ?_⟩
  obtain ⟨ad, e, h3⟩ := h.2.2 h0
  refine ⟨ad, e, fun j x hx => ?_⟩
  obtain ⟨cs, q1, q2, q3⟩ := h3 j x hx
  refine ⟨cs, q1, q2, fun i u hu => ?_⟩
  have hc := q3 i u hu
  unfold World.cell? at hc ⊢
  rw [add_blk] at hc ⊢
  rw [hm ad e]
  exact hc
theorem C_lt {k : IntKind} {w : World} {A : Option Addr} {n : Nat} {l : List Int} (h : Kd.C (Kd.int k) w A n l) (h0 : 0 < n) : ∀ ad, A = some ad → ad.block < w.heap.size := by
  intro ad e
  obtain ⟨ad', e', h3⟩ := h.2.2 h0
  rw [e] at e'
  cases e'
  have hn := h.1
  obtain ⟨x0, hx0⟩ : ∃ x0, l[0]? = some x0 := ⟨_, List.getElem?_eq_getElem (by omega)⟩
  obtain ⟨cs, q1, q2, q3⟩ := h3 0 x0 hx0
  obtain rfl : cs = [.int k x0] := q2
  have := cell_lt (q3 0 _ rfl)
  rwa [add_blk] at this
theorem C_pframe {k : IntKind} {w w' : World} {A : Option Addr} {n : Nat} {l : List Int} (h : Kd.C (Kd.int k) w A n l) (hf : PFrame P w w') (hP : 0 < n → ∀ ad, A = some ad → P ad.block) : Kd.C (Kd.int k) w' A n l := by
  rcases Nat.eq_zero_or_pos n with h0 | h0
  · exact ⟨h.1, h.2.1, fun hh => by omega⟩
  · exact C_frame h (fun ad e => hf.at (hP h0 ad e) (C_lt h h0 ad e))
theorem str_nums (b : ByteArray) : strOfNums (nums b) = b := by
  unfold strOfNums nums
  rw [List.map_map]
  have : (b.data.toList.map ((fun n : Int => UInt8.ofNat n.toNat) ∘ (fun b : UInt8 => (b.toNat : Int)))) = b.data.toList := by
    conv => rhs; rw [← List.map_id b.data.toList]
    refine List.map_congr_left fun x _ => ?_
    show UInt8.ofNat ((x.toNat : Int)).toNat = x
    rw [Int.toNat_natCast]
    exact UInt8.ofNat_toNat
  rw [this]
set_option maxRecDepth 100000 in
set_option maxHeartbeats 4000000 in
theorem asks_append (n : Nat) (w : World) (h : Pair P w gd M gr d r) (hl : Like d r) (hn : r.L.length ≤ n) (hn' : n ≤ 900) (an : Int) (nm dst : ByteArray) (hnm : nm.size ≤ 9223372036854775807) (hds : dst.size ≤ 9223372036854775807) (bs : List Int) (A3 : Option Addr) (c3 : Nat) (l3 : bs.length ≤ c3) (g3 : Kd.C kByt w A3 bs.length bs) (b3 : bytesOk bs) (kp : List Int) (A5 : Option Addr) (c5 : Nat) (p3 : 0 < bs.length → ∀ ad, A3 = some ad → P ad.block) :
    Calls Try.prog 22 #[.pointer (some ⟨gd, 0, none⟩), .pointer (some ⟨gr, 0, none⟩), .agg #[.int .i64 1, .string nm, .string dst, .slice A3 bs.length c3, .int .i64 an, .slice A5 kp.length c5]] w fun e w' => e = .returned (.bool true) ∧ Next P w w' gd M gr (n + 1) := by
  have HA := Aside0.mk (AskW.mk0 h (#[.int .i64 1, .string nm, .string dst, .slice A3 bs.length c3, .int .i64 an, .slice A5 kp.length c5]))
  have hlb : bs.length ≤ 9223372036854775807 := g3.2.1
  have HG := Aside0.mk (C_fifty g3)
  have hcA := CutA.mk0 h (#[.int .i64 1, .string nm, .string dst, .slice A3 bs.length c3, .int .i64 an, .slice A5 kp.length c5]) A3 (bs.take 50).length c3
  have hcut50 : ∀ W : World, (Instr.slice 22 (.slice A3 bs.length c3) none (some (.int .i64 50)) none).run Try.prog W = .ok (.slice A3 50 c3) W ∨ bs.length < 50 := fun W => by
    by_cases hx : 50 ≤ bs.length
    · exact .inl (cut_run A3 bs.length c3 50 (by omega) (by omega) W)
    · exact .inr (by omega)
  have HT := Aside0.mk hcut50
  have HTl := Aside0.mk (List.length_take (i := 50) (l := bs))
  have HCA := Aside0.mk hcA
  clear hcut50 hcA g3
  generalize (bs.take 50).length = m at *
  have HNL := Aside0.mk hn
  have HLK := Aside0.mk hl
  have HP := Aside0.mk h
  clear hn hl h
  go_enter Try.func22, Try.ntmps22
  go_upto_if 16 with fail
  go_cut [7] (fun v w' => CutA P w gd M gr d r (#[.int .i64 1, .string nm, .string dst, .slice A3 bs.length c3, .int .i64 an, .slice A5 kp.length c5]) A3 m c3 v w')
  case first =>
    by_cases hlen : 50 < bs.length
    · have hcut : ∀ W : World, (Instr.slice 22 (.slice A3 bs.length c3) none (some (.int .i64 50)) none).run Try.prog W = .ok (.slice A3 50 c3) W := fun W => (HT.out W).resolve_right (by omega)
      have hd1 : decide ((50 : Int) < (bs.length : Int)) = true := decide_eq_true (by omega)
      have hi : (50 : Int) < (bs.length : Int) := by omega
      have hm : m = 50 := by have := HTl.out; omega
      subst hm
      generalize bs.length = bl at *
      go_wp2_with fail
      go_meet
      case rel => exact HCA.out
    · have hd1 : decide ((50 : Int) < (bs.length : Int)) = false := decide_eq_false (by omega)
      have hi : ¬ (50 : Int) < (bs.length : Int) := by omega
      have hm : bs.length = m := by have := HTl.out; omega
      generalize hbl : bs.length = bl at *
      subst hm
      go_wp2_with fail
      go_meet
      case rel => exact HCA.out
  obtain ⟨rfl, w5, rfl, hw⟩ := hcut
  clear HCA HA HT
  have HW := Aside0.mk hw
  have hbx := hw.box
  clear hw
  have hml : m = (bs.take 50).length := HG.out.1.symm
  have hm50 : m ≤ 50 := by have := HTl.out; omega
  have hG5 := C_pframe HG.out HW.out.frame (fun h0 => p3 (by have := HTl.out; omega))
  have hTw := two_append HW.out.pair HLK.out HNL.out hn' hnm (A := A3) (bs := bs.take 50) (c := c3) (by rw [← hml]; exact hG5) (by rw [← hml]; have := HTl.out; omega) (bytesOk_take b3 50) (by rw [← hml]; omega)
  rw [← hml] at hTw
  have HML := Aside0.mk hml
  clear hml
  generalize bs.take 50 = l at *
  have hST : ∀ (W : World), Kd.C kByt W A3 m l → (convert 22 9 (.slice A3 m c3)).run Try.prog W = .ok (.string (strOfNums l)) W := fun W hC => str_run W A3 m c3 l HML.out (by rw [← HML.out]; exact hC)
  obtain ⟨N, Mid, hT1, hT2⟩ := hTw.ex
  have T1 := Aside0.mk hT1
  have T2 := Aside0.mk hT2
  have HS := Aside0.mk (fun (W : World) (hx : W.heap[w.heap.size]? = some (.cells #[.int .i64 1, .string nm, .string dst, .slice A3 bs.length c3, .int .i64 an, .slice A5 kp.length c5] 47 (0, 0))) (hC : Kd.C kByt W A3 m l) => (show W.cell? ⟨w.heap.size, 1, none⟩ = some (.string nm) ∧ (convert 22 9 (.slice A3 m c3)).run Try.prog W = .ok (.string (strOfNums l)) W from ⟨cell_of_row W _ 1 _ _ _ hx, hST W hC⟩))
  have HSd := Aside0.mk (HS.out w5.drew ((((Below.refl w5.heap.size w5).drew).block _ (Array.getElem?_eq_some_iff.1 hbx).1).trans hbx) (Kd.C_drew hG5))
  have hS0 := HS.out w5 hbx hG5
  have HB := Aside0.mk hbx
  have HG5 := Aside0.mk hG5
  have q0 : w5.cell? ⟨w.heap.size, 0, none⟩ = some (.int .i64 1) := cell_of_row w5 _ 0 _ _ _ hbx
  have P3 := Aside0.mk (show 0 < m → ∀ ad, A3 = some ad → P ad.block from fun h0 => p3 (by have := HTl.out; omega))
  clear hT1 hT2 hbx hG5 hST hTw p3
  generalize hst : strOfNums l = st at *
  clear hst
  go_wp2_with fail
  go_region_held3 (fun W => W.cell? ⟨w.heap.size, 1, none⟩ = some (.string nm) ∧ (convert 22 9 (.slice A3 m c3)).run Try.prog W = .ok (.string st) W)
    (first | assumption | exact hS0 | exact HS6.out | exact HS7.out | exact HSd.out | exact HSd.out.1 | exact HSd.out.2 | exact HS6.out.1 | exact HS6.out.2 | exact HS7.out.1 | exact HS7.out.2 | go_keep)
    (first
    | (go_at_call 12; (with_reducible refine (T1.out _ ((Below.refl _ _).drew)).mono ?_); rintro x w6 ⟨rfl, h6, hf6⟩; have H6 := Aside0.mk h6; have hx6 := frame_cells hf6 (.inr rfl) (by exact (((Below.refl w5.heap.size w5).drew).block _ (Array.getElem?_eq_some_iff.1 HB.out).1).trans HB.out); have HB6 := Aside0.mk hx6; have hf7 := (PFrame.of ((Below.refl w5.heap.size w5).drew)).trans hf6; have hC6 := C_pframe HG5.out hf7 (fun h0 ad e => .inl (P3.out h0 ad e)); have HC6 := Aside0.mk hC6; have HF6 := Aside0.mk hf7; have HS6 := Aside0.mk (HS.out _ hx6 hC6); clear h6 hx6 hf6 hf7 hC6)
    | (go_at_call 34; (with_reducible refine (T2.out _ _ H6.out (Below.refl _ _)).mono ?_); rintro x w7 ⟨rfl, h7⟩; have H7 := Aside0.mk h7; have HS7 := Aside0.mk (HS.out _ (frame_cells h7.1 (.inr rfl) HB6.out) (C_pframe HC6.out h7.1 (fun h0 ad e => .inl (P3.out h0 ad e)))); clear h7))
  go_wp2_with fail
  go_ret
  exact ⟨by first | rfl | simp, (Next.from HF6.out H7.out).back HW.out.frame⟩
set_option maxRecDepth 100000 in
set_option maxHeartbeats 4000000 in
theorem asks_arm (n : Nat) (w : World) (h : Pair P w gd M gr d r) (hl : Like d r) (hn : r.L.length ≤ n) (hn' : n ≤ 900) (an : Int) (nm dst : ByteArray) (hnm : nm.size ≤ 9223372036854775807) (hds : dst.size ≤ 9223372036854775807) (bs : List Int) (A3 : Option Addr) (c3 : Nat) (l3 : bs.length ≤ c3) (g3 : Kd.C kByt w A3 bs.length bs) (b3 : bytesOk bs) (kp : List Int) (A5 : Option Addr) (c5 : Nat) (han : an ≤ 9223372036854775807) :
    Calls Try.prog 22 #[.pointer (some ⟨gd, 0, none⟩), .pointer (some ⟨gr, 0, none⟩), .agg #[.int .i64 6, .string nm, .string dst, .slice A3 bs.length c3, .int .i64 an, .slice A5 kp.length c5]] w fun e w' => e = .returned (.bool true) ∧ Next P w w' gd M gr (n + 1) := by
  have HA := Aside0.mk (AskW.mk0 h (#[.int .i64 6, .string nm, .string dst, .slice A3 bs.length c3, .int .i64 an, .slice A5 kp.length c5]))
  have hlb : bs.length ≤ 9223372036854775807 := g3.2.1
  have HG := Aside0.mk (C_fifty g3)
  have hcA := CutA.mk0 h (#[.int .i64 6, .string nm, .string dst, .slice A3 bs.length c3, .int .i64 an, .slice A5 kp.length c5]) A3 (bs.take 50).length c3
  have hcut50 : ∀ W : World, (Instr.slice 22 (.slice A3 bs.length c3) none (some (.int .i64 50)) none).run Try.prog W = .ok (.slice A3 50 c3) W ∨ bs.length < 50 := fun W => by
    by_cases hx : 50 ≤ bs.length
    · exact .inl (cut_run A3 bs.length c3 50 (by omega) (by omega) W)
    · exact .inr (by omega)
  have HT := Aside0.mk hcut50
  have HTl := Aside0.mk (List.length_take (i := 50) (l := bs))
  have HCA := Aside0.mk hcA
  clear hcut50 hcA g3
  generalize (bs.take 50).length = m at *
  have HNL := Aside0.mk hn
  have HLK := Aside0.mk hl
  have HP := Aside0.mk h
  clear hn hl h
  go_enter Try.func22, Try.ntmps22
  go_upto_if 16 with fail
  go_cut [7] (fun v w' => CutA P w gd M gr d r (#[.int .i64 6, .string nm, .string dst, .slice A3 bs.length c3, .int .i64 an, .slice A5 kp.length c5]) A3 m c3 v w')
  case first =>
    by_cases hlen : 50 < bs.length
    · have hcut : ∀ W : World, (Instr.slice 22 (.slice A3 bs.length c3) none (some (.int .i64 50)) none).run Try.prog W = .ok (.slice A3 50 c3) W := fun W => (HT.out W).resolve_right (by omega)
      have hd1 : decide ((50 : Int) < (bs.length : Int)) = true := decide_eq_true (by omega)
      have hi : (50 : Int) < (bs.length : Int) := by omega
      have hm : m = 50 := by have := HTl.out; omega
      subst hm
      generalize bs.length = bl at *
      go_wp2_with fail
      go_meet
      case rel => exact HCA.out
    · have hd1 : decide ((50 : Int) < (bs.length : Int)) = false := decide_eq_false (by omega)
      have hi : ¬ (50 : Int) < (bs.length : Int) := by omega
      have hm : bs.length = m := by have := HTl.out; omega
      generalize hbl : bs.length = bl at *
      subst hm
      go_wp2_with fail
      go_meet
      case rel => exact HCA.out
  obtain ⟨rfl, w5, rfl, hw⟩ := hcut
  clear HCA HA HT
  have HW := Aside0.mk hw
  have hbx := hw.box
  clear hw
  have q0 : w5.cell? ⟨w.heap.size, 0, none⟩ = some (.int .i64 6) := cell_of_row w5 _ 0 _ _ _ hbx
  have q4 : w5.cell? ⟨w.heap.size, 4, none⟩ = some (.int .i64 an) := cell_of_row w5 _ 4 _ _ _ hbx
  have HB := Aside0.mk hbx
  have hr9 : r.L.length ≤ 1000 := by have := HNL.out; omega
  have HR9 := Aside0.mk hr9
  clear hbx hr9
  go_wp2_with (first
    | (go_at_call 17; (with_reducible refine (arm_p an _ HW.out.pair).mono ?_); rintro x w6 ⟨rfl, h6, hf6⟩; have H6 := Aside0.mk h6; have HF6 := Aside0.mk hf6; have q5 : w6.cell? ⟨w.heap.size, 4, none⟩ = some (.int .i64 an) := cell_of_row w6 _ 4 _ _ _ (frame_cells hf6 (.inr rfl) HB.out); clear h6 hf6)
    | (go_at_call 35; (with_reducible refine (rarm_p an han _ HLK.out H6.out).mono ?_); rintro x w7 ⟨rfl, h7⟩; have H7 := Aside0.mk h7; clear h7))
  go_ret
  exact ⟨rfl, ((Next.from HF6.out H7.out).back HW.out.frame).more (by have := HNL.out; omega)⟩
set_option maxRecDepth 100000 in
set_option maxHeartbeats 4000000 in
theorem asks_up (n : Nat) (w : World) (h : Pair P w gd M gr d r) (hl : Like d r) (hn : r.L.length ≤ n) (hn' : n ≤ 900) (an : Int) (nm dst : ByteArray) (hnm : nm.size ≤ 9223372036854775807) (hds : dst.size ≤ 9223372036854775807) (bs : List Int) (A3 : Option Addr) (c3 : Nat) (l3 : bs.length ≤ c3) (g3 : Kd.C kByt w A3 bs.length bs) (b3 : bytesOk bs) (kp : List Int) (A5 : Option Addr) (c5 : Nat) (g5 : Kd.C kI64 w A5 kp.length kp) (p5 : 0 < kp.length → ∀ ad, A5 = some ad → P ad.block) (hkl : ∀ i, -9223372036854775808 ≤ keepAt kp i ∧ keepAt kp i ≤ 9223372036854775807) :
    Calls Try.prog 22 #[.pointer (some ⟨gd, 0, none⟩), .pointer (some ⟨gr, 0, none⟩), .agg #[.int .i64 7, .string nm, .string dst, .slice A3 bs.length c3, .int .i64 an, .slice A5 kp.length c5]] w fun e w' => e = .returned (.bool true) ∧ Next P w w' gd M gr (n + 1) := by
  have HA := Aside0.mk (AskW.mk0 h (#[.int .i64 7, .string nm, .string dst, .slice A3 bs.length c3, .int .i64 an, .slice A5 kp.length c5]))
  have hlb : bs.length ≤ 9223372036854775807 := g3.2.1
  have HG := Aside0.mk (C_fifty g3)
  have hcA := CutA.mk0 h (#[.int .i64 7, .string nm, .string dst, .slice A3 bs.length c3, .int .i64 an, .slice A5 kp.length c5]) A3 (bs.take 50).length c3
  have hcut50 : ∀ W : World, (Instr.slice 22 (.slice A3 bs.length c3) none (some (.int .i64 50)) none).run Try.prog W = .ok (.slice A3 50 c3) W ∨ bs.length < 50 := fun W => by
    by_cases hx : 50 ≤ bs.length
    · exact .inl (cut_run A3 bs.length c3 50 (by omega) (by omega) W)
    · exact .inr (by omega)
  have HT := Aside0.mk hcut50
  have HTl := Aside0.mk (List.length_take (i := 50) (l := bs))
  have HCA := Aside0.mk hcA
  clear hcut50 hcA g3
  generalize (bs.take 50).length = m at *
  have HNL := Aside0.mk hn
  have HLK := Aside0.mk hl
  have HP := Aside0.mk h
  clear hn hl h
  go_enter Try.func22, Try.ntmps22
  go_upto_if 16 with fail
  go_cut [7] (fun v w' => CutA P w gd M gr d r (#[.int .i64 7, .string nm, .string dst, .slice A3 bs.length c3, .int .i64 an, .slice A5 kp.length c5]) A3 m c3 v w')
  case first =>
    by_cases hlen : 50 < bs.length
    · have hcut : ∀ W : World, (Instr.slice 22 (.slice A3 bs.length c3) none (some (.int .i64 50)) none).run Try.prog W = .ok (.slice A3 50 c3) W := fun W => (HT.out W).resolve_right (by omega)
      have hd1 : decide ((50 : Int) < (bs.length : Int)) = true := decide_eq_true (by omega)
      have hi : (50 : Int) < (bs.length : Int) := by omega
      have hm : m = 50 := by have := HTl.out; omega
      subst hm
      generalize bs.length = bl at *
      go_wp2_with fail
      go_meet
      case rel => exact HCA.out
    · have hd1 : decide ((50 : Int) < (bs.length : Int)) = false := decide_eq_false (by omega)
      have hi : ¬ (50 : Int) < (bs.length : Int) := by omega
      have hm : bs.length = m := by have := HTl.out; omega
      generalize hbl : bs.length = bl at *
      subst hm
      go_wp2_with fail
      go_meet
      case rel => exact HCA.out
  obtain ⟨rfl, w5, rfl, hw⟩ := hcut
  clear HCA HA HT
  have HW := Aside0.mk hw
  have hbx := hw.box
  clear hw
  have q0 : w5.cell? ⟨w.heap.size, 0, none⟩ = some (.int .i64 7) := cell_of_row w5 _ 0 _ _ _ hbx
  have q4 : w5.cell? ⟨w.heap.size, 5, none⟩ = some (.slice A5 kp.length c5) := cell_of_row w5 _ 5 _ _ _ hbx
  have HB := Aside0.mk hbx
  have hr9 : r.L.length ≤ 1000 := by have := HNL.out; omega
  have HR9 := Aside0.mk hr9
  have G5 := Aside0.mk (C_pframe g5 HW.out.frame p5)
  have P5 := Aside0.mk (show 0 < kp.length → ∀ ad, A5 = some ad → (fun k => P k ∨ k = w.heap.size) ad.block from fun h0 ad e => .inl (p5 h0 ad e))
  have HKL := Aside0.mk hkl
  clear hbx hr9 g5 p5 hkl
  cases hd : d.down
  · have hg : r.gone = false := by rw [← HLK.out.gone]; exact hd
    have HD := Aside0.mk hd
    have HGn := Aside0.mk hg
    clear hd hg
    go_wp2_with (first
    | (go_at_call 19; (with_reducible refine (up_q A5 _ c5 _ HW.out.pair HD.out).mono ?_); rintro x w6 ⟨rfl, hw6⟩; have hw7 := hw6.symm; clear hw6; subst hw7)
    | (go_at_call 36; (with_reducible refine (rup_q A5 _ c5 _ HW.out.pair HGn.out).mono ?_); rintro x w6 ⟨rfl, hw6⟩; have hw7 := hw6.symm; clear hw6; subst hw7))
    go_ret
    exact ⟨rfl, (next_mk ⟨HW.out.pair, DFrame.refl _ _⟩ HLK.out (by have := HNL.out; omega)).back HW.out.frame⟩
  · have hg : r.gone = true := by rw [← HLK.out.gone]; exact hd
    have HD := Aside0.mk hd
    have HGn := Aside0.mk hg
    have HLn := Aside0.mk (show d.L.length ≤ 100000 by rw [like_len HLK.out]; have := HNL.out; omega)
    clear hd hg
    go_wp2_with (first
    | (go_at_call 19; (with_reducible refine (up_p kp A5 c5 _ HW.out.pair HLK.out HLn.out HD.out G5.out P5.out HKL.out).mono ?_); rintro x w6 ⟨rfl, h6, hf6⟩; have H6 := Aside0.mk h6; have HF6 := Aside0.mk hf6; have HG6 := Aside0.mk (C_pframe G5.out hf6 P5.out); have q5 : w6.cell? ⟨w.heap.size, 5, none⟩ = some (.slice A5 kp.length c5) := cell_of_row w6 _ 5 _ _ _ (frame_cells hf6 (.inr rfl) HB.out); clear h6 hf6)
    | (go_at_call 36; (with_reducible refine (rup_p kp A5 c5 _ HLK.out HR9.out HGn.out HG6.out P5.out HKL.out H6.out).mono ?_); rintro x w7 ⟨rfl, h7⟩; have H7 := Aside0.mk h7; clear h7))
    go_ret
    exact ⟨rfl, ((Next.from HF6.out H7.out).back HW.out.frame).more (by have := HNL.out; omega)⟩
set_option maxRecDepth 100000 in
set_option maxHeartbeats 4000000 in
theorem asks_read (n : Nat) (w : World) (h : Pair P w gd M gr d r) (hl : Like d r) (hn : r.L.length ≤ n) (hn' : n ≤ 900) (an : Int) (nm dst : ByteArray) (hnm : nm.size ≤ 9223372036854775807) (hds : dst.size ≤ 9223372036854775807) (bs : List Int) (A3 : Option Addr) (c3 : Nat) (l3 : bs.length ≤ c3) (g3 : Kd.C kByt w A3 bs.length bs) (b3 : bytesOk bs) (kp : List Int) (A5 : Option Addr) (c5 : Nat) (kind : Int) (k0 : kind ≠ 0) (k1 : kind ≠ 1) (k2 : kind ≠ 2) (k3 : kind ≠ 3) (k4 : kind ≠ 4) (k6 : kind ≠ 6) (k7 : kind ≠ 7) :
    Calls Try.prog 22 #[.pointer (some ⟨gd, 0, none⟩), .pointer (some ⟨gr, 0, none⟩), .agg #[.int .i64 kind, .string nm, .string dst, .slice A3 bs.length c3, .int .i64 an, .slice A5 kp.length c5]] w fun e w' => e = .returned (.bool true) ∧ Next P w w' gd M gr (n + 1) := by
  have e0 : (kind == 0) = false := beq_eq_false_iff_ne.2 k0
  have e1 : (kind == 1) = false := beq_eq_false_iff_ne.2 k1
  have e2 : (kind == 2) = false := beq_eq_false_iff_ne.2 k2
  have e3 : (kind == 3) = false := beq_eq_false_iff_ne.2 k3
  have e4 : (kind == 4) = false := beq_eq_false_iff_ne.2 k4
  have e6 : (kind == 6) = false := beq_eq_false_iff_ne.2 k6
  have e7 : (kind == 7) = false := beq_eq_false_iff_ne.2 k7
  clear k0 k1 k2 k3 k4 k6 k7
  have HA := Aside0.mk (AskW.mk0 h (#[.int .i64 kind, .string nm, .string dst, .slice A3 bs.length c3, .int .i64 an, .slice A5 kp.length c5]))
  have hlb : bs.length ≤ 9223372036854775807 := g3.2.1
  have HG := Aside0.mk (C_fifty g3)
  have hcA := CutA.mk0 h (#[.int .i64 kind, .string nm, .string dst, .slice A3 bs.length c3, .int .i64 an, .slice A5 kp.length c5]) A3 (bs.take 50).length c3
  have hcut50 : ∀ W : World, (Instr.slice 22 (.slice A3 bs.length c3) none (some (.int .i64 50)) none).run Try.prog W = .ok (.slice A3 50 c3) W ∨ bs.length < 50 := fun W => by
    by_cases hx : 50 ≤ bs.length
    · exact .inl (cut_run A3 bs.length c3 50 (by omega) (by omega) W)
    · exact .inr (by omega)
  have HT := Aside0.mk hcut50
  have HTl := Aside0.mk (List.length_take (i := 50) (l := bs))
  have HCA := Aside0.mk hcA
  clear hcut50 hcA g3
  generalize (bs.take 50).length = m at *
  have HNL := Aside0.mk hn
  have HLK := Aside0.mk hl
  have HP := Aside0.mk h
  clear hn hl h
  go_enter Try.func22, Try.ntmps22
  go_upto_if 16 with fail
  go_cut [7] (fun v w' => CutA P w gd M gr d r (#[.int .i64 kind, .string nm, .string dst, .slice A3 bs.length c3, .int .i64 an, .slice A5 kp.length c5]) A3 m c3 v w')
  case first =>
    by_cases hlen : 50 < bs.length
    · have hcut : ∀ W : World, (Instr.slice 22 (.slice A3 bs.length c3) none (some (.int .i64 50)) none).run Try.prog W = .ok (.slice A3 50 c3) W := fun W => (HT.out W).resolve_right (by omega)
      have hd1 : decide ((50 : Int) < (bs.length : Int)) = true := decide_eq_true (by omega)
      have hi : (50 : Int) < (bs.length : Int) := by omega
      have hm : m = 50 := by have := HTl.out; omega
      subst hm
      generalize bs.length = bl at *
      go_wp2_with fail
      go_meet
      case rel => exact HCA.out
    · have hd1 : decide ((50 : Int) < (bs.length : Int)) = false := decide_eq_false (by omega)
      have hi : ¬ (50 : Int) < (bs.length : Int) := by omega
      have hm : bs.length = m := by have := HTl.out; omega
      generalize hbl : bs.length = bl at *
      subst hm
      go_wp2_with fail
      go_meet
      case rel => exact HCA.out
  obtain ⟨rfl, w5, rfl, hw⟩ := hcut
  clear HCA HA HT
  have HW := Aside0.mk hw
  have hbx := hw.box
  clear hw
  have q0 : w5.cell? ⟨w.heap.size, 0, none⟩ = some (.int .i64 kind) := cell_of_row w5 _ 0 _ _ _ hbx
  have q4 : w5.cell? ⟨w.heap.size, 1, none⟩ = some (.string nm) := cell_of_row w5 _ 1 _ _ _ hbx
  have HB := Aside0.mk hbx
  clear hbx
  have HT := Aside0.mk (show totalL d.L ≤ 1000000 by rw [like_total HLK.out]; exact bytes_le HLK.out)
  by_cases hm : mayS d true [nm] = 0
  · have HM := Aside0.mk hm
    clear hm
    go_wp2_with (first
    | (go_at_call 13; (with_reducible refine (read_p hnm _ HW.out.pair HM.out HT.out).mono ?_); rintro x w6 ⟨v9, b9, hb9, rfl, hR9, hbl9⟩; obtain ⟨A9, c9, rfl⟩ := Kd.R_slice hR9; have HC9 := Aside0.mk (Kd.F_now (Kd.R_F hR9)); have HBL := Aside0.mk hbl9; have q5 := pw_cell_below hbl9 q4; clear hR9 hbl9)
    | (go_at_call 37; (with_reducible refine (rread_p hnm _ (Pair.below HW.out.pair HBL.out) HLK.out HM.out).mono ?_); rintro x w7 ⟨hb7, b, hbn, rfl⟩; have hs9 := str_run w7 A9 (getL d.L nm).bytes.length c9 (getL d.L nm).bytes rfl (Kd.C_below HC9.out hb7); rw [← hbn, str_nums] at hs9; have HB7 := Aside0.mk hb7; clear hb7; rw [← hbn]; clear hbn))
    go_ret
    exact ⟨by first | rfl | simp, (next_mk ⟨Pair.below (Pair.below HW.out.pair HBL.out) HB7.out, PFrame.of (below_more HBL.out HB7.out)⟩ HLK.out (by have := HNL.out; omega)).back HW.out.frame⟩
  · have HM := Aside0.mk hm
    clear hm
    have HN := Aside0.mk (fun W (h : Pair (fun k => P k ∨ k = w.heap.size) W gd M gr d r) => read_q hnm W h HM.out)
    have HR := Aside0.mk (fun W (h : Pair (fun k => P k ∨ k = w.heap.size) W gd M gr d r) => rread_q hnm W h HLK.out HM.out)
    have hsz := str_run w5 none 0 0 [] rfl ⟨rfl, by decide, fun h => absurd h (by decide)⟩
    have hz : strOfNums [] = ⟨#[]⟩ := rfl
    rw [hz] at hsz
    clear hz
    generalize mayS d true [nm] = N at *
    go_wp2_with (first
    | (go_at_call 13; (with_reducible refine (HN.out _ HW.out.pair).mono ?_); rintro x w6 ⟨rfl, hbl9⟩; have HBL := Aside0.mk hbl9; have q5 := pw_cell_below hbl9 q4; clear hbl9)
    | (go_at_call 37; (with_reducible refine (HR.out _ (Pair.below HW.out.pair HBL.out)).mono ?_); rintro x w7 ⟨rfl, hw6⟩; have hw7 := hw6.symm; clear hw6; subst hw7; have hs9 := str_run w6 none 0 0 [] rfl ⟨rfl, by decide, fun h => absurd h (by decide)⟩; have hz : strOfNums [] = ⟨#[]⟩ := rfl; rw [hz] at hs9; clear hz))
    go_ret
    exact ⟨by first | rfl | simp, (next_mk ⟨Pair.below HW.out.pair HBL.out, PFrame.of HBL.out⟩ HLK.out (by have := HNL.out; omega)).back HW.out.frame⟩
theorem asks_any (n : Nat) (w : World) (h : Pair P w gd M gr d r) (hl : Like d r) (hn : r.L.length ≤ n) (hn' : n ≤ 900) (x : Ask) (hx : askOk x) (A3 : Option Addr) (c3 : Nat) (l3 : x.bytes.length ≤ c3) (g3 : Kd.C kByt w A3 x.bytes.length x.bytes) (p3 : 0 < x.bytes.length → ∀ ad, A3 = some ad → P ad.block) (A5 : Option Addr) (c5 : Nat) (g5 : Kd.C kI64 w A5 x.keep.length x.keep) (p5 : 0 < x.keep.length → ∀ ad, A5 = some ad → P ad.block) :
    Calls Try.prog 22 #[.pointer (some ⟨gd, 0, none⟩), .pointer (some ⟨gr, 0, none⟩), .agg #[.int .i64 x.kind, .string x.name, .string x.dest, .slice A3 x.bytes.length c3, .int .i64 x.n, .slice A5 x.keep.length c5]] w fun e w' => e = .returned (.bool true) ∧ Next P w w' gd M gr (n + 1) := by
  obtain ⟨hk, hnm, hds, hb, hN, hK⟩ := hx
  have hb64 : ∀ a : Int, fits64 a → -9223372036854775808 ≤ a ∧ a ≤ 9223372036854775807 := fun a ha => by
    unfold fits64 at ha
    have h2 : IntKind.i64.min ≤ a ∧ a ≤ IntKind.i64.max := by simpa [Lit.wf] using ha
    have h3 : IntKind.i64.min = -9223372036854775808 := by decide
    have h4 : IntKind.i64.max = 9223372036854775807 := by decide
    rw [h3, h4] at h2
    exact h2
  have hkl : ∀ i, -9223372036854775808 ≤ keepAt x.keep i ∧ keepAt x.keep i ≤ 9223372036854775807 := fun i => by
    unfold keepAt
    rw [List.getD_eq_getElem?_getD]
    by_cases hi : i < x.keep.length
    · rw [List.getElem?_eq_getElem hi]
      exact hb64 _ (hK.1 _ (List.getElem_mem hi))
    · rw [List.getElem?_eq_none (by omega)]
      decide
  have hn1 := (hb64 _ hN).2
  unfold reachBytes at hnm hds
  obtain ⟨kind, nm, dst, bs, an, kp⟩ := x
  simp only at *
  by_cases k0 : kind = 0
  · subst k0; exact asks_create n w h hl hn hn' an nm dst (by omega) (by omega) bs A3 c3 l3 g3 hb kp A5 c5
  by_cases k1 : kind = 1
  · subst k1; exact asks_append n w h hl hn hn' an nm dst (by omega) (by omega) bs A3 c3 l3 g3 hb kp A5 c5 p3
  by_cases k2 : kind = 2
  · subst k2; exact asks_sync n w h hl hn hn' an nm dst (by omega) (by omega) bs A3 c3 l3 g3 hb kp A5 c5
  by_cases k3 : kind = 3
  · subst k3; exact asks_rename n w h hl hn hn' an nm dst (by omega) (by omega) bs A3 c3 l3 g3 hb kp A5 c5
  by_cases k4 : kind = 4
  · subst k4; exact asks_remove n w h hl hn hn' an nm dst (by omega) (by omega) bs A3 c3 l3 g3 hb kp A5 c5
  by_cases k6 : kind = 6
  · subst k6; exact asks_arm n w h hl hn hn' an nm dst (by omega) (by omega) bs A3 c3 l3 g3 hb kp A5 c5 hn1
  by_cases k7 : kind = 7
  · subst k7; exact asks_up n w h hl hn hn' an nm dst (by omega) (by omega) bs A3 c3 l3 g3 hb kp A5 c5 g5 p5 hkl
  exact asks_read n w h hl hn hn' an nm dst (by omega) (by omega) bs A3 c3 l3 g3 hb kp A5 c5 kind k0 k1 k2 k3 k4 k6 k7
end Go.Proofs.Ytbndgnbhmifefaa
