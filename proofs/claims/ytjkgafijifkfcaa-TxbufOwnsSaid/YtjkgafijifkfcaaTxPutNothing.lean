/- What Put does to a buffer at an event whose kind is told by nothing. Conditions: the buffer stands where the pointer points; the event reads so; at most a million events are held. -/
import Derived.Test.YtjkgafijifkfcaaTxAct
import Derived.Deep.RegionWith
namespace Go.Proofs.Ytjkgafijifkfcaa
open Go.RowKit Go.Proofs.YtjkgafijifkfcaaW.PrintWords
set_option linter.unusedVariables false
set_option linter.unusedSimpArgs false
set_option maxRecDepth 100000 in
set_option maxHeartbeats 4000000 in
theorem put_nothing (O : Nat → Prop) (g : Nat) (lim num : Int) (xs : List Ev) (x : Ev) (cs : List Value) (w : World) (hb : BufO O w g lim num xs) (hB : ∀ k, w.heap.size ≤ k → O k) (hK : kEv.K w x cs) (hx : EvOk x) (hl : xs.length ≤ 1000000) (hd : doesFn x.kind = 44) :
    Calls Try.prog 22 #[.pointer (some ⟨g, 0, none⟩), .agg cs.toArray] w (ToldO O g w lim (putR lim num xs x)) := by
  have HAct : Aside0 (∀ W, Below w.heap.size w W → Calls Try.prog 44 #[.pointer (some ⟨g, 0, none⟩), .agg cs.toArray] W (ToldO O g w lim (putR lim num xs x))) := ⟨fun W h => by
    have := act_calls O g lim num xs x cs W (hb.below h) (fun k hk => hB k (Nat.le_trans h.size hk)) (kEv.K_below h hK) hx hl
    rw [hd] at this
    exact this.mono fun e w' ht => ht.later (FrameO.of h)⟩
  have HDoes : Aside0 (∀ W, Calls Try.prog 37 #[.pointer (some ⟨g, 0, none⟩), .int .i64 x.kind] W fun e w' => e = .returned (.func (.func 44) #[.pointer (some ⟨g, 0, none⟩)] #[]) ∧ W = w') := ⟨fun W => by
    have := does_calls (some ⟨g, 0, none⟩) x.kind W
    unfold DoesTell at this
    rwa [hd] at this⟩
  obtain ⟨A3, c3, A4, c4, A7, c7, rfl, l3, g3, l4, g4, l7, g7⟩ := kEv_open hK
  have HB := Aside0.mk hB
  clear hK g3 g4 g7 hb hd hx hl hB
  generalize putR lim num xs x = p at HAct ⊢
  go_enter Try.func22, Try.ntmps22
  go_wp2
  go_region_with (first
    | (go_at_call 37; (with_reducible refine (HDoes.out _).mono ?_); rintro e w1 ⟨rfl, rfl⟩)
    | (go_at_call 44; (with_reducible refine (HAct.out _ ((below_alloc (Below.refl _ _) _).drew)).mono ?_); rintro e w2 ⟨v2, rfl, ho2, hb2, hf2⟩))
  all_goals
    go_wp2
    go_ret3
    refine ToldO.of v2 ?_ ho2 hb2 hf2
    kernel_rfl
end Go.Proofs.Ytjkgafijifkfcaa
