-- Made by a program of this session (xprint.py), over the translation; Lean checks it.
import Derived.Test.YtbfmmjdbnbfnmaaXDx0
import Derived.Test.YtbfmmjdbnbfnmaaXDx19
import Derived.Test.YtbfmmjdbnbfnmaaXDx22
namespace Go.Proofs.Ytbfmmjdbnbfnmaa.XD
open Go.RowKit Go.Proofs.YtbfmmjdbnbfnmaaW.PrintWords Go.Proofs.YtbfmmjdbnbfnmaaW.PrintLast Go.Proofs.YtbfmmjdbnbfnmaaW.PrintMore
attribute [local go_sem] max2_int min2_int max_two min_two max_three min_three max_four min_four   -- for this text's walks alone
set_option linter.unusedVariables false
set_option linter.unusedSimpArgs false

/-! ### tallyroomlaw02_alive: function 25 -/
def tallyroomlaw02_alive.f : Option Bool := some true
theorem tallyroomlaw02_alive.C_alloc_lit (W : World) (xs : List Int) (cs : Array Value) (t : TypeId) (fr : Nat × Nat) (hcs : cs.toList = xs.map (.int .u8)) (hl : xs.length ≤ 9223372036854775807) : Kd.C (Kd.int .u8) (W.alloc (.cells cs t fr)) (some ⟨W.heap.size, 0, none⟩) xs.length xs := by
  refine ⟨rfl, hl, fun _ => ⟨_, rfl, fun j p hj => ⟨[.int .u8 p], rfl, rfl, fun i u hu => ?_⟩⟩⟩
  have hi : i = 0 ∧ u = .int .u8 p := by
    cases i with
    | zero => simpa using hu.symm
    | succ i => simp at hu
  obtain ⟨rfl, rfl⟩ := hi
  have h1 : (W.alloc (.cells cs t fr)).heap[W.heap.size]? = some (.cells cs t fr) := by
    show (W.heap.push _)[W.heap.size]? = _
    simp
  have h2 : cs[j]? = some (.int .u8 p) := by
    rw [← Array.getElem?_toList, hcs, List.getElem?_map, hj]; rfl
  have h3 : (Addr.add ⟨W.heap.size, 0, none⟩ (j * (Kd.int .u8).sz + 0)) = ⟨W.heap.size, j, none⟩ := by
    show Addr.add ⟨W.heap.size, 0, none⟩ (j * 1 + 0) = _
    unfold Addr.add
    split
    · rename_i h; obtain rfl : j = 0 := by omega
      rfl
    · simp
  rw [h3]
  exact (cell_of_row _ _ j cs t fr h1).trans h2
theorem tallyroomlaw02_alive.sum_nine (w : World) (A : Option Addr) (c : Nat) (hc : 9 ≤ c) (hr : Kd.C (Kd.int .u8) w A 9 [49, 50, 51, 52, 53, 54, 55, 56, 57]) :
    Calls Try.prog 27 #[.slice A 9 c] w fun e w' => e = .returned (.int .u32 3421780262) ∧ Below w.heap.size w w' :=
  crc_Sum.calls 20 A c [49, 50, 51, 52, 53, 54, 55, 56, 57] 3421780262 w hr hc (by decide +kernel)


theorem tallyroomlaw02_alive.open3 (w : World) (A : Option Addr) (c : Nat) (hr : Kd.C (Kd.int .u8) w A 3 [0, 0, 0]) (hc : 3 ≤ c) :
    Calls Try.prog 31 #[.slice A 3 c] w fun e w' => ∃ v, e = .returned (.tuple #[v, .int .i64 10]) ∧ Below w.heap.size w w' :=
  (crc_Open.calls 20 A c [0, 0, 0] [] 10 w hr hc (by decide +kernel)).mono fun _ _ ⟨v, he, _, hb⟩ => ⟨v, he, hb⟩
theorem tallyroomlaw02_alive.open5 (w : World) (A : Option Addr) (c : Nat) (hr : Kd.C (Kd.int .u8) w A 5 [1, 0, 0, 0, 0]) (hc : 5 ≤ c) :
    Calls Try.prog 31 #[.slice A 5 c] w fun e w' => ∃ v, e = .returned (.tuple #[v, .int .i64 12]) ∧ Below w.heap.size w w' :=
  (crc_Open.calls 20 A c [1, 0, 0, 0, 0] [] 12 w hr hc (by decide +kernel)).mono fun _ _ ⟨v, he, _, hb⟩ => ⟨v, he, hb⟩
set_option maxHeartbeats 8000000 in
set_option maxRecDepth 100000 in
theorem tallyroomlaw02_alive.calls (r : Bool) (w : World) (h : tallyroomlaw02_alive.f = some r) : Calls Try.prog 25 #[] w fun e w' => e = .returned (.bool r) ∧ Below w.heap.size w w' := by
  obtain rfl : true = r := Option.some.inj h
  clear h
  have kc := fun (w : World) (C : Array Value) (n c : Nat) => Lib.run_convert_bytes_const (P := Try.prog) w 22 5 C n c Try.underlying22 Try.underlying5
  go_enter Try.func25, Try.ntmps25
  go_wp2_with fail
  refine (tallyroomlaw02_alive.open3 _ _ _ (tallyroomlaw02_alive.C_alloc_lit _ [0, 0, 0] _ _ _ rfl (by decide)) (by decide)).mono ?_
  rintro e w1 ⟨v1, rfl, hb1⟩
  have HB1 := Aside0.mk (below_step (below_alloc (Below.refl w.heap.size w) _) hb1)
  clear hb1
  go_wp2_with fail
  refine (tallyroomlaw02_alive.open5 _ _ _ (tallyroomlaw02_alive.C_alloc_lit _ [1, 0, 0, 0, 0] _ _ _ rfl (by decide)) (by decide)).mono ?_
  rintro e w2 ⟨v2, rfl, hb2⟩
  have HB2 := Aside0.mk (below_step (below_alloc HB1.out _) hb2)
  clear hb2 HB1
  go_wp2_with fail
  refine (tallyroomlaw02_alive.sum_nine _ _ _ (by decide) (tallyroomlaw02_alive.C_alloc_lit _ _ _ _ _ rfl (by decide))).mono ?_
  rintro e w3 ⟨rfl, hb3⟩
  have HB3 := Aside0.mk (below_step (below_alloc HB2.out _) hb3)
  clear hb3 HB2
  go_wp2_with fail
  go_ret
  exact ⟨rfl, HB3.out⟩

end Go.Proofs.Ytbfmmjdbnbfnmaa.XD
