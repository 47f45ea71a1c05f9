-- Made by a program of this session (xprint.py), over the translation; Lean checks it.
import Derived.Test.YtllepjhimkogjaaXDPrx0
import Derived.Test.YtllepjhimkogjaaXDPrx3
import Derived.Test.YtllepjhimkogjaaXDPrx5
namespace Go.Proofs.Ytllepjhimkogjaa.XDPr
open Go.RowKit Go.Proofs.YtllepjhimkogjaaW.PrintWords Go.Proofs.YtllepjhimkogjaaW.PrintLast Go.Proofs.YtllepjhimkogjaaW.PrintMore
attribute [local go_sem] max2_int min2_int max_two min_two max_three min_three max_four min_four   -- for this text's walks alone
set_option linter.unusedVariables false
set_option linter.unusedSimpArgs false

/-! ### tallyroomlaw09_alive: function 15 -/
def tallyroomlaw09_alive.f : Option Bool := some true
theorem tallyroomlaw09_alive.C_alloc_lit (W : World) (xs : List Int) (cs : Array Value) (t : TypeId) (fr : Nat × Nat) (hcs : cs.toList = xs.map (.int .u8)) (hl : xs.length ≤ 9223372036854775807) : Kd.C (Kd.int .u8) (W.alloc (.cells cs t fr)) (some ⟨W.heap.size, 0, none⟩) xs.length xs := by
  refine ⟨rfl, hl, fun _ => ⟨_, rfl, fun j p hj => ⟨[.int .u8 p], rfl, rfl, fun i u hu => ?_⟩⟩⟩
  have hi : i = 0 ∧ u = .int .u8 p := by
    cases i with
    | zero => simpa using hu.symm
    | succ i => simp at hu
  obtain ⟨rfl, rfl⟩ := hi
  have h1 : (W.alloc (.cells cs t fr)).heap[W.heap.size]? = some (.cells cs t fr) := by
    show (W.heap.push _)[W.heap.size]? = _
    simp
  have h2 : cs[j]? = some (.int .u8 p) := by
    rw [← Array.getElem?_toList, hcs, List.getElem?_map, hj]; rfl
  have h3 : (Addr.add ⟨W.heap.size, 0, none⟩ (j * (Kd.int .u8).sz + 0)) = ⟨W.heap.size, j, none⟩ := by
    show Addr.add ⟨W.heap.size, 0, none⟩ (j * 1 + 0) = _
    unfold Addr.add
    split
    · rename_i h; obtain rfl : j = 0 := by omega
      rfl
    · simp
  rw [h3]
  exact (cell_of_row _ _ j cs t fr h1).trans h2
theorem tallyroomlaw09_alive.C_nil (W : World) : Kd.C (Kd.int .u8) W none 0 [] := ⟨rfl, by decide, fun h => absurd h (by decide)⟩
theorem tallyroomlaw09_alive.hash_a (w : World) (A : Option Addr) (c : Nat) (hr : Kd.C (Kd.int .u8) w A 1 [97]) (hc : 1 ≤ c) : Calls Try.prog 19 #[.slice A 1 c] w fun e w' => e = .returned (.int .u64 12638187200555641996) ∧ Drawn0 w w' :=
  digest_Hash.calls 20 A c [97] 12638187200555641996 w hr hc (by decide +kernel)
set_option maxHeartbeats 8000000 in
set_option maxRecDepth 100000 in
theorem tallyroomlaw09_alive.calls (r : Bool) (w : World) (h : tallyroomlaw09_alive.f = some r) : Calls Try.prog 15 #[] w fun e w' => e = .returned (.bool r) ∧ Below w.heap.size w w' := by
  obtain rfl : true = r := Option.some.inj h
  clear h
  have kc := fun (w : World) (C : Array Value) (n c : Nat) => Lib.run_convert_bytes_const (P := Try.prog) w 29 5 C n c Try.underlying29 Try.underlying5
  have kd : ∀ (m : Nat) (C : Array Value) (n c : Nat), Sem.run Try.prog (convert 29 29 (Value.slice (some ⟨w.heap.size, 0, none⟩) n c)) ((w.drewN m).alloc (.cells C 5)) = Result.ok (Value.slice (some ⟨w.heap.size, 0, none⟩) n c) ((w.drewN m).alloc (.cells C 5 (C.size, C.size + 1))) := fun m C n c => kc (w.drewN m) C n c
  go_enter Try.func15, Try.ntmps15
  go_wp2_with fail
  refine (digest_Hash.calls 20 none 0 [] 14695981039346656037 _ (tallyroomlaw09_alive.C_nil _) (by decide) (by decide +kernel)).mono ?_
  rintro e w1 ⟨rfl, ⟨nd, rfl⟩⟩
  have HB1 := Aside0.mk (pw_below_drewN (Below.refl w.heap.size w) nd)
  go_wp2_with fail
  refine (tallyroomlaw09_alive.hash_a _ _ _ (tallyroomlaw09_alive.C_alloc_lit _ [97] _ _ _ rfl (by decide)) (by decide)).mono ?_
  rintro e w2 ⟨rfl, ⟨nd2, rfl⟩⟩
  go_wp2_with fail
  refine (digest_Share.calls 40 5 1000 true _ (by decide +kernel)).mono ?_
  rintro e w3 ⟨rfl, hb3⟩
  have HB3 := Aside0.mk (below_step (pw_below_drewN (below_alloc HB1.out _) nd2) hb3)
  clear hb3 HB1
  go_wp2_with fail
  refine (digest_Share.calls 40 5 0 false _ (by decide +kernel)).mono ?_
  rintro e w4 ⟨rfl, hb4⟩
  have HB4 := Aside0.mk (below_step HB3.out hb4)
  clear hb4 HB3
  go_wp2_with fail
  go_ret
  exact ⟨rfl, HB4.out⟩

end Go.Proofs.Ytllepjhimkogjaa.XDPr
