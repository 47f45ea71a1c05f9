/- The bounds of a bucket (quant.Bounds), walked. No conditions but bounds. -/
import Derived.Test.YtdcbhakclhbdpaaHi
import Derived.Test.YtdcbhakclhbdpaaHe
namespace Go.Proofs.Ytdcbhakclhbdpaa.Hi
open Go.RowKit Go.Shelf Go.Proofs.YtdcbhakclhbdpaaW.PrintWords Go.Proofs.YtdcbhakclhbdpaaW.PrintLast
open Go.Proofs.Ytdcbhakclhbdpaa.Ob Go.Proofs.Ytdcbhakclhbdpaa.XH
set_option linter.unusedSimpArgs false
set_option linter.unusedVariables false

/-- From where to where a bucket goes. -/
def bnds (bs : List Nat) (i : Int) : Int × Int × Bool :=
  if okB bs ∧ 0 ≤ i ∧ i ≤ (bs.length : Int) then (if i = 0 then 0 else ((bs.getD (i.toNat - 1) 0 : Nat) : Int), if i = (bs.length : Int) then 18446744073709551615 else ((bs.getD i.toNat 0 : Nat) : Int), true) else (0, 0, false)
theorem trip {a b x y : Int} {c z : Bool} (h : (a, b, c) = (x, y, z)) : a = x ∧ b = y ∧ c = z := by cases h; exact ⟨rfl, rfl, rfl⟩
theorem add_none (ad : Addr) : ad.add 0 = ad := by unfold Addr.add; exact if_pos rfl
theorem toNat_ofN (l : List Nat) : (ofN l).map Int.toNat = l := by
  unfold ofN
  rw [List.map_map]
  exact (List.map_congr_left (g := id) fun x _ => by simp).trans (List.map_id _)
theorem new_any {w : World} {A : Option Addr} {n c : Nat} {bs : List Nat} (hC : Kd.C (Kd.int .u64) w A n (ofN bs)) (hn : n = bs.length) (hc : n ≤ c) (hl : n ≤ 1000) :
    Calls Try.prog 31 #[.slice A n c] w fun r w' => ((okB bs ∧ ∃ N, r = .returned (.tuple #[.pointer (some ⟨N, 0, none⟩), .int .i64 0])) ∨ (¬ okB bs ∧ r = .returned (.tuple #[.pointer none, .int .i64 1]))) ∧ Only (fun _ => False) w w' := by
  refine (new_walk w A n c bs hC hn hc hl).mono ?_
  rintro r w' (⟨h, N, b, k, v0, rfl, _, ho⟩ | ⟨h, rfl, ho⟩)
  · exact ⟨.inl ⟨h, N, rfl⟩, ho⟩
  · exact ⟨.inr ⟨h, rfl⟩, ho⟩
set_option maxHeartbeats 8000000 in
set_option maxRecDepth 1000000 in
theorem bounds_walk (w : World) (A : Option Addr) (n c : Nat) (bs : List Nat) (i : Int) (hC : Kd.C (Kd.int .u64) w A n (ofN bs)) (hn : n = bs.length) (hc : n ≤ c) (hl : n ≤ 1000) (r1 r2 : Int) (r3 : Bool) (hr : bnds bs i = (r1, r2, r3)) :
    Calls Try.prog 27 #[.slice A n c, .int .i64 i] w fun r w' => r = .returned (.tuple #[.int .u64 r1, .int .u64 r2, .bool r3]) ∧ Only (fun _ => False) w w' := by
  have HC := Aside0.mk hC
  have HN := Aside0.mk hn
  have key := Aside0.mk (new_any hC hn hc hl)
  clear hC hn hc
  unfold bnds at hr
  by_cases hok : okB bs
  · have hokA := Aside0.mk hok
    by_cases h0 : i < 0
    · rw [if_neg (fun h => by have := h.2.1; omega)] at hr
      obtain ⟨rfl, rfl, rfl⟩ := trip hr
      clear hok hr
      go_enter Try.func27, Try.ntmps27
      go_wp2_with (go_at_call 31; refine key.out.mono ?_; rintro r w1 ⟨h, ho⟩; obtain ⟨N, rfl⟩ := h.elim (fun h => h.2) (fun h => absurd hokA.out h.1); clear h; replace ho := Aside0.mk ho)
      go_ret3
      exact ⟨rfl, ho.out⟩
    · by_cases h1 : i > (n : Int)
      · rw [if_neg (fun h => by have := h.2.2; have := HN.out; omega)] at hr
        obtain ⟨rfl, rfl, rfl⟩ := trip hr
        clear hok hr
        go_enter Try.func27, Try.ntmps27
        go_wp2_with (go_at_call 31; refine key.out.mono ?_; rintro r w1 ⟨h, ho⟩; obtain ⟨N, rfl⟩ := h.elim (fun h => h.2) (fun h => absurd hokA.out h.1); clear h; replace ho := Aside0.mk ho)
        go_ret3
        exact ⟨rfl, ho.out⟩
      · rw [if_pos ⟨hok, by omega, by have := HN.out; omega⟩] at hr
        obtain ⟨q, rfl⟩ := Int.eq_ofNat_of_zero_le (show 0 ≤ i by omega)
        rw [Int.toNat_natCast] at hr
        have hqn : q ≤ n := by omega
        clear hok
        rcases Nat.eq_zero_or_pos q with hq0 | hq0
        · subst hq0
          rw [if_pos (by rfl)] at hr
          by_cases hz : n = 0
          · rw [if_pos (by rw [← HN.out, hz])] at hr
            obtain ⟨rfl, rfl, rfl⟩ := trip hr
            clear hr
            subst hz
            go_enter Try.func27, Try.ntmps27
            go_wp2_with (go_at_call 31; refine key.out.mono ?_; rintro r w1 ⟨h, ho⟩; obtain ⟨N, rfl⟩ := h.elim (fun h => h.2) (fun h => absurd hokA.out h.1); clear h; replace ho := Aside0.mk ho)
            go_ret3
            exact ⟨rfl, ho.out⟩
          · rw [if_neg (by rw [← HN.out]; omega)] at hr
            obtain ⟨rfl, rfl, rfl⟩ := trip hr
            clear hr
            have hzI : (0 : Int) < (n : Int) := by omega
            have hgd : Aside0 (bs.getD (0 : Int).toNat 0 = bs.getD 0 0) := ⟨rfl⟩
            have hcell := Aside0.mk (fun W (o : Only (fun _ => False) w W) => num_at (Kd.C_below HC.out (below_of o)) 0 (by rw [← HN.out]; omega))
            go_enter Try.func27, Try.ntmps27
            go_wp2_with (go_at_call 31; refine key.out.mono ?_; rintro r w1 ⟨h, ho⟩; obtain ⟨N, rfl⟩ := h.elim (fun h => h.2) (fun h => absurd hokA.out h.1); clear h; replace ho := Aside0.mk ho; obtain ⟨ad, rfl, hx⟩ := hcell.out _ ho.out; have hx2 := hx; rw [add_none] at hx2)
            go_ret3
            exact ⟨by first | rfl | simp, ho.out⟩
        · obtain ⟨j, hj⟩ : ∃ j, q = j + 1 := ⟨q - 1, by omega⟩
          have hjI : (q : Int) - 1 = (j : Int) := by omega
          have hj0 : (0 : Int) ≤ (j : Int) := by omega
          have hjn : (j : Int) < (n : Int) := by omega
          have hqI : (0 : Int) < (q : Int) := by omega
          rw [if_neg (by omega), show q - 1 = j by omega] at hr
          have hcell := Aside0.mk (fun W (o : Only (fun _ => False) w W) => num_at (Kd.C_below HC.out (below_of o)) j (by rw [← HN.out]; omega))
          by_cases hz : q = n
          · rw [if_pos (by rw [← HN.out, hz])] at hr
            obtain ⟨rfl, rfl, rfl⟩ := trip hr
            clear hr hj
            generalize bs.getD j 0 = x at hcell ⊢
            subst hz
            go_enter Try.func27, Try.ntmps27
            go_wp2_with (go_at_call 31; refine key.out.mono ?_; rintro r w1 ⟨h, ho⟩; obtain ⟨N, rfl⟩ := h.elim (fun h => h.2) (fun h => absurd hokA.out h.1); clear h; replace ho := Aside0.mk ho; obtain ⟨ad, rfl, hx⟩ := hcell.out _ ho.out)
            go_ret3
            exact ⟨by first | rfl | simp, ho.out⟩
          · rw [if_neg (by rw [← HN.out]; omega)] at hr
            obtain ⟨rfl, rfl, rfl⟩ := trip hr
            have hzI : (q : Int) < (n : Int) := by omega
            have hq0I : (0 : Int) ≤ (q : Int) := by omega
            have hcell2 := Aside0.mk (fun W (o : Only (fun _ => False) w W) => num_at (Kd.C_below HC.out (below_of o)) q (by rw [← HN.out]; omega))
            clear hr hj hz
            generalize bs.getD j 0 = x at hcell ⊢
            generalize bs.getD q 0 = y at hcell2 ⊢
            go_enter Try.func27, Try.ntmps27
            go_wp2_with (go_at_call 31; refine key.out.mono ?_; rintro r w1 ⟨h, ho⟩; obtain ⟨N, rfl⟩ := h.elim (fun h => h.2) (fun h => absurd hokA.out h.1); clear h; replace ho := Aside0.mk ho; obtain ⟨ad, rfl, hx⟩ := hcell.out _ ho.out; obtain ⟨ad', e', hy⟩ := hcell2.out _ ho.out; cases e')
            go_ret3
            exact ⟨by first | rfl | simp, ho.out⟩
  · rw [if_neg (fun h => hok h.1)] at hr
    obtain ⟨rfl, rfl, rfl⟩ := trip hr
    replace hok := Aside0.mk hok
    clear hr
    go_enter Try.func27, Try.ntmps27
    go_wp2_with (go_at_call 31; refine key.out.mono ?_; rintro r w1 ⟨h, ho⟩; obtain rfl := h.elim (fun h => absurd h.1 hok.out) (fun h => h.2); clear h; replace ho := Aside0.mk ho)
    go_ret3
    exact ⟨rfl, ho.out⟩
end Go.Proofs.Ytdcbhakclhbdpaa.Hi
