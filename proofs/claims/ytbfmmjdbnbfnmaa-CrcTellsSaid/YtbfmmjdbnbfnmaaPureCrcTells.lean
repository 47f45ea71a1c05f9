/- CrcTells: what is sealed is opened, and with one bit or two turned it is not. No conditions. -/
import Derived.Test.YtbfmmjdbnbfnmaaXDx0
import Derived.Test.YtbfmmjdbnbfnmaaXDx23
import Derived.Test.YtbfmmjdbnbfnmaaXDx29
import Derived.Test.YtbfmmjdbnbfnmaaCrcTurn
namespace Go.Proofs.Ytbfmmjdbnbfnmaa.Pure
open Go.RowKit Go.Proofs.Ytbfmmjdbnbfnmaa.XD Go.Proofs.YtbfmmjdbnbfnmaaW.PrintWords Go.Proofs.YtbfmmjdbnbfnmaaW.PrintLast Go.Proofs.YtbfmmjdbnbfnmaaW.PrintMore
open Go.Proofs.Ytbfmmjdbnbfnmaa.Var Go.Proofs.Ytbfmmjdbnbfnmaa.Crc

theorem ofN_set (l : List Nat) (i x : Nat) : (ofN l).set i (x : Int) = ofN (l.set i x) := by simp [ofN, List.map_set]
theorem xor_u8 (a b : Nat) (ha : a ≤ 255) (hb : b ≤ 255) : Go.bits .xor .u8 (a : Int) (b : Int) = ((a ^^^ b : Nat) : Int) := by
  have hx : a ^^^ b < 2 ^ 8 := Nat.xor_lt_two_pow (by omega) (by omega)
  have h1 : (BitVec.ofInt 8 (a : Int)).toNat = a := by
    rw [BitVec.ofInt_natCast, BitVec.toNat_ofNat]; exact Nat.mod_eq_of_lt (by omega)
  have h2 : (BitVec.ofInt 8 (b : Int)).toNat = b := by
    rw [BitVec.ofInt_natCast, BitVec.toNat_ofNat]; exact Nat.mod_eq_of_lt (by omega)
  show IntKind.u8.wrap ((BitVec.ofInt 8 (a : Int) ^^^ BitVec.ofInt 8 (b : Int)).toNat : Int) = _
  rw [BitVec.toNat_xor, h1, h2, IntKind.wrap_u8]
  omega
theorem shl_bit (j : Nat) (h : j < 8) : shl .u8 1 (j : Int) = ((2 ^ j : Nat) : Int) := by
  have : ∀ i : Fin 8, shl .u8 1 ((i.val : Nat) : Int) = ((2 ^ i.val : Nat) : Int) := by decide +kernel
  exact this ⟨j, h⟩
/-- The turned bytes, as the program makes them. -/
theorem turn_eq (s : List Nat) (hw : ∀ x ∈ s, x ≤ 255) (p : Nat) : (ofN s).set (((p / 8 : Nat) : Int)).toNat (Go.bits .xor .u8 (rd (ofN s) ((p / 8 : Nat) : Int)) (shl .u8 1 ((p % 8 : Nat) : Int))) = ofN (turned s p) := by
  rw [rd_ofN, shl_bit _ (by omega), xor_u8 _ _ (getD_le hw _) (by have : 2 ^ (p % 8) < 2 ^ 8 := Nat.pow_lt_pow_right (by decide) (by omega); omega), Int.toNat_natCast, ofN_set]
  rfl
theorem CrcTells : tallyroomlaw02_CrcTells.Pure := by
  intro l a b _ hb hl ha hbb
  obtain ⟨ns, rfl, hw⟩ := ofN_byte hl
  have ha := u16_wf ha
  obtain ⟨a, rfl⟩ := Int.eq_ofNat_of_zero_le ha.1
  have hbb := u16_wf hbb
  obtain ⟨b, rfl⟩ := Int.eq_ofNat_of_zero_le hbb.1
  refine ⟨10 * ns.length + 100, ?_⟩
  unfold tallyroomlaw02_CrcTells.f tallyroomlaw02_alive.f
  rw [Option.bind_some, if_pos rfl]
  by_cases h : ((ofN ns).length : Int) > 1990
  · rw [if_pos h]
  · rw [if_neg h]
    rw [ofN_length] at h hb
    have hsl := sealed_length ns
    have hsw := sealed_wf hw
    have h1 := tells_one ns hw
    have h2 := tells_two ns hw (by omega)
    rw [sealed_eq ns hw (by omega) _ (by omega), Option.bind_some, open_eq _ hsw (by omega) _ (by omega), Option.bind_some, opened_sealed, if_pos (by rfl), bytes_eq hw hw, Option.bind_some]
    generalize hs : sealed ns = s at hsl hsw h1 h2 ⊢
    rw [show (!decide (ns = ns)) = false by simp]
    have e1 : wrap64 (8 * ((ofN s).length : Int)) = ((8 * s.length : Nat) : Int) := by rw [ofN_length, IntWalk.wrap64_in _ (by omega)]; omega
    have e2 : ∀ c : Nat, c ≤ 65535 → Int.tmod (wrap64 ((c : Nat) : Int)) ((8 * s.length : Nat) : Int) = ((c % (8 * s.length) : Nat) : Int) := fun c hc => by
      rw [IntWalk.wrap64_in _ (by omega), Int.tmod_eq_emod_of_nonneg (by omega)]; omega
    have e3 : ∀ p : Nat, p ≤ 65535 → wrap64 (Int.tdiv ((p : Nat) : Int) 8) = ((p / 8 : Nat) : Int) := fun p hp => by
      rw [Int.tdiv_eq_ediv_of_nonneg (by omega), IntWalk.wrap64_in _ (by omega)]; omega
    have e4 : ∀ p : Nat, p ≤ 65535 → IntKind.u64.wrap (Int.tmod ((p : Nat) : Int) 8) = ((p % 8 : Nat) : Int) := fun p hp => by
      rw [Int.tmod_eq_emod_of_nonneg (by omega), IntWalk.u64_in _ (by omega)]; omega
    have hp := Nat.mod_lt a (show 0 < 8 * s.length by omega)
    have hq := Nat.mod_lt b (show 0 < 8 * s.length by omega)
    rw [tallyroomlaw02_CrcTells.j0, if_neg (by simp), e1, e2 a (by omega), e2 b (by omega)]
    generalize a % (8 * s.length) = p at hp ⊢
    generalize b % (8 * s.length) = q at hq ⊢
    rw [e3 p (by omega), e4 p (by omega), e3 q (by omega), e4 q (by omega), turn_eq s hsw p]
    have htw := turned_wf p hsw
    have htl := turned_length s p
    rw [if_neg (by omega), if_pos (by omega), if_pos (by rw [ofN_length]; omega), if_pos (by omega), Option.bind_some, open_eq _ htw (by omega) _ (by omega), Option.bind_some]
    have r1 : ((opened (turned s p)).2 : Int) = 12 := by rw [h1 p (by omega)]; rfl
    by_cases e : p = q
    · rw [if_pos (by omega), Option.bind_some, if_pos r1]
      simp only
      rw [r1]; rfl
    · have htw2 := turned_wf q htw
      have htl2 := turned_length (turned s p) q
      rw [if_neg (by omega), if_pos (by omega), if_pos (by rw [ofN_length]; omega), if_pos (by omega), turn_eq _ htw q, open_eq _ htw2 (by omega) _ (by omega), Option.bind_some, if_pos r1]
      simp only
      rw [h2 p q e (by omega) (by omega)]; rfl

end Go.Proofs.Ytbfmmjdbnbfnmaa.Pure
