/- DigestShares: a greater share has all of a smaller one, and every trace has a part. No conditions. -/
import Derived.Test.YtllepjhimkogjaaXBx1
import Derived.IntWalk
namespace Go.Proofs.Ytllepjhimkogjaa.Pure
open Go.RowKit Go.Proofs.Ytllepjhimkogjaa.XB Go.Proofs.YtllepjhimkogjaaW.PrintWords Go.Proofs.YtllepjhimkogjaaW.PrintLast Go.Proofs.YtllepjhimkogjaaW.PrintMore

namespace DigestSharesP
def In (x : Int) : Prop := 0 ≤ x ∧ x ≤ 18446744073709551615
theorem wrap_in (x : Int) : In (IntKind.u64.wrap x) := by rw [IntKind.wrap_u64]; unfold In; omega
theorem more_some (l : List Int) (hl : l.length ≤ 100) (d : Nat) : ∀ (i k : Nat) (x : Int), In x → i + d = l.length → d < k → ∃ r, In r ∧ digest_more.l0 k x l (l.length : Int) (i : Int) = some r := by
  induction d with
  | zero =>
    intro i k x hx hi hk
    obtain ⟨k, rfl⟩ : ∃ m, k = m + 1 := ⟨k - 1, by omega⟩
    rw [digest_more.l0, if_neg (by omega)]
    exact ⟨x, hx, rfl⟩
  | succ d ih =>
    intro i k x hx hi hk
    obtain ⟨k, rfl⟩ : ∃ m, k = m + 1 := ⟨k - 1, by omega⟩
    rw [digest_more.l0, if_pos (by omega), if_pos (by omega), if_pos (by omega), IntWalk.wrap64_in ((i : Int) + 1) (by omega), show (i : Int) + 1 = ((i + 1 : Nat) : Int) by omega]
    exact ih (i + 1) k _ (wrap_in _) (by omega) (by omega)
theorem hash_some (l : List Int) (hl : l.length ≤ 100) (k : Nat) (hk : l.length < k) : ∃ r, In r ∧ digest_Hash.f k l = some r := by
  obtain ⟨r, hr, h⟩ := more_some l hl l.length 0 k 14695981039346656037 (by unfold In; omega) (by omega) hk
  refine ⟨r, hr, ?_⟩
  unfold digest_Hash.f digest_more.f
  rw [show (0 : Int) = ((0 : Nat) : Int) from rfl, h, Option.bind_some]
theorem trace_some (d : Nat) : ∀ (i k : Nat) (x : Int) (l : List Int), i + d = 8 → l.length = i → d + 100 < k → ∃ r, In r ∧ digest_trace.l0 k x l (i : Int) = some r := by
  induction d with
  | zero =>
    intro i k x l hi hl hk
    obtain ⟨k, rfl⟩ : ∃ m, k = m + 1 := ⟨k - 1, by omega⟩
    obtain ⟨r, hr, h⟩ := hash_some l (by omega) k (by omega)
    rw [digest_trace.l0, if_neg (by omega), h, Option.bind_some]
    exact ⟨r, hr, rfl⟩
  | succ d ih =>
    intro i k x l hi hl hk
    obtain ⟨k, rfl⟩ : ∃ m, k = m + 1 := ⟨k - 1, by omega⟩
    rw [digest_trace.l0, if_pos (by omega), if_pos (by omega), IntWalk.wrap64_in ((i : Int) + 1) (by omega), show (i : Int) + 1 = ((i + 1 : Nat) : Int) by omega]
    exact ih (i + 1) k _ _ (by omega) (by simp; omega) (by omega)
theorem u64_wf {x : Int} (h : (Lit.int .u64 x).wf = true) : 0 ≤ x ∧ x ≤ 18446744073709551615 := by
  simpa [Lit.wf, IntKind.min, IntKind.max, IntKind.signed, IntKind.bits] using h
theorem u16_wf {x : Int} (h : (Lit.int .u16 x).wf = true) : 0 ≤ x ∧ x ≤ 65535 := by
  simpa [Lit.wf, IntKind.min, IntKind.max, IntKind.signed, IntKind.bits] using h
theorem u8_wf {x : Int} (h : (Lit.int .u8 x).wf = true) : 0 ≤ x ∧ x ≤ 255 := by
  simpa [Lit.wf, IntKind.min, IntKind.max, IntKind.signed, IntKind.bits] using h
theorem share_eq (k : Nat) (id t n : Int) (ht : In t) (h : digest_trace.f k id = some t) : digest_Share.f k id n = some (decide (t % 1000 < n)) := by
  unfold digest_Share.f
  unfold In at ht
  rw [h, Option.bind_some, Int.tmod_eq_emod_of_nonneg (by omega), IntWalk.wrap64_in (t % 1000) (by omega)]
theorem part_eq (k : Nat) (id t n : Int) (ht : In t) (h : digest_trace.f k id = some t) (hn : 1 ≤ n ∧ n ≤ 1000) : digest_Part.f k id n = some (t % n) := by
  unfold digest_Part.f
  unfold In at ht
  have h1 := Int.emod_nonneg t (show n ≠ 0 by omega)
  have h2 := Int.emod_lt_of_pos t (show 0 < n by omega)
  rw [if_neg (by omega), h, Option.bind_some, IntWalk.u64_in n (by omega), if_neg (by omega), Int.tmod_eq_emod_of_nonneg (by omega), IntWalk.wrap64_in (t % n) (by omega)]
end DigestSharesP

open DigestSharesP in
theorem DigestShares : tallyroomlaw09_DigestShares.Pure := by
  intro id a b n _ ha hb hn
  have ha := u16_wf ha
  have hb := u16_wf hb
  have hn := u8_wf hn
  refine ⟨200, ?_⟩
  obtain ⟨t, ht, h⟩ := trace_some 8 0 200 id [] (by omega) rfl (by omega)
  have h : digest_trace.f 200 id = some t := h
  unfold tallyroomlaw09_DigestShares.f tallyroomlaw09_alive.f
  rw [Option.bind_some, if_pos rfl, IntWalk.wrap64_in n (by omega), IntWalk.wrap64_in (1 + n) (by omega), IntWalk.wrap64_in a (by omega), IntWalk.wrap64_in b (by omega)]
  have hs := fun m => share_eq 200 id t m ht h
  have p1 := part_eq 200 id t (1 + n) ht h (by omega)
  have p2 := part_eq 200 id t 1 ht h (by omega)
  have hm1 := Int.emod_nonneg t (show 1 + n ≠ 0 by omega)
  have hm2 := Int.emod_lt_of_pos t (show 0 < 1 + n by omega)
  have e2 : t % 1 = 0 := by omega
  have e3 : decide (t % 1000 < 1000) = true := by rw [decide_eq_true_eq]; omega
  have e4 : decide (t % 1000 < 0) = false := by rw [decide_eq_false_iff_not]; omega
  rw [p1, Option.bind_some, hs, Option.bind_some, hs, Option.bind_some, p2, Option.bind_some, hs, Option.bind_some, hs, Option.bind_some, e2, e3, e4]
  have q1 : t % (1 + n) ≥ 0 := hm1
  have q2 : t % (1 + n) ≤ n := by omega
  by_cases c : t % 1000 < mn a b
  · have c2 : t % 1000 < mx a b := by
      unfold mn at c; unfold mx
      split at c <;> split <;> omega
    rw [if_pos (decide_eq_true c), if_pos (decide_eq_true c2), if_pos q1, if_pos q2]
    rfl
  · rw [if_neg (by rw [decide_eq_true_eq]; exact c), if_pos q1, if_pos q2]
    rfl
end Go.Proofs.Ytllepjhimkogjaa.Pure
