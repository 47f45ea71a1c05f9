/- FrameNext: the frame with which any bytes begin, and that of any body. No conditions. -/
import Derived.Test.YtbfmmjdbnbfnmaaXHx24
import Derived.Test.YtbfmmjdbnbfnmaaNextKit
namespace Go.Proofs.Ytbfmmjdbnbfnmaa.Pure
open Go.RowKit Go.Proofs.Ytbfmmjdbnbfnmaa.XH Go.Proofs.YtbfmmjdbnbfnmaaW.PrintWords Go.Proofs.YtbfmmjdbnbfnmaaW.PrintLast
open Go.Proofs.Ytbfmmjdbnbfnmaa.Var Go.Proofs.Ytbfmmjdbnbfnmaa.Crc Go.Proofs.Ytbfmmjdbnbfnmaa.Frm

theorem rwrap_eq (l : List Nat) (hw : ∀ n ∈ l, n ≤ 255) (hl : l.length ≤ 65536) (k : Nat) (hk : 10 * l.length + 20 < k) : tallyroomref08_Wrap.f k (ofN l) = some (ofN (wrapped l)) := by
  unfold tallyroomref08_Wrap.f
  have h1 := vput_length_le l.length (by omega)
  rw [ofN_length, IntWalk.u64_in (l.length : Int) (by omega), rput k l.length (by omega) (by omega), Option.bind_some, if_pos (by rw [ofN_length]; omega), Option.bind_some, rsum_eq l hw (by omega) k (by omega), Option.bind_some, rtail_eq _ (sum_lt _), Option.bind_some, if_pos (by simp only [List.length_append, ofN_length]; have : (le4 (sum l)).length = 4 := rfl; omega), ← ofN_append, ← ofN_append, List.append_assoc]
  rfl
theorem wrap_long (l : List Nat) (hl : l.length > 65536) (k : Nat) : frame_Wrap.f k (ofN l) = some ([], 2) := by
  unfold frame_Wrap.f
  rw [if_pos (by rw [ofN_length]; omega)]
theorem next_go (ns bs : List Nat) (hw : ∀ n ∈ ns, n ≤ 255) (hb : ∀ n ∈ bs, n ≤ 255) (b : Bool) (hn : b = false → ns.length ≤ 3000) (hl : bs.length ≤ 140737488351232) (k : Nat) (hk : 3000000 < k) (hs : b = false → bs.length ≤ 3000 ∨ bs.length > 65536) : tallyroomlaw08_FrameNext.j0 k (ofN ns) (ofN bs) b = some true := by
  obtain ⟨k, rfl⟩ : ∃ m, k = m + 1 := ⟨k - 1, by omega⟩
  rw [tallyroomlaw08_FrameNext.j0]
  cases b with
  | true => rw [if_pos rfl]
  | false =>
    have hn := hn rfl
    rw [if_neg (by simp), next_eq ns hw (by omega) k (by omega), Option.bind_some, rnext_eq ns hw (by omega) k (by omega), Option.bind_some]
    by_cases h : bs.length > 65536
    · rw [wrap_long bs h, Option.bind_some, if_pos (by rw [ofN_length]; omega), if_pos rfl]; rfl
    · have h3 : bs.length ≤ 3000 := by rcases hs rfl with h | h <;> omega
      rw [wrap_eq bs hb (by omega) k (by omega), Option.bind_some, if_neg (by rw [ofN_length]; omega), bytes_eq (next_wf hw) (next_wf hw), Option.bind_some, if_pos (by simp), if_pos rfl, if_pos rfl, if_pos rfl, rwrap_eq bs hb (by omega) k (by omega), Option.bind_some, bytes_eq (wrapped_wf hb) (wrapped_wf hb), Option.bind_some]
      simp
theorem FrameNext : tallyroomlaw08_FrameNext.Pure := by
  intro l0 l1 _ h0 w0 _ h1 w1
  obtain ⟨ns, rfl, hw⟩ := ofN_byte w0
  obtain ⟨bs, rfl, hb⟩ := ofN_byte w1
  rw [ofN_length] at h1
  refine ⟨4000000, ?_⟩
  unfold tallyroomlaw08_FrameNext.f
  rw [alive08 (by omega), Option.bind_some, if_pos rfl]
  by_cases a : ns.length > 3000
  · rw [if_pos (by rw [ofN_length]; omega)]
    exact next_go ns bs hw hb true (by simp) (by omega) _ (by omega) (by simp)
  · rw [if_neg (by rw [ofN_length]; omega)]
    by_cases b : bs.length > 3000
    · rw [if_pos (by rw [ofN_length]; omega)]
      by_cases c : bs.length ≤ 65536
      · rw [if_pos (by rw [ofN_length]; omega)]
        exact next_go ns bs hw hb true (by simp) (by omega) _ (by omega) (by simp)
      · rw [if_neg (by rw [ofN_length]; omega)]
        exact next_go ns bs hw hb _ (fun _ => by omega) (by omega) _ (by omega) (fun _ => .inr (by omega))
    · rw [if_neg (by rw [ofN_length]; omega)]
      exact next_go ns bs hw hb _ (fun _ => by omega) (by omega) _ (by omega) (fun _ => .inl (by omega))
end Go.Proofs.Ytbfmmjdbnbfnmaa.Pure
