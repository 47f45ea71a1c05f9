/- DigestTexts: the hash of texts is that of their bytes with a 0 behind each, and a part is the same whenever asked. No conditions. -/
import Derived.Test.YtllepjhimkogjaaArgDigestTexts
import Derived.IntWalk
namespace Go.Proofs.Ytllepjhimkogjaa.Pure
open Go.RowKit Go.Proofs.Ytllepjhimkogjaa.XT Go.Proofs.YtllepjhimkogjaaW.PrintWords Go.Proofs.YtllepjhimkogjaaW.PrintLast Go.Proofs.YtllepjhimkogjaaW.PrintMore

namespace DigestTextsP
def In (x : Int) : Prop := 0 ≤ x ∧ x ≤ 18446744073709551615
theorem wrap_in (x : Int) : In (IntKind.u64.wrap x) := by rw [IntKind.wrap_u64]; unfold In; omega
theorem more_some (l : List Int) (hl : l.length ≤ 100) (d : Nat) : ∀ (i k : Nat) (x : Int), In x → i + d = l.length → d < k → ∃ r, In r ∧ digest_more.l0 k x l (l.length : Int) (i : Int) = some r := by
  induction d with
  | zero =>
    intro i k x hx hi hk
    obtain ⟨k, rfl⟩ : ∃ m, k = m + 1 := ⟨k - 1, by omega⟩
    rw [digest_more.l0, if_neg (by omega)]
    exact ⟨x, hx, rfl⟩
  | succ d ih =>
    intro i k x hx hi hk
    obtain ⟨k, rfl⟩ : ∃ m, k = m + 1 := ⟨k - 1, by omega⟩
    rw [digest_more.l0, if_pos (by omega), if_pos (by omega), if_pos (by omega), IntWalk.wrap64_in ((i : Int) + 1) (by omega), show (i : Int) + 1 = ((i + 1 : Nat) : Int) by omega]
    exact ih (i + 1) k _ (wrap_in _) (by omega) (by omega)
theorem hash_some (l : List Int) (hl : l.length ≤ 100) (k : Nat) (hk : l.length < k) : ∃ r, In r ∧ digest_Hash.f k l = some r := by
  obtain ⟨r, hr, h⟩ := more_some l hl l.length 0 k 14695981039346656037 (by unfold In; omega) (by omega) hk
  refine ⟨r, hr, ?_⟩
  unfold digest_Hash.f digest_more.f
  rw [show (0 : Int) = ((0 : Nat) : Int) from rfl, h, Option.bind_some]
theorem trace_some (d : Nat) : ∀ (i k : Nat) (x : Int) (l : List Int), i + d = 8 → l.length = i → d + 100 < k → ∃ r, In r ∧ digest_trace.l0 k x l (i : Int) = some r := by
  induction d with
  | zero =>
    intro i k x l hi hl hk
    obtain ⟨k, rfl⟩ : ∃ m, k = m + 1 := ⟨k - 1, by omega⟩
    obtain ⟨r, hr, h⟩ := hash_some l (by omega) k (by omega)
    rw [digest_trace.l0, if_neg (by omega), h, Option.bind_some]
    exact ⟨r, hr, rfl⟩
  | succ d ih =>
    intro i k x l hi hl hk
    obtain ⟨k, rfl⟩ : ∃ m, k = m + 1 := ⟨k - 1, by omega⟩
    rw [digest_trace.l0, if_pos (by omega), if_pos (by omega), IntWalk.wrap64_in ((i : Int) + 1) (by omega), show (i : Int) + 1 = ((i + 1 : Nat) : Int) by omega]
    exact ih (i + 1) k _ _ (by omega) (by simp; omega) (by omega)
theorem u64_wf {x : Int} (h : (Lit.int .u64 x).wf = true) : 0 ≤ x ∧ x ≤ 18446744073709551615 := by
  simpa [Lit.wf, IntKind.min, IntKind.max, IntKind.signed, IntKind.bits] using h
theorem u16_wf {x : Int} (h : (Lit.int .u16 x).wf = true) : 0 ≤ x ∧ x ≤ 65535 := by
  simpa [Lit.wf, IntKind.min, IntKind.max, IntKind.signed, IntKind.bits] using h
theorem u8_wf {x : Int} (h : (Lit.int .u8 x).wf = true) : 0 ≤ x ∧ x ≤ 255 := by
  simpa [Lit.wf, IntKind.min, IntKind.max, IntKind.signed, IntKind.bits] using h
theorem share_eq (k : Nat) (id t n : Int) (ht : In t) (h : digest_trace.f k id = some t) : digest_Share.f k id n = some (decide (t % 1000 < n)) := by
  unfold digest_Share.f
  unfold In at ht
  rw [h, Option.bind_some, Int.tmod_eq_emod_of_nonneg (by omega), IntWalk.wrap64_in (t % 1000) (by omega)]
theorem part_eq (k : Nat) (id t n : Int) (ht : In t) (h : digest_trace.f k id = some t) (hn : 1 ≤ n ∧ n ≤ 1000) : digest_Part.f k id n = some (t % n) := by
  unfold digest_Part.f
  unfold In at ht
  have h1 := Int.emod_nonneg t (show n ≠ 0 by omega)
  have h2 := Int.emod_lt_of_pos t (show 0 < n by omega)
  rw [if_neg (by omega), h, Option.bind_some, IntWalk.u64_in n (by omega), if_neg (by omega), Int.tmod_eq_emod_of_nonneg (by omega), IntWalk.wrap64_in (t % n) (by omega)]
/-- Bytes are put in. -/
def feed (x : Int) : List Int → Int
  | [] => x
  | c :: l => feed (IntKind.u64.wrap ((Go.bits .xor .u64 x (IntKind.u64.wrap c)) * 1099511628211)) l
theorem feed_append (a b : List Int) : ∀ x, feed x (a ++ b) = feed (feed x a) b := by
  induction a with
  | nil => intro x; rfl
  | cons c a ih => intro x; exact ih _
theorem more_loop (l : List Int) (hl : l.length ≤ 1000000) (d : Nat) : ∀ (i k : Nat) (x : Int), i + d = l.length → d < k → digest_more.l0 k x l (l.length : Int) (i : Int) = some (feed x (l.drop i)) := by
  induction d with
  | zero =>
    intro i k x hi hk
    obtain ⟨k, rfl⟩ : ∃ m, k = m + 1 := ⟨k - 1, by omega⟩
    rw [digest_more.l0, if_neg (by omega), List.drop_of_length_le (by omega)]; rfl
  | succ d ih =>
    intro i k x hi hk
    obtain ⟨k, rfl⟩ : ∃ m, k = m + 1 := ⟨k - 1, by omega⟩
    have hlt : i < l.length := by omega
    rw [digest_more.l0, if_pos (by omega), if_pos (by omega), if_pos (by omega), IntWalk.wrap64_in ((i : Int) + 1) (by omega), show (i : Int) + 1 = ((i + 1 : Nat) : Int) by omega, ih (i + 1) k _ (by omega) (by omega), List.drop_eq_getElem_cons hlt, feed]
    have : rd l (i : Int) = l[i] := by simp [rd, hlt]
    rw [this]
theorem more_eq (l : List Int) (hl : l.length ≤ 1000000) (k : Nat) (x : Int) (hk : l.length < k) : digest_more.f k x l = some (feed x l) := by
  have := more_loop l hl l.length 0 k x (by omega) hk
  exact this
def flat (l : List ByteArray) : List Int := (l.map fun s => digest_Text.nums s ++ [0]).flatten
theorem rdOf_nat (l : List ByteArray) (i : Nat) (h : i < l.length) : rdOf ByteArray.empty l (i : Int) = l[i] := by simp [rdOf, h]
theorem text_loop (l : List ByteArray) (hl : l.length ≤ 30) (hs : ∀ s ∈ l, s.size ≤ 300) (d : Nat) : ∀ (i k : Nat) (x : Int), i + d = l.length → d + 1000 < k → digest_Text.l0 k l x (i : Int) = some (feed x (flat (l.drop i))) := by
  induction d with
  | zero =>
    intro i k x hi hk
    obtain ⟨k, rfl⟩ : ∃ m, k = m + 1 := ⟨k - 1, by omega⟩
    rw [digest_Text.l0, if_neg (by omega), List.drop_of_length_le (by omega)]; rfl
  | succ d ih =>
    intro i k x hi hk
    obtain ⟨k, rfl⟩ : ∃ m, k = m + 1 := ⟨k - 1, by omega⟩
    have hlt : i < l.length := by omega
    have hsz := hs _ (List.getElem_mem hlt)
    have hn := digest_Text.nums_length l[i]
    rw [digest_Text.l0, if_pos (by omega), if_pos (by omega), rdOf_nat l i hlt, if_pos (by omega), more_eq _ (by omega) k x (by omega), Option.bind_some, more_eq _ (by simp) k _ (by simp; omega), Option.bind_some, IntWalk.wrap64_in ((i : Int) + 1) (by omega), show (i : Int) + 1 = ((i + 1 : Nat) : Int) by omega, ih (i + 1) k _ (by omega) (by omega), List.drop_eq_getElem_cons hlt]
    unfold flat
    rw [List.map_cons, List.flatten_cons, feed_append, feed_append]
theorem bytes_nums (s : ByteArray) : bytesOf s = digest_Text.nums s := rfl
theorem flat_take (l : List ByteArray) {i : Nat} (h : i < l.length) : flat (l.take (i + 1)) = flat (l.take i) ++ (digest_Text.nums l[i] ++ [0]) := by
  unfold flat
  rw [List.take_succ_eq_append_getElem h, List.map_append, List.flatten_append]
  simp
theorem law_loop (l : List ByteArray) (hl : l.length ≤ 30) (id n : Int) (hn : 0 ≤ n ∧ n ≤ 255) (d : Nat) : ∀ (i k : Nat), i + d = l.length → d + 20000 < k → (∀ s ∈ l.take i, s.size ≤ 300) → (flat (l.take i)).length ≤ 301 * i →
    tallyroomlaw09_DigestTexts.l0 k l id n (flat (l.take i)) (i : Int) = some true := by
  induction d with
  | zero =>
    intro i k hi hk hs hb
    obtain ⟨k, rfl⟩ : ∃ m, k = m + 1 := ⟨k - 1, by omega⟩
    rw [List.take_of_length_le (by omega)] at hs hb ⊢
    have ht := text_loop l hl hs l.length 0 k 14695981039346656037 (by omega) (by omega)
    rw [List.drop_zero] at ht
    have ht : digest_Text.f k l = some (feed 14695981039346656037 (flat l)) := ht
    have hh : digest_Hash.f k (flat l) = some (feed 14695981039346656037 (flat l)) := by
      unfold digest_Hash.f; rw [more_eq _ (by omega) k _ (by omega), Option.bind_some]
    obtain ⟨t, hT, h⟩ := trace_some 8 0 k id [] (by omega) rfl (by omega)
    have h : digest_trace.f k id = some t := h
    rw [tallyroomlaw09_DigestTexts.l0, if_neg (by omega), IntWalk.wrap64_in n (by omega), ht, hh]
    by_cases h0 : n = 0
    · subst h0
      have hp : digest_Part.f k id 0 = some 0 := by unfold digest_Part.f; rw [if_pos (by omega)]
      rw [hp, Option.bind_some, Option.bind_some, Option.bind_some, if_pos rfl, Option.bind_some, if_pos rfl, if_pos rfl, if_pos rfl]
    · have hp := part_eq k id t n hT h (by omega)
      have q1 := Int.emod_nonneg t h0
      have q2 := Int.emod_lt_of_pos t (show 0 < n by omega)
      rw [hp, Option.bind_some, Option.bind_some, Option.bind_some, if_pos rfl, Option.bind_some, if_pos rfl, if_neg h0, if_pos (by omega), if_pos q1, decide_eq_true q2]
  | succ d ih =>
    intro i k hi hk hs hb
    obtain ⟨k, rfl⟩ : ∃ m, k = m + 1 := ⟨k - 1, by omega⟩
    have hlt : i < l.length := by omega
    have hn2 := digest_Text.nums_length l[i]
    rw [tallyroomlaw09_DigestTexts.l0, if_pos (by omega), if_pos (by omega), rdOf_nat l i hlt]
    by_cases c : (l[i].size : Int) > 300
    · rw [if_pos c]
    · rw [if_neg c, if_pos (by omega), Option.bind_some, bytes_nums, if_pos (by rw [List.length_append]; omega), IntWalk.wrap64_in ((i : Int) + 1) (by omega), show (i : Int) + 1 = ((i + 1 : Nat) : Int) by omega, List.append_assoc, ← flat_take l hlt]
      refine ih (i + 1) k (by omega) (by omega) (fun s h => ?_) ?_
      · rw [List.take_succ_eq_append_getElem hlt] at h
        rcases List.mem_append.1 h with h | h
        · exact hs s h
        · rw [List.mem_singleton.1 h]; omega
      · rw [flat_take l hlt, List.length_append, List.length_append, List.length_singleton]; omega
end DigestTextsP

open DigestTextsP in
theorem DigestTexts : tallyroomlaw09_DigestTexts.Pure2 := by
  intro l id n _ _ hn
  have hn := u8_wf hn
  refine ⟨30000, ?_⟩
  unfold tallyroomlaw09_DigestTexts.f tallyroomlaw09_alive.f
  rw [Option.bind_some, if_pos rfl]
  by_cases h : (l.length : Int) > 30
  · rw [if_pos h]
  · rw [if_neg h]
    have := law_loop l (by omega) id n hn l.length 0 30000 (by omega) (by omega) (by simp) (by simp [flat])
    simpa [flat] using this
end Go.Proofs.Ytllepjhimkogjaa.Pure
