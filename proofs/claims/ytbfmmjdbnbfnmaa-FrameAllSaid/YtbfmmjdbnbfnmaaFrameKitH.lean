/- Plain facts of this session's texts VarBase, VarLaws, CrcBase, CrcTurn, FrameBase, FrameMore, in one text. -/
import Derived.Test.YtbfmmjdbnbfnmaaXHx0
import Derived.Test.YtbfmmjdbnbfnmaaXHx1
import Derived.Test.YtbfmmjdbnbfnmaaXHx10
import Derived.Test.YtbfmmjdbnbfnmaaXHx11
import Derived.Test.YtbfmmjdbnbfnmaaXHx12
import Derived.Test.YtbfmmjdbnbfnmaaXHx13
import Derived.Test.YtbfmmjdbnbfnmaaXHx14
import Derived.Test.YtbfmmjdbnbfnmaaXHx15
import Derived.Test.YtbfmmjdbnbfnmaaXHx16
import Derived.Test.YtbfmmjdbnbfnmaaXHx17
import Derived.Test.YtbfmmjdbnbfnmaaXHx18
import Derived.Test.YtbfmmjdbnbfnmaaXHx2
import Derived.Test.YtbfmmjdbnbfnmaaXHx20
import Derived.Test.YtbfmmjdbnbfnmaaXHx22
import Derived.Test.YtbfmmjdbnbfnmaaXHx3
import Derived.Test.YtbfmmjdbnbfnmaaXHx4
import Derived.Test.YtbfmmjdbnbfnmaaXHx5
import Derived.Test.YtbfmmjdbnbfnmaaXHx6
import Derived.Test.YtbfmmjdbnbfnmaaXHx7
import Derived.Test.YtbfmmjdbnbfnmaaXHx8
import Derived.Test.YtbfmmjdbnbfnmaaXHx9
import Derived.IntWalk
import Derived.Laws.Bits64b
import Derived.Laws.BitsLemmas
namespace Go.Proofs.Ytbfmmjdbnbfnmaa.Var
open Go.RowKit Go.Proofs.Ytbfmmjdbnbfnmaa.XH Go.Proofs.YtbfmmjdbnbfnmaaW.PrintWords Go.Proofs.YtbfmmjdbnbfnmaaW.PrintLast Go.Proofs.YtbfmmjdbnbfnmaaW.PrintMore

/-- A list of numbers from 0 on. -/
def ofN (l : List Nat) : List Int := l.map (Nat.cast : Nat → Int)
theorem ofN_length (l : List Nat) : (ofN l).length = l.length := by simp [ofN]
theorem ofN_append (a b : List Nat) : ofN (a ++ b) = ofN a ++ ofN b := by simp [ofN]
theorem ofN_drop (a : List Nat) (k : Nat) : (ofN a).drop k = ofN (a.drop k) := by simp [ofN]
theorem ofN_take (a : List Nat) (k : Nat) : (ofN a).take k = ofN (a.take k) := by simp [ofN]
theorem rd_ofN (l : List Nat) (i : Nat) : rd (ofN l) (i : Int) = ((l.getD i 0 : Nat) : Int) := by
  unfold rd ofN
  simp only [Int.toNat_natCast, List.getD_eq_getElem?_getD, List.getElem?_map]
  cases l[i]? <;> simp
theorem u8_wf {x : Int} (h : (Lit.int .u8 x).wf = true) : 0 ≤ x ∧ x ≤ 255 := by
  simpa [Lit.wf, IntKind.min, IntKind.max, IntKind.signed, IntKind.bits] using h
theorem u64_wf {x : Int} (h : (Lit.int .u64 x).wf = true) : 0 ≤ x ∧ x ≤ 18446744073709551615 := by
  simpa [Lit.wf, IntKind.min, IntKind.max, IntKind.signed, IntKind.bits] using h
theorem u16_wf {x : Int} (h : (Lit.int .u16 x).wf = true) : 0 ≤ x ∧ x ≤ 65535 := by
  simpa [Lit.wf, IntKind.min, IntKind.max, IntKind.signed, IntKind.bits] using h
theorem i64_wf {x : Int} (h : (Lit.int .i64 x).wf = true) : -9223372036854775808 ≤ x ∧ x ≤ 9223372036854775807 := by
  simpa [Lit.wf, IntKind.min, IntKind.max, IntKind.signed, IntKind.bits] using h
theorem ofN_of (l : List Int) (B : Nat) (h : ∀ x ∈ l, 0 ≤ x ∧ x ≤ B) : ∃ ns : List Nat, l = ofN ns ∧ ∀ n ∈ ns, n ≤ B := by
  induction l with
  | nil => exact ⟨[], rfl, by simp⟩
  | cons x l ih =>
    obtain ⟨ns, rfl, hn⟩ := ih fun y hy => h y (List.mem_cons_of_mem _ hy)
    have hx := h x (List.mem_cons_self ..)
    obtain ⟨n, rfl⟩ := Int.eq_ofNat_of_zero_le hx.1
    refine ⟨n :: ns, rfl, fun m hm => ?_⟩
    rcases List.mem_cons.1 hm with rfl | hm
    · omega
    · exact hn m hm
theorem getD_le {ns : List Nat} {B : Nat} (h : ∀ n ∈ ns, n ≤ B) (i : Nat) : ns.getD i 0 ≤ B := by
  rw [List.getD_eq_getElem?_getD]
  cases e : ns[i]? with
  | none => simp
  | some y => exact h y (List.mem_of_getElem? e)

/-! ### bytes -/
theorem andNot128 (n : Nat) (h : n ≤ 255) : Go.bits .andNot .u8 (n : Int) 128 = ((n % 128 : Nat) : Int) := by
  have : ∀ i : Fin 256, Go.bits .andNot .u8 ((i.val : Nat) : Int) 128 = ((i.val % 128 : Nat) : Int) := by decide +kernel
  exact this ⟨n, by omega⟩
theorem and128 (n : Nat) (h : n ≤ 255) : (Go.bits .and .u8 (n : Int) 128 = 0) = (n < 128) := by
  have : ∀ i : Fin 256, (Go.bits .and .u8 ((i.val : Nat) : Int) 128 = 0) ↔ (i.val < 128) := by decide +kernel
  exact propext (this ⟨n, by omega⟩)
theorem or128 (n : Nat) (h : n ≤ 255) : Go.bits .or .u8 (n : Int) 128 = ((128 + n % 128 : Nat) : Int) := by
  have : ∀ i : Fin 256, Go.bits .or .u8 ((i.val : Nat) : Int) 128 = ((128 + i.val % 128 : Nat) : Int) := by decide +kernel
  exact this ⟨n, by omega⟩

/-! ### how many bits -/
/-- n has b bits. -/
def IsLen (n b : Nat) : Prop := (n = 0 ∧ b = 0) ∨ (1 ≤ b ∧ 2 ^ (b - 1) ≤ n ∧ n < 2 ^ b)
instance (n b : Nat) : Decidable (IsLen n b) := by unfold IsLen; infer_instance
def tab : ByteArray := ⟨#[0, 1, 2, 2, 3, 3, 3, 3, 4, 4, 4, 4, 4, 4, 4, 4, 5, 5, 5, 5, 5, 5, 5, 5, 5, 5, 5, 5, 5, 5, 5, 5, 6, 6, 6, 6, 6, 6, 6, 6, 6, 6, 6, 6, 6, 6, 6, 6, 6, 6, 6, 6, 6, 6, 6, 6, 6, 6, 6, 6, 6, 6, 6, 6, 7, 7, 7, 7, 7, 7, 7, 7, 7, 7, 7, 7, 7, 7, 7, 7, 7, 7, 7, 7, 7, 7, 7, 7, 7, 7, 7, 7, 7, 7, 7, 7, 7, 7, 7, 7, 7, 7, 7, 7, 7, 7, 7, 7, 7, 7, 7, 7, 7, 7, 7, 7, 7, 7, 7, 7, 7, 7, 7, 7, 7, 7, 7, 7, 8, 8, 8, 8, 8, 8, 8, 8, 8, 8, 8, 8, 8, 8, 8, 8, 8, 8, 8, 8, 8, 8, 8, 8, 8, 8, 8, 8, 8, 8, 8, 8, 8, 8, 8, 8, 8, 8, 8, 8, 8, 8, 8, 8, 8, 8, 8, 8, 8, 8, 8, 8, 8, 8, 8, 8, 8, 8, 8, 8, 8, 8, 8, 8, 8, 8, 8, 8, 8, 8, 8, 8, 8, 8, 8, 8, 8, 8, 8, 8, 8, 8, 8, 8, 8, 8, 8, 8, 8, 8, 8, 8, 8, 8, 8, 8, 8, 8, 8, 8, 8, 8, 8, 8, 8, 8, 8, 8, 8, 8, 8, 8, 8, 8, 8, 8, 8, 8, 8, 8, 8, 8, 8, 8, 8, 8, 8, 8]⟩
theorem tab_ok : ∀ i : Fin 256, IsLen i.val (bt tab (i.val : Int)).toNat ∧ 0 ≤ bt tab (i.val : Int) ∧ bt tab (i.val : Int) ≤ 8 := by decide +kernel
theorem len_up {n b s : Nat} (hn : n / 2 ^ s ≠ 0) (h : IsLen (n / 2 ^ s) b) : IsLen n (b + s) := by
  rcases h with ⟨h, _⟩ | ⟨h1, h2, h3⟩
  · exact absurd h hn
  · refine .inr ⟨by omega, ?_, ?_⟩
    · have := (Nat.le_div_iff_mul_le (Nat.two_pow_pos s)).1 h2
      rw [← Nat.pow_add] at this
      rwa [show b + s - 1 = b - 1 + s by omega]
    · have := (Nat.div_lt_iff_lt_mul (Nat.two_pow_pos s)).1 h3
      rwa [← Nat.pow_add] at this
theorem small (n x : Nat) (hn : n < 256) (hx : x ≤ 56) : ∃ b : Nat, wrap64 ((x : Int) + wrap64 (bt tab (n : Int))) = ((x + b : Nat) : Int) ∧ IsLen n b ∧ b ≤ 8 := by
  obtain ⟨h1, h2, h3⟩ := tab_ok ⟨n, hn⟩
  obtain ⟨b, hb⟩ := Int.eq_ofNat_of_zero_le h2
  simp only at hb h1 h3
  rw [hb] at h1 h3 ⊢
  refine ⟨b, ?_, by simpa using h1, by omega⟩
  rw [IntWalk.wrap64_in (b : Int) (by omega), IntWalk.wrap64_in _ (by omega)]
  omega
set_option maxRecDepth 100000 in
theorem len_j0 (k n x : Nat) (hn : n < 2 ^ 32) (hx : x = 0 ∨ x = 32) : ∃ b : Nat, bits_Len64.j0 (k + 1) (n : Int) (x : Int) = some ((x + b : Nat) : Int) ∧ IsLen n b ∧ b ≤ 32 := by
  rw [bits_Len64.j0]
  rw [show (n : Int) / 65536 / 256 % 256 = ((n / 65536 / 256 % 256 : Nat) : Int) by omega, show (n : Int) / 65536 % 256 = ((n / 65536 % 256 : Nat) : Int) by omega, show (n : Int) / 256 % 256 = ((n / 256 % 256 : Nat) : Int) by omega, show (n : Int) % 256 = ((n % 256 : Nat) : Int) by omega]
  by_cases h1 : (n : Int) ≥ 65536
  · rw [if_pos h1]
    by_cases h2 : (n : Int) / 65536 ≥ 256
    · rw [if_pos h2, if_pos (by omega), if_pos (by omega)]
      have e1 : wrap64 (wrap64 ((x : Int) + 16) + 8) = ((x + 24 : Nat) : Int) := by
        rw [IntWalk.wrap64_in ((x : Int) + 16) (by omega), IntWalk.wrap64_in _ (by omega)]; omega
      rw [e1]
      obtain ⟨b, hb, hl, h8⟩ := small (n / 65536 / 256 % 256) (x + 24) (by omega) (by omega)
      refine ⟨b + 24, ?_, ?_, by omega⟩
      · rw [show x + (b + 24) = x + 24 + b by omega]; exact congrArg some hb
      · have e2 : n / 65536 / 256 % 256 = n / 2 ^ 24 := by rw [Nat.div_div_eq_div_mul]; omega
        rw [e2] at hl
        exact len_up (by omega) hl
    · rw [if_neg h2, if_pos (by omega), if_pos (by omega)]
      have e1 : wrap64 ((x : Int) + 16) = ((x + 16 : Nat) : Int) := by rw [IntWalk.wrap64_in _ (by omega)]; omega
      rw [e1]
      obtain ⟨b, hb, hl, h8⟩ := small (n / 65536 % 256) (x + 16) (by omega) (by omega)
      refine ⟨b + 16, ?_, ?_, by omega⟩
      · rw [show x + (b + 16) = x + 16 + b by omega]; exact congrArg some hb
      · have e2 : n / 65536 % 256 = n / 2 ^ 16 := by omega
        rw [e2] at hl
        exact len_up (by omega) hl
  · rw [if_neg h1]
    by_cases h2 : (n : Int) ≥ 256
    · rw [if_pos h2, if_pos (by omega), if_pos (by omega)]
      have e1 : wrap64 ((x : Int) + 8) = ((x + 8 : Nat) : Int) := by rw [IntWalk.wrap64_in _ (by omega)]; omega
      rw [e1]
      obtain ⟨b, hb, hl, h8⟩ := small (n / 256 % 256) (x + 8) (by omega) (by omega)
      refine ⟨b + 8, ?_, ?_, by omega⟩
      · rw [show x + (b + 8) = x + 8 + b by omega]; exact congrArg some hb
      · have e2 : n / 256 % 256 = n / 2 ^ 8 := by omega
        rw [e2] at hl
        exact len_up (by omega) hl
    · rw [if_neg h2, if_pos (by omega), if_pos (by omega)]
      obtain ⟨b, hb, hl, h8⟩ := small (n % 256) x (by omega) (by omega)
      refine ⟨b, congrArg some hb, ?_, by omega⟩
      rwa [Nat.mod_eq_of_lt (by omega)] at hl
theorem len64 (k n : Nat) (hn : n < 2 ^ 64) : ∃ b : Nat, bits_Len64.f (k + 1) (n : Int) = some ((b : Nat) : Int) ∧ IsLen n b ∧ b ≤ 64 := by
  unfold bits_Len64.f
  by_cases h : (n : Int) ≥ 4294967296
  · rw [if_pos h, show (n : Int) / 4294967296 = ((n / 4294967296 : Nat) : Int) by omega]
    obtain ⟨b, hb, hl, h32⟩ := len_j0 k (n / 4294967296) 32 (by omega) (.inr rfl)
    refine ⟨32 + b, hb, ?_, by omega⟩
    rw [Nat.add_comm]
    exact len_up (s := 32) (by omega) hl
  · rw [if_neg h]
    obtain ⟨b, hb, hl, h32⟩ := len_j0 k n 0 (by omega) (.inl rfl)
    exact ⟨b, by simpa using hb, hl, by omega⟩

/-! ### put -/
/-- A number's bytes. -/
def vput (n : Nat) : List Nat := if h : n < 128 then [n] else (128 + n % 128) :: vput (n / 128)
termination_by n
decreasing_by omega
theorem vput_small {n : Nat} (h : n < 128) : vput n = [n] := by rw [vput, dif_pos h]
theorem vput_great {n : Nat} (h : ¬ n < 128) : vput n = (128 + n % 128) :: vput (n / 128) := by rw [vput, dif_neg h]
theorem put_loop (d : Nat) : ∀ (n k : Nat) (xs : List Int), n < 128 ^ (d + 1) → d < k → xs.length + d < 140737488355328 → varint_Put.l0 k (n : Int) xs = some (xs ++ ofN (vput n)) := by
  induction d with
  | zero =>
    intro n k xs hn hk hx
    obtain ⟨k, rfl⟩ : ∃ m, k = m + 1 := ⟨k - 1, by omega⟩
    rw [varint_Put.l0, if_neg (by omega), if_pos (by omega), vput_small (by omega)]
    simp [ofN]; omega
  | succ d ih =>
    intro n k xs hn hk hx
    obtain ⟨k, rfl⟩ : ∃ m, k = m + 1 := ⟨k - 1, by omega⟩
    by_cases h : n < 128
    · rw [varint_Put.l0, if_neg (by omega), if_pos (by omega), vput_small h]
      simp [ofN]; omega
    · rw [varint_Put.l0, if_pos (by omega), if_pos (by omega), vput_great h]
      rw [show (n : Int) % 256 = ((n % 256 : Nat) : Int) by omega, or128 _ (by omega), show n % 256 % 128 = n % 128 by omega, show (n : Int) / 128 = ((n / 128 : Nat) : Int) by omega]
      rw [ih (n / 128) k _ (by rw [Nat.div_lt_iff_lt_mul (by decide), ← Nat.pow_succ]; exact hn) (by omega) (by simp; omega)]
      simp [ofN]
theorem put (k n : Nat) (xs : List Int) (hn : n < 2 ^ 64) (hk : 10 ≤ k) (hx : xs.length + 9 < 140737488355328) : varint_Put.f k xs (n : Int) = some (xs ++ ofN (vput n)) := by
  unfold varint_Put.f slices_Clone_byte_byte.f
  simp only [Option.bind_some, List.length_nil, List.nil_append]
  rw [if_pos (by omega)]
  simp only [Option.bind_some]
  exact put_loop 9 n k xs (Nat.lt_of_lt_of_le hn (by decide)) (by omega) (by omega)
theorem rput_loop (d : Nat) : ∀ (n k : Nat) (xs : List Int), n < 128 ^ (d + 1) → n < 2 ^ 64 → d < k → xs.length + d < 140737488355328 → tallyroomref01_Put.l0 k (n : Int) xs = some (xs ++ ofN (vput n)) := by
  induction d with
  | zero =>
    intro n k xs hn h64 hk hx
    obtain ⟨k, rfl⟩ : ∃ m, k = m + 1 := ⟨k - 1, by omega⟩
    rw [tallyroomref01_Put.l0, if_neg (by omega), if_pos (by omega), vput_small (by omega)]
    simp [ofN]; omega
  | succ d ih =>
    intro n k xs hn h64 hk hx
    obtain ⟨k, rfl⟩ : ∃ m, k = m + 1 := ⟨k - 1, by omega⟩
    by_cases h : n < 128
    · rw [tallyroomref01_Put.l0, if_neg (by omega), if_pos (by omega), vput_small h]
      simp [ofN]; omega
    · rw [tallyroomref01_Put.l0, if_pos (by omega), if_pos (by omega), vput_great h]
      rw [IntWalk.u64_quo _ _ (by omega), Int.tmod_eq_emod_of_nonneg (by omega), IntWalk.u64_in (128 + (n : Int) % 128) (by omega), show (128 + (n : Int) % 128) % 256 = ((128 + n % 128 : Nat) : Int) by omega, show (n : Int) / 128 = ((n / 128 : Nat) : Int) by omega]
      rw [ih (n / 128) k _ (by rw [Nat.div_lt_iff_lt_mul (by decide), ← Nat.pow_succ]; exact hn) (by omega) (by omega) (by simp; omega)]
      simp [ofN]
theorem rput (k n : Nat) (hn : n < 2 ^ 64) (hk : 10 ≤ k) : tallyroomref01_Put.f k (n : Int) = some (ofN (vput n)) := by
  unfold tallyroomref01_Put.f
  simpa using rput_loop 9 n k [] (Nat.lt_of_lt_of_le hn (by decide)) hn (by omega) (by simp)

/-- How many bytes. -/
theorem vput_length (m : Nat) : ∀ n, n < 128 ^ (m + 1) → (m = 0 ∨ 128 ^ m ≤ n) → (vput n).length = m + 1 := by
  induction m with
  | zero => intro n h _; rw [vput_small (by simpa using h)]; rfl
  | succ m ih =>
    intro n h h1
    have h1 : 128 ^ (m + 1) ≤ n := by rcases h1 with h1 | h1; · omega
                                      · exact h1
    have h2 : 128 ≤ n := Nat.le_trans (by rw [Nat.pow_succ]; exact Nat.le_mul_of_pos_left _ (Nat.pow_pos (by decide))) h1
    rw [vput_great (by omega), List.length_cons, ih (n / 128) (by rw [Nat.div_lt_iff_lt_mul (by decide), ← Nat.pow_succ]; exact h) (.inr (by rw [Nat.le_div_iff_mul_le (by decide), ← Nat.pow_succ]; exact h1))]
theorem vput_pos (n : Nat) : 1 ≤ (vput n).length := by
  rw [vput]; split <;> simp
theorem vput_length_le (n : Nat) (hn : n < 2 ^ 64) : (vput n).length ≤ 10 := by
  have : ∀ m n, n < 128 ^ (m + 1) → (vput n).length ≤ m + 1 := by
    intro m
    induction m with
    | zero => intro n h; rw [vput_small (by simpa using h)]; simp
    | succ m ih =>
      intro n h
      by_cases hs : n < 128
      · rw [vput_small hs]; simp
      · rw [vput_great hs, List.length_cons]
        have := ih (n / 128) (by rw [Nat.div_lt_iff_lt_mul (by decide), ← Nat.pow_succ]; exact h)
        omega
  exact this 9 n (Nat.lt_of_lt_of_le hn (by decide))
theorem vput_byte (n : Nat) : ∀ x ∈ vput n, x ≤ 255 := by
  induction n using Nat.strongRecOn with
  | _ n ih =>
    intro x hx
    by_cases h : n < 128
    · rw [vput_small h] at hx; simp at hx; omega
    · rw [vput_great h] at hx
      rcases List.mem_cons.1 hx with rfl | hx
      · omega
      · exact ih (n / 128) (by omega) x hx

/-! ### get -/
/-- What bytes begin with, from the i-th on, behind n. -/
def vg : Nat → Nat → List Nat → Nat × Nat × Nat
  | _, _, [] => (0, 0, 10)
  | i, n, c :: l => if 10 ≤ i ∨ (i = 9 ∧ 1 < c % 128) then (0, 0, 11) else if c < 128 then (if c = 0 ∧ 0 < i then (0, 0, 11) else (n + c % 128 * 128 ^ i, i + 1, 0)) else vg (i + 1) (n + c % 128 * 128 ^ i) l
def vget (l : List Nat) : Nat × Nat × Nat := vg 0 0 l
def ofT (r : Nat × Nat × Nat) : Int × Int × Int := ((r.1 : Int), (r.2.1 : Int), (r.2.2 : Int))

theorem pow9 : ∀ i : Nat, i ≤ 9 → 128 ^ i ≤ 2 ^ 63 := fun i h => Nat.le_trans (Nat.pow_le_pow_right (by decide) h) (by decide)
theorem or_shl (n c i : Nat) (hi : i ≤ 9) (hn : n < 128 ^ i) (hc : c < 128) (h9 : i = 9 → c ≤ 1) :
    Go.bits .or .u64 (n : Int) (shl .u64 (c : Int) (wrap64 (7 * (i : Int)))) = ((n + c * 128 ^ i : Nat) : Int) ∧ n + c * 128 ^ i < 128 ^ (i + 1) ∧ n + c * 128 ^ i < 2 ^ 64 := by
  have hp : 128 ^ i = 2 ^ (7 * i) := by rw [show (128 : Nat) = 2 ^ 7 by rfl, ← Nat.pow_mul]
  have h9' := pow9 i hi
  have hb : c * 128 ^ i + 128 ^ i ≤ 2 ^ 64 := by
    by_cases h : i = 9
    · have := h9 h; subst h
      have : c = 0 ∨ c = 1 := by omega
      rcases this with rfl | rfl <;> decide
    · have h8 : 128 ^ i ≤ 2 ^ 56 := Nat.le_trans (Nat.pow_le_pow_right (by decide) (show i ≤ 8 by omega)) (by decide)
      have : c * 128 ^ i ≤ 127 * 2 ^ 56 := Nat.mul_le_mul (by omega) h8
      omega
  have hs : shl .u64 (c : Int) (wrap64 (7 * (i : Int))) = ((c * 128 ^ i : Nat) : Int) := by
    unfold shl
    rw [IntWalk.wrap64_in _ (by omega), show (7 * (i : Int)).toNat = 7 * i by omega, show min (7 * i) IntKind.u64.bits = 7 * i by simp [IntKind.bits]; omega]
    rw [IntKind.wrap_u64, hp]
    rw [hp] at hb
    have : ((c : Int) * 2 ^ (7 * i)) = ((c * 2 ^ (7 * i) : Nat) : Int) := by simp
    rw [this]
    have hpos := Nat.two_pow_pos (7 * i)
    omega
  refine ⟨?_, ?_, ?_⟩
  · rw [hs, bits_or_u64_nat _ _ (by omega) (by have := Nat.pow_pos (n := i) (show 0 < 128 by decide); omega)]
    rw [hp] at hn ⊢
    rw [Nat.or_comm, Nat.mul_comm c, ← Nat.two_pow_add_eq_or_of_lt hn c, Nat.add_comm]
  · rw [Nat.pow_succ]
    have : c * 128 ^ i ≤ 127 * 128 ^ i := Nat.mul_le_mul_right _ (by omega)
    omega
  · omega

theorem get_loop (ns : List Nat) (hw : ∀ n ∈ ns, n ≤ 255) (hl : ns.length ≤ 4611686018427387904) (d : Nat) : ∀ (i k n : Nat), i + d = ns.length → 2 * d + 1 < k → i ≤ 10 → n < 128 ^ i →
    varint_Get.l0 k (n : Int) (ofN ns) (ns.length : Int) (i : Int) = some (ofT (vg i n (ns.drop i))) := by
  induction d with
  | zero =>
    intro i k n hi hk h10 hn
    obtain ⟨k, rfl⟩ : ∃ m, k = m + 1 := ⟨k - 1, by omega⟩
    rw [varint_Get.l0, if_neg (by omega), List.drop_of_length_le (by omega)]
    rfl
  | succ d ih =>
    intro i k n hi hk h10 hn
    obtain ⟨k, rfl⟩ : ∃ m, k = m + 3 := ⟨k - 3, by omega⟩
    have hlt : i < ns.length := by omega
    have hc := getD_le hw i
    have hd : ns.drop i = ns.getD i 0 :: ns.drop (i + 1) := by
      rw [List.drop_eq_getElem_cons hlt, List.getD_eq_getElem?_getD, List.getElem?_eq_getElem hlt]; rfl
    rw [varint_Get.l0, if_pos (by omega), if_pos (by omega), if_pos (by rw [ofN_length]; omega), rd_ofN, hd]
    generalize ns.getD i 0 = c at hc ⊢
    rw [andNot128 c hc, IntWalk.u64_in ((c % 128 : Nat) : Int) (by omega)]
    by_cases h : i = 10
    · rw [IntWalk.wrap64_in (7 * (i : Int)) (by omega), if_pos (by omega), varint_Get.j1, if_pos rfl]
      rw [vg, if_pos (.inl (by omega))]; rfl
    · obtain ⟨b, hb, hlen, _⟩ := len64 (k + 1) (c % 128) (by omega)
      rw [IntWalk.wrap64_in (7 * (i : Int)) (by omega), if_neg (by omega), hb, Option.bind_some]
      have hb7 : b ≤ 7 := by
        rcases hlen with ⟨_, rfl⟩ | ⟨h1, h2, _⟩
        · omega
        · rcases Nat.lt_or_ge 7 b with h7 | h7
          · have := Nat.pow_le_pow_right (show 0 < 2 by decide) (show 7 ≤ b - 1 by omega)
            omega
          · exact h7
      rw [IntWalk.wrap64_in ((b : Int) + 7 * (i : Int)) (by omega), varint_Get.j1]
      have hbb : ((b : Int) + 7 * (i : Int) > 64) ↔ (i = 9 ∧ 1 < c % 128) := by
        constructor
        · intro h1
          have h9 : i = 9 := by omega
          refine ⟨h9, ?_⟩
          rcases hlen with ⟨_, rfl⟩ | ⟨h1', h2, _⟩
          · omega
          · have := Nat.pow_le_pow_right (show 0 < 2 by decide) (show 1 ≤ b - 1 by omega)
            omega
        · rintro ⟨rfl, h1⟩
          rcases hlen with ⟨h0, _⟩ | ⟨h1', _, h3⟩
          · omega
          · have : 1 < b := by
              rcases Nat.lt_or_ge 1 b with h | h
              · exact h
              · obtain rfl : b = 1 := by omega
                omega
            omega
      rw [vg]
      by_cases hbad : i = 9 ∧ 1 < c % 128
      · rw [if_pos (by simpa using hbb.2 hbad), if_pos (.inr hbad)]; rfl
      · rw [if_neg (by simpa using fun h1 => hbad (hbb.1 h1)), if_pos (by rw [IntWalk.wrap64_in _ (by omega)]; omega), if_neg (show ¬ (10 ≤ i ∨ i = 9 ∧ 1 < c % 128) by omega)]
        obtain ⟨e1, e2, e3⟩ := or_shl n (c % 128) i (by omega) hn (by omega) (by intro h9; omega)
        rw [e1, IntWalk.wrap64_in ((i : Int) + 1) (by omega)]
        by_cases h128 : c < 128
        · rw [if_pos (Eq.mpr (and128 c hc) h128), if_pos h128]
          by_cases h0 : c = 0
          · subst h0
            by_cases hi0 : 0 < i
            · simp [hi0, ofT]
            · simp [hi0, ofT]
          · rw [if_neg (by omega), if_neg (by omega)]
            simp [ofT]
        · rw [if_neg (fun h' => h128 (Eq.mp (and128 c hc) h')), if_neg h128, show (i : Int) + 1 = ((i + 1 : Nat) : Int) by omega]
          exact ih (i + 1) (k + 1) _ (by omega) (by omega) (by omega) e2
theorem get (ns : List Nat) (hw : ∀ n ∈ ns, n ≤ 255) (hl : ns.length ≤ 4611686018427387904) (k : Nat) (hk : 2 * ns.length + 1 < k) : varint_Get.f k (ofN ns) = some (ofT (vget ns)) := by
  unfold varint_Get.f
  rw [ofN_length]
  exact get_loop ns hw hl ns.length 0 k 0 (by omega) hk (by omega) (by simp)
theorem rget_loop (ns : List Nat) (hw : ∀ n ∈ ns, n ≤ 255) (d : Nat) : ∀ (i k n : Nat), i + d = ns.length → 2 * d + 1 < k → i ≤ 10 → n < 128 ^ i →
    tallyroomref01_Get.l0 k (ofN ns) (n : Int) (IntKind.u64.wrap ((128 ^ i : Nat) : Int)) (i : Int) = some (ofT (vg i n (ns.drop i))) := by
  induction d with
  | zero =>
    intro i k n hi hk h10 hn
    obtain ⟨k, rfl⟩ : ∃ m, k = m + 1 := ⟨k - 1, by omega⟩
    rw [tallyroomref01_Get.l0, if_neg (by rw [ofN_length]; omega), List.drop_of_length_le (by omega)]
    rfl
  | succ d ih =>
    intro i k n hi hk h10 hn
    obtain ⟨k, rfl⟩ : ∃ m, k = m + 2 := ⟨k - 2, by omega⟩
    have hlt : i < ns.length := by omega
    have hc := getD_le hw i
    have hd : ns.drop i = ns.getD i 0 :: ns.drop (i + 1) := by
      rw [List.drop_eq_getElem_cons hlt, List.getD_eq_getElem?_getD, List.getElem?_eq_getElem hlt]; rfl
    rw [tallyroomref01_Get.l0, if_pos (by rw [ofN_length]; omega), if_pos (by omega), rd_ofN, hd]
    generalize hcc : ns.getD i 0 = c at hc ⊢
    have ec : IntKind.u64.wrap (Int.tmod (c : Int) 128) = ((c % 128 : Nat) : Int) := by
      rw [Int.tmod_eq_emod_of_nonneg (by omega), IntWalk.u64_in _ (by omega)]; omega
    rw [ec, vg]
    by_cases h : i = 10
    · rw [if_pos (by omega), tallyroomref01_Get.j1, if_pos rfl, if_pos (.inl (by omega))]; rfl
    · rw [if_neg (by omega)]
      have hp := pow9 i (by omega)
      have ep : IntKind.u64.wrap ((128 ^ i : Nat) : Int) = ((128 ^ i : Nat) : Int) := IntWalk.u64_in _ (by omega)
      by_cases hbad : i = 9 ∧ 1 < c % 128
      · rw [if_pos (by omega), if_pos (.inr hbad), tallyroomref01_Get.j1, if_pos (by simp; omega)]; rfl
      · obtain ⟨_, e2, e3⟩ := or_shl n (c % 128) i (by omega) hn (by omega) (by intro h9; omega)
        have em : IntKind.u64.wrap ((n : Int) + IntKind.u64.wrap (((c % 128 : Nat) : Int) * IntKind.u64.wrap ((128 ^ i : Nat) : Int))) = ((n + c % 128 * 128 ^ i : Nat) : Int) := by
          rw [ep, show ((c % 128 : Nat) : Int) * ((128 ^ i : Nat) : Int) = ((c % 128 * 128 ^ i : Nat) : Int) by simp, IntWalk.u64_in ((c % 128 * 128 ^ i : Nat) : Int) (by omega), IntWalk.u64_in _ (by omega)]
          omega
        have body : ∀ b, b = false → tallyroomref01_Get.j1 (k + 1) (ofN ns) (n : Int) (IntKind.u64.wrap ((128 ^ i : Nat) : Int)) (i : Int) ((c % 128 : Nat) : Int) b = some (ofT (if c < 128 then (if c = 0 ∧ 0 < i then (0, 0, 11) else (n + c % 128 * 128 ^ i, i + 1, 0)) else vg (i + 1) (n + c % 128 * 128 ^ i) (ns.drop (i + 1)))) := by
          rintro b rfl
          rw [tallyroomref01_Get.j1, if_neg (by simp), if_pos (by omega), if_pos (by rw [ofN_length]; omega), rd_ofN, hcc, em, IntWalk.wrap64_in ((i : Int) + 1) (by omega)]
          by_cases h128 : c < 128
          · rw [if_pos (by omega), if_pos h128]
            by_cases hi0 : 0 < i
            · rw [if_pos (by omega)]
              by_cases h0 : c = 0
              · subst h0; simp [hi0, ofT]
              · rw [if_neg (by omega), if_neg (by omega)]; simp [ofT]
            · rw [if_neg (by omega), if_neg (by omega)]; simp [ofT]
          · rw [if_neg (by omega), if_neg h128]
            have e4 : IntKind.u64.wrap (IntKind.u64.wrap ((128 ^ i : Nat) : Int) * 128) = IntKind.u64.wrap ((128 ^ (i + 1) : Nat) : Int) := by
              rw [ep, Nat.pow_succ]; simp
            rw [e4, show (i : Int) + 1 = ((i + 1 : Nat) : Int) by omega]
            exact ih (i + 1) k _ (by omega) (by omega) (by omega) e2
        rw [if_neg (show ¬ (10 ≤ i ∨ i = 9 ∧ 1 < c % 128) by omega)]
        by_cases h9 : i = 9
        · rw [if_pos (by omega)]; exact body _ (by simp; omega)
        · rw [if_neg (by omega)]; exact body _ rfl
theorem rget (ns : List Nat) (hw : ∀ n ∈ ns, n ≤ 255) (k : Nat) (hk : 2 * ns.length + 1 < k) : tallyroomref01_Get.f k (ofN ns) = some (ofT (vget ns)) := by
  unfold tallyroomref01_Get.f
  have := rget_loop ns hw ns.length 0 k 0 (by omega) hk (by omega) (by simp)
  rwa [show IntKind.u64.wrap ((128 ^ 0 : Nat) : Int) = 1 by decide] at this

end Go.Proofs.Ytbfmmjdbnbfnmaa.Var

namespace Go.Proofs.Ytbfmmjdbnbfnmaa.Var
open Go.RowKit Go.Proofs.Ytbfmmjdbnbfnmaa.XH Go.Proofs.YtbfmmjdbnbfnmaaW.PrintWords Go.Proofs.YtbfmmjdbnbfnmaaW.PrintLast Go.Proofs.YtbfmmjdbnbfnmaaW.PrintMore

theorem i_le {n i : Nat} (hn : 1 ≤ n) (h : n * 128 ^ i < 2 ^ 64) : i ≤ 9 := by
  rcases Nat.lt_or_ge 9 i with h9 | h9
  · have h1 : 128 ^ 10 ≤ 128 ^ i := Nat.pow_le_pow_right (by decide) h9
    have h2 : 1 * 128 ^ i ≤ n * 128 ^ i := Nat.mul_le_mul_right _ hn
    have h3 : (2 : Nat) ^ 64 ≤ 128 ^ 10 := by decide
    omega
  · exact h9
theorem vg_put (n : Nat) : ∀ (i acc : Nat) (rest : List Nat), n * 128 ^ i < 2 ^ 64 → (i = 0 ∨ 1 ≤ n) → vg i acc (vput n ++ rest) = (acc + n * 128 ^ i, i + (vput n).length, 0) := by
  induction n using Nat.strongRecOn with
  | _ n ih =>
    intro i acc rest hn hi
    by_cases h : n < 128
    · rw [vput_small h]
      simp only [List.cons_append, List.nil_append, List.length_singleton]
      have hb : ¬ (10 ≤ i ∨ i = 9 ∧ 1 < n % 128) := by
        rcases Nat.eq_zero_or_pos n with rfl | h0
        · omega
        · have := i_le h0 hn
          rintro (h1 | ⟨rfl, h1⟩)
          · omega
          · have : 2 * 128 ^ 9 ≤ n * 128 ^ 9 := Nat.mul_le_mul_right _ (by omega)
            have h3 : (2 : Nat) ^ 64 ≤ 2 * 128 ^ 9 := by decide
            omega
      rw [vg, if_neg hb, if_pos h, if_neg (by omega), Nat.mod_eq_of_lt h]
    · rw [vput_great h]
      simp only [List.cons_append, List.length_cons]
      have hm : n / 128 * 128 ^ (i + 1) ≤ n * 128 ^ i := by
        rw [Nat.pow_succ, Nat.mul_comm (128 ^ i) 128, ← Nat.mul_assoc]
        exact Nat.mul_le_mul_right _ (Nat.div_mul_le_self _ _)
      have := i_le (n := n / 128) (i := i + 1) (by omega) (by omega)
      rw [vg, if_neg (by omega), if_neg (by omega), ih (n / 128) (by omega) (i + 1) _ rest (by omega) (by omega)]
      have e : acc + (128 + n % 128) % 128 * 128 ^ i + n / 128 * 128 ^ (i + 1) = acc + n * 128 ^ i := by
        rw [show (128 + n % 128) % 128 = n % 128 by omega, Nat.pow_succ, Nat.mul_comm (128 ^ i) 128, ← Nat.mul_assoc, Nat.add_assoc, ← Nat.add_mul]
        rw [show n % 128 + n / 128 * 128 = n by omega]
      rw [e, show i + 1 + (vput (n / 128)).length = i + ((vput (n / 128)).length + 1) by omega]
theorem vget_put (n : Nat) (rest : List Nat) (hn : n < 2 ^ 64) : vget (vput n ++ rest) = (n, (vput n).length, 0) := by
  have := vg_put n 0 0 rest (by simpa using hn) (.inl rfl)
  simpa [vget] using this
theorem vg_cut (n : Nat) : ∀ (i acc j : Nat), n * 128 ^ i < 2 ^ 64 → (i = 0 ∨ 1 ≤ n) → j < (vput n).length → vg i acc ((vput n).take j) = (0, 0, 10) := by
  induction n using Nat.strongRecOn with
  | _ n ih =>
    intro i acc j hn hi hj
    cases j with
    | zero => rfl
    | succ j =>
      by_cases h : n < 128
      · rw [vput_small h] at hj; simp at hj
      · rw [vput_great h] at hj ⊢
        simp only [List.take_succ_cons, List.length_cons] at hj ⊢
        have hm : n / 128 * 128 ^ (i + 1) ≤ n * 128 ^ i := by
          rw [Nat.pow_succ, Nat.mul_comm (128 ^ i) 128, ← Nat.mul_assoc]
          exact Nat.mul_le_mul_right _ (Nat.div_mul_le_self _ _)
        have := i_le (n := n / 128) (i := i + 1) (by omega) (by omega)
        rw [vg, if_neg (by omega), if_neg (by omega)]
        exact ih (n / 128) (by omega) (i + 1) _ j (by omega) (by omega) (by omega)
theorem vget_cut (n j : Nat) (hn : n < 2 ^ 64) (hj : j < (vput n).length) : vget ((vput n).take j) = (0, 0, 10) := vg_cut n 0 0 j (by simpa using hn) (.inl rfl) hj
theorem vput_inj {n m : Nat} (hn : n < 2 ^ 64) (hm : m < 2 ^ 64) {a b : List Nat} (h : vput n ++ a = vput m ++ b) : n = m := by
  have h1 := vget_put n a hn
  rw [h, vget_put m b hm] at h1
  exact (Prod.mk.inj h1).1.symm
theorem vput_length_mono {n m : Nat} (h : n ≤ m) : (vput n).length ≤ (vput m).length := by
  induction m using Nat.strongRecOn generalizing n with
  | _ m ih =>
    by_cases hn : n < 128
    · rw [vput_small hn]; exact vput_pos m
    · rw [vput_great hn, vput_great (n := m) (by omega), List.length_cons, List.length_cons]
      have := ih (m / 128) (by omega) (n := n / 128) (by omega)
      omega

/-! ### two lists of bytes -/
theorem ofN_inj {a b : List Nat} (h : ofN a = ofN b) : a = b := by
  induction a generalizing b with
  | nil => cases b with
    | nil => rfl
    | cons y b => simp [ofN] at h
  | cons x a ih => cases b with
    | nil => simp [ofN] at h
    | cons y b =>
      simp only [ofN, List.map_cons, List.cons.injEq] at h
      rw [ih h.2, show x = y by omega]
theorem strOfNums_ofN (a : List Nat) (ha : ∀ x ∈ a, x ≤ 255) : (strOfNums (ofN a)).toList.map UInt8.toNat = a := by
  rw [ByteArray.toList_eq, strOfNums_data]
  unfold ofN
  rw [List.map_map, List.map_map]
  conv => rhs; rw [← List.map_id a]
  apply List.map_congr_left
  intro x hx
  have := ha x hx
  simp only [Function.comp, Int.toNat_natCast, id, UInt8.toNat_ofNat']
  omega
theorem bytes_eq {a b : List Nat} (ha : ∀ x ∈ a, x ≤ 255) (hb : ∀ x ∈ b, x ≤ 255) : tallyroomref01_Bytes.f (ofN a) (ofN b) = some (decide (a = b)) := by
  unfold tallyroomref01_Bytes.f
  by_cases h : a = b
  · subst h; simp
  · rw [decide_eq_false h]
    congr 1
    rw [beq_eq_false_iff_ne]
    intro e
    exact h (by rw [← strOfNums_ofN a ha, ← strOfNums_ofN b hb, e])

/-! ### signs -/
theorem xor_zero (x : Int) (h : 0 ≤ x ∧ x ≤ 18446744073709551615) : Go.bits .xor .u64 x 0 = x := by
  obtain ⟨n, rfl⟩ := Int.eq_ofNat_of_zero_le h.1
  have := bits_xor_u64_nat n 0 (by omega) (by omega)
  simpa using this
theorem xor_ones (x : Int) (h : 0 ≤ x ∧ x ≤ 18446744073709551615) : Go.bits .xor .u64 x 18446744073709551615 = 18446744073709551615 - x := by
  obtain ⟨n, rfl⟩ := Int.eq_ofNat_of_zero_le h.1
  have h1 := bits_xor_u64_nat n 18446744073709551615 (by omega) (by omega)
  have h2 : (n ^^^ 18446744073709551615) = 18446744073709551615 - n := by
    have hb : (BitVec.ofNat 64 n ^^^ BitVec.allOnes 64).toNat = 18446744073709551615 - n := by
      rw [BitVec.xor_allOnes, BitVec.toNat_not, BitVec.toNat_ofNat, Nat.mod_eq_of_lt (by omega)]
    rw [BitVec.toNat_xor, BitVec.toNat_ofNat, BitVec.toNat_allOnes, Nat.mod_eq_of_lt (by omega)] at hb
    exact hb
  rw [h2] at h1
  refine h1.trans ?_
  omega
theorem xor_i64_zero (x : Int) (h : -9223372036854775808 ≤ x ∧ x ≤ 9223372036854775807) : Go.bits .xor .i64 x 0 = x := by
  show IntKind.i64.wrap ((BitVec.ofInt 64 x ^^^ BitVec.ofInt 64 0).toNat : Int) = x
  rw [show BitVec.ofInt 64 0 = 0#64 by decide, BitVec.xor_zero, BitVec.toNat_ofInt, IntKind.wrap_i64]
  omega
theorem xor_i64_ones (x : Int) (h : -9223372036854775808 ≤ x ∧ x ≤ 9223372036854775807) : Go.bits .xor .i64 x (-1) = -1 - x := by
  show IntKind.i64.wrap ((BitVec.ofInt 64 x ^^^ BitVec.ofInt 64 (-1)).toNat : Int) = _
  rw [show BitVec.ofInt 64 (-1) = BitVec.allOnes 64 by decide, BitVec.xor_allOnes, BitVec.toNat_not, BitVec.toNat_ofInt, IntKind.wrap_i64]
  omega
theorem and_one (n : Nat) (h : n < 18446744073709551616) : Go.bits .and .u64 (n : Int) 1 = ((n % 2 : Nat) : Int) := by
  have := bits_and_u64_nat n 1 h (by omega)
  rw [Nat.and_one_is_mod] at this
  exact this
theorem ofN_byte {l : List Int} (h : ∀ x ∈ l, (Lit.int .u8 x).wf = true) : ∃ ns : List Nat, l = ofN ns ∧ ∀ n ∈ ns, n ≤ 255 := ofN_of l 255 fun x hx => u8_wf (h x hx)
theorem vput_wf (n : Nat) : ∀ x ∈ vput n, x ≤ 255 := vput_byte n
theorem mem_app {a b : List Nat} (ha : ∀ x ∈ a, x ≤ 255) (hb : ∀ x ∈ b, x ≤ 255) : ∀ x ∈ a ++ b, x ≤ 255 := fun x hx => (List.mem_append.1 hx).elim (ha x) (hb x)
end Go.Proofs.Ytbfmmjdbnbfnmaa.Var

namespace Go.Proofs.Ytbfmmjdbnbfnmaa.Crc
open Go.RowKit Go.Proofs.Ytbfmmjdbnbfnmaa.XH Go.Proofs.YtbfmmjdbnbfnmaaW.PrintWords Go.Proofs.YtbfmmjdbnbfnmaaW.PrintLast Go.Proofs.YtbfmmjdbnbfnmaaW.PrintMore
open Go.Proofs.Ytbfmmjdbnbfnmaa.Var

theorem xor_u32 (a b : Nat) (ha : a < 4294967296) (hb : b < 4294967296) : Go.bits .xor .u32 (a : Int) (b : Int) = ((a ^^^ b : Nat) : Int) := by
  have hx : a ^^^ b < 2 ^ 32 := Nat.xor_lt_two_pow (by omega) (by omega)
  have h1 : (BitVec.ofInt 32 (a : Int)).toNat = a := by
    rw [BitVec.ofInt_natCast, BitVec.toNat_ofNat]; exact Nat.mod_eq_of_lt (by omega)
  have h2 : (BitVec.ofInt 32 (b : Int)).toNat = b := by
    rw [BitVec.ofInt_natCast, BitVec.toNat_ofNat]; exact Nat.mod_eq_of_lt (by omega)
  show IntKind.u32.wrap ((BitVec.ofInt 32 (a : Int) ^^^ BitVec.ofInt 32 (b : Int)).toNat : Int) = _
  rw [BitVec.toNat_xor, h1, h2, IntKind.wrap_u32]
  omega
theorem xor_lt {a b : Nat} (ha : a < 4294967296) (hb : b < 4294967296) : a ^^^ b < 4294967296 := Nat.xor_lt_two_pow (n := 32) (by omega) (by omega)
def Pol : Nat := 3988292384
/-- One bit. -/
def step (n : Nat) : Nat := if n % 2 = 1 then (n / 2) ^^^ Pol else n / 2
theorem step_lt {n : Nat} (h : n < 4294967296) : step n < 4294967296 := by
  unfold step
  split
  · exact xor_lt (by omega) (by decide)
  · omega
theorem step_xor (a b : Nat) : step (a ^^^ b) = step a ^^^ step b := by
  unfold step
  rw [Nat.xor_div_two]
  have hm : (a ^^^ b) % 2 = (a % 2 + b % 2) % 2 := by
    have h := Nat.xor_mod_two_pow (a := a) (b := b) (n := 1)
    simp only [Nat.pow_one] at h
    rw [h]
    have ha : a % 2 = 0 ∨ a % 2 = 1 := by omega
    have hb : b % 2 = 0 ∨ b % 2 = 1 := by omega
    rcases ha with ha | ha <;> rcases hb with hb | hb <;> rw [ha, hb] <;> rfl
  rw [hm]
  by_cases h1 : a % 2 = 1 <;> by_cases h2 : b % 2 = 1
  · rw [if_neg (by omega), if_pos h1, if_pos h2]
    rw [Nat.xor_assoc, Nat.xor_comm (b / 2), ← Nat.xor_assoc Pol, Nat.xor_self, Nat.zero_xor]
  · rw [if_pos (by omega), if_pos h1, if_neg h2, Nat.xor_assoc, Nat.xor_comm (b / 2), ← Nat.xor_assoc]
  · rw [if_pos (by omega), if_neg h1, if_pos h2, Nat.xor_assoc]
  · rw [if_neg (by omega), if_neg h1, if_neg h2]
/-- Several bits. -/
def steps : Nat → Nat → Nat
  | 0, n => n
  | k + 1, n => steps k (step n)
theorem steps_lt (k : Nat) : ∀ {n : Nat}, n < 4294967296 → steps k n < 4294967296 := by
  induction k with
  | zero => exact fun h => h
  | succ k ih => exact fun h => ih (step_lt h)
theorem steps_xor (k : Nat) : ∀ (a b : Nat), steps k (a ^^^ b) = steps k a ^^^ steps k b := by
  induction k with
  | zero => intro a b; rfl
  | succ k ih => intro a b; rw [steps, steps, steps, step_xor, ih]
theorem steps_add (j k n : Nat) : steps (j + k) n = steps k (steps j n) := by
  induction j generalizing n with
  | zero => rw [Nat.zero_add]; rfl
  | succ j ih => rw [Nat.succ_add, steps, steps, ih]
theorem step_double (m : Nat) : step (2 * m) = m := by unfold step; rw [if_neg (by omega)]; omega
theorem steps_shift (k m : Nat) : steps k (2 ^ k * m) = m := by
  induction k generalizing m with
  | zero => simp [steps]
  | succ k ih => rw [steps, Nat.pow_succ, Nat.mul_comm (2 ^ k) 2, Nat.mul_assoc, step_double, ih]
theorem split_low (n k : Nat) : (2 ^ k * (n / 2 ^ k)) ^^^ (n % 2 ^ k) = n := by
  apply Nat.eq_of_testBit_eq
  intro i
  rw [Nat.testBit_xor, Nat.testBit_two_pow_mul, Nat.testBit_mod_two_pow, Nat.testBit_div_two_pow]
  by_cases h : k ≤ i
  · rw [show i - k + k = i by omega]
    simp [h, show ¬ i < k by omega]
  · simp [h, show i < k by omega]
/-- Four bits, by the table. -/
theorem half_eq (n : Nat) (h : n < 4294967296) : crc_half.f (n : Int) = some ((steps 4 n : Nat) : Int) := by
  unfold crc_half.f
  rw [if_pos (by omega), if_pos (by omega), show (n : Int) % 16 = ((n % 16 : Nat) : Int) by omega, show (n : Int) / 16 = ((n / 16 : Nat) : Int) by omega]
  have ht : ∀ i : Fin 16, rd halfT ((i.val : Nat) : Int) = ((steps 4 i.val : Nat) : Int) ∧ steps 4 i.val < 4294967296 := by decide +kernel
  obtain ⟨h1, h2⟩ := ht ⟨n % 16, by omega⟩
  simp only at h1 h2
  rw [h1, xor_u32 _ _ h2 (by omega)]
  congr 2
  conv => rhs; rw [← split_low n 4, steps_xor, steps_shift]
  exact Nat.xor_comm _ _

/-- The register behind bytes. -/
def feed (n : Nat) : List Nat → Nat
  | [] => n
  | c :: l => feed (steps 8 (n ^^^ c)) l
theorem feed_lt (l : List Nat) : ∀ n, n < 4294967296 → (∀ c ∈ l, c ≤ 255) → feed n l < 4294967296 := by
  induction l with
  | nil => exact fun n h _ => h
  | cons c l ih => exact fun n h hl => ih _ (steps_lt 8 (xor_lt h (by have := hl c (List.mem_cons_self ..); omega))) fun x hx => hl x (List.mem_cons_of_mem _ hx)
theorem feed_append (a b : List Nat) (n : Nat) : feed n (a ++ b) = feed (feed n a) b := by
  induction a generalizing n with
  | nil => rfl
  | cons c a ih => exact ih _
/-- ^n of 32 bits. -/
def inv (n : Nat) : Nat := 4294967295 - n
theorem xor_inv (n : Nat) (h : n < 4294967296) : (4294967295 ^^^ n) = inv n := by
  have hb : (BitVec.ofNat 32 n ^^^ BitVec.allOnes 32).toNat = 4294967295 - n := by
    rw [BitVec.xor_allOnes, BitVec.toNat_not, BitVec.toNat_ofNat, Nat.mod_eq_of_lt (by omega)]
  rw [BitVec.toNat_xor, BitVec.toNat_ofNat, BitVec.toNat_allOnes, Nat.mod_eq_of_lt (by omega)] at hb
  rw [Nat.xor_comm]
  exact hb
theorem inv_inv {n : Nat} (h : n < 4294967296) : inv (inv n) = n := by unfold inv; omega
theorem inv_lt (n : Nat) : inv n < 4294967296 := by unfold inv; omega
/-- The sum of more bytes. -/
def more (s : Nat) (l : List Nat) : Nat := inv (feed (inv s) l)
def sum (l : List Nat) : Nat := more 0 l
theorem more_lt (s : Nat) (l : List Nat) : more s l < 4294967296 := inv_lt _
theorem sum_lt (l : List Nat) : sum l < 4294967296 := more_lt 0 l
theorem more_append (s : Nat) (a b : List Nat) (ha : ∀ c ∈ a, c ≤ 255) : more s (a ++ b) = more (more s a) b := by
  unfold more
  rw [feed_append, inv_inv (feed_lt a _ (inv_lt s) ha)]
theorem more_loop (ns : List Nat) (hw : ∀ n ∈ ns, n ≤ 255) (hl : ns.length ≤ 4611686018427387904) (d : Nat) : ∀ (i k n : Nat), i + d = ns.length → d < k → n < 4294967296 →
    crc_More.l0 k (n : Int) (ofN ns) (ns.length : Int) (i : Int) = some ((inv (feed n (ns.drop i)) : Nat) : Int) := by
  induction d with
  | zero =>
    intro i k n hi hk hn
    obtain ⟨k, rfl⟩ : ∃ m, k = m + 1 := ⟨k - 1, by omega⟩
    rw [crc_More.l0, if_neg (by omega), List.drop_of_length_le (by omega)]
    have := xor_u32 4294967295 n (by omega) hn
    rw [xor_inv n hn] at this
    exact congrArg some this
  | succ d ih =>
    intro i k n hi hk hn
    obtain ⟨k, rfl⟩ : ∃ m, k = m + 1 := ⟨k - 1, by omega⟩
    have hlt : i < ns.length := by omega
    have hc := getD_le hw i
    have hd : ns.drop i = ns.getD i 0 :: ns.drop (i + 1) := by
      rw [List.drop_eq_getElem_cons hlt, List.getD_eq_getElem?_getD, List.getElem?_eq_getElem hlt]; rfl
    rw [crc_More.l0, if_pos (by omega), if_pos (by omega), if_pos (by rw [ofN_length]; omega), rd_ofN, hd]
    generalize ns.getD i 0 = c at hc ⊢
    have hx := xor_lt hn (show c < 4294967296 by omega)
    rw [show ((c : Nat) : Int) % 4294967296 = ((c : Nat) : Int) by omega, xor_u32 n c hn (by omega), half_eq _ hx, Option.bind_some, half_eq _ (steps_lt 4 hx), Option.bind_some, ← steps_add, IntWalk.wrap64_in _ (by omega), show (i : Int) + 1 = ((i + 1 : Nat) : Int) by omega]
    exact ih (i + 1) k _ (by omega) (by omega) (steps_lt 8 hx)
theorem more_eq (ns : List Nat) (hw : ∀ n ∈ ns, n ≤ 255) (hl : ns.length ≤ 4611686018427387904) (k s : Nat) (hk : ns.length < k) (hs : s < 4294967296) : crc_More.f k (s : Int) (ofN ns) = some ((more s ns : Nat) : Int) := by
  unfold crc_More.f
  have hx := xor_u32 4294967295 s (by omega) hs
  rw [xor_inv s hs] at hx
  rw [show (4294967295 : Int) = ((4294967295 : Nat) : Int) by rfl, hx, ofN_length]
  exact more_loop ns hw hl ns.length 0 k _ (by omega) hk (inv_lt s)
theorem sum_eq (ns : List Nat) (hw : ∀ n ∈ ns, n ≤ 255) (hl : ns.length ≤ 4611686018427387904) (k : Nat) (hk : ns.length < k) : crc_Sum.f k (ofN ns) = some ((sum ns : Nat) : Int) := by
  unfold crc_Sum.f
  have := more_eq ns hw hl k 0 hk (by omega)
  rw [show ((0 : Nat) : Int) = 0 by rfl] at this
  rw [this, Option.bind_some]
  rfl
/-! ### the reference's -/
theorem rbits (ns : List Nat) (j : Nat) : ∀ (i k n : Nat) (r : Option Int), j ≤ 8 → n < 4294967296 → j < k →
    (∀ k', k' + j + 1 = k → tallyroomref02_Sum.l0 k' (ofN ns) ((steps j n : Nat) : Int) (wrap64 ((i : Int) + 1)) = r) →
    tallyroomref02_Sum.l1 k (ofN ns) (n : Int) (i : Int) ((8 - j : Nat) : Int) = r := by
  induction j with
  | zero =>
    intro i k n r _ hn hk h
    obtain ⟨k, rfl⟩ : ∃ m, k = m + 1 := ⟨k - 1, by omega⟩
    rw [tallyroomref02_Sum.l1, if_neg (by omega)]
    exact h k rfl
  | succ j ih =>
    intro i k n r hj hn hk h
    obtain ⟨k, rfl⟩ : ∃ m, k = m + 1 := ⟨k - 1, by omega⟩
    rw [tallyroomref02_Sum.l1, if_pos (by omega), Int.tmod_eq_emod_of_nonneg (by omega), Int.tdiv_eq_ediv_of_nonneg (by omega), show (n : Int) / 2 % 4294967296 = ((n / 2 : Nat) : Int) by omega, IntWalk.wrap64_in _ (by omega), show ((8 - (j + 1) : Nat) : Int) + 1 = ((8 - j : Nat) : Int) by omega]
    have hs : steps (j + 1) n = steps j (step n) := rfl
    by_cases h1 : n % 2 = 1
    · have e : step n = (n / 2) ^^^ 3988292384 := by unfold step; rw [if_pos h1]; rfl
      rw [if_pos (by omega), show (3988292384 : Int) = ((3988292384 : Nat) : Int) by rfl, xor_u32 _ _ (by omega) (by omega), ← e]
      exact ih i k (step n) r (by omega) (step_lt hn) (by omega) fun k' hk' => by rw [← hs]; exact h k' (by omega)
    · have e : step n = n / 2 := by unfold step; rw [if_neg h1]
      rw [if_neg (by omega), ← e]
      exact ih i k (step n) r (by omega) (step_lt hn) (by omega) fun k' hk' => by rw [← hs]; exact h k' (by omega)
theorem rsum_loop (ns : List Nat) (hw : ∀ n ∈ ns, n ≤ 255) (hl : ns.length ≤ 4611686018427387904) (d : Nat) : ∀ (i k n : Nat), i + d = ns.length → 10 * d < k → n < 4294967296 →
    tallyroomref02_Sum.l0 k (ofN ns) (n : Int) (i : Int) = some ((inv (feed n (ns.drop i)) : Nat) : Int) := by
  induction d with
  | zero =>
    intro i k n hi hk hn
    obtain ⟨k, rfl⟩ : ∃ m, k = m + 1 := ⟨k - 1, by omega⟩
    rw [tallyroomref02_Sum.l0, if_neg (by rw [ofN_length]; omega), List.drop_of_length_le (by omega)]
    congr 1
    unfold feed inv
    omega
  | succ d ih =>
    intro i k n hi hk hn
    obtain ⟨k, rfl⟩ : ∃ m, k = m + 1 := ⟨k - 1, by omega⟩
    have hlt : i < ns.length := by omega
    have hc := getD_le hw i
    have hd : ns.drop i = ns.getD i 0 :: ns.drop (i + 1) := by
      rw [List.drop_eq_getElem_cons hlt, List.getD_eq_getElem?_getD, List.getElem?_eq_getElem hlt]; rfl
    rw [tallyroomref02_Sum.l0, if_pos (by rw [ofN_length]; omega), if_pos (by omega), rd_ofN, hd]
    generalize ns.getD i 0 = c at hc ⊢
    rw [show ((c : Nat) : Int) % 4294967296 = ((c : Nat) : Int) by omega, xor_u32 n c hn (by omega)]
    refine rbits ns 8 i k _ _ (by omega) (xor_lt hn (by omega)) (by omega) fun k' hk' => ?_
    rw [IntWalk.wrap64_in _ (by omega), show (i : Int) + 1 = ((i + 1 : Nat) : Int) by omega]
    exact ih (i + 1) k' _ (by omega) (by omega) (steps_lt 8 (xor_lt hn (by omega)))
theorem rsum_eq (ns : List Nat) (hw : ∀ n ∈ ns, n ≤ 255) (hl : ns.length ≤ 4611686018427387904) (k : Nat) (hk : 10 * ns.length < k) : tallyroomref02_Sum.f k (ofN ns) = some ((sum ns : Nat) : Int) :=
  rsum_loop ns hw hl ns.length 0 k 4294967295 (by omega) hk (by omega)

/-! ### sealed and opened -/
/-- A sum's four bytes. -/
def le4 (s : Nat) : List Nat := [s % 256, s / 256 % 256, s / 65536 % 256, s / 16777216 % 256]
theorem le4_wf (s : Nat) : ∀ x ∈ le4 s, x ≤ 255 := by
  intro x hx
  simp only [le4, List.mem_cons, List.mem_nil_iff, or_false] at hx
  rcases hx with rfl | rfl | rfl | rfl <;> omega
theorem tail_eq (s k : Nat) (hk : 5 ≤ k) : crc_tail.f k (s : Int) = some (ofN (le4 s)) := by
  obtain ⟨k, rfl⟩ : ∃ m, k = m + 5 := ⟨k - 5, by omega⟩
  unfold crc_tail.f
  rw [crc_tail.l0, if_pos (by omega), if_pos (by simp), IntWalk.wrap64_in _ (by omega)]
  rw [crc_tail.l0, if_pos (by omega), if_pos (by simp), IntWalk.wrap64_in _ (by omega)]
  rw [crc_tail.l0, if_pos (by omega), if_pos (by simp), IntWalk.wrap64_in _ (by omega)]
  rw [crc_tail.l0, if_pos (by omega), if_pos (by simp), IntWalk.wrap64_in _ (by omega)]
  rw [crc_tail.l0, if_neg (by omega)]
  congr 1
  simp only [le4, ofN, List.map_cons, List.map_nil, List.nil_append, List.cons_append, List.cons.injEq, and_true]
  omega
theorem rtail_eq (s : Nat) (hs : s < 4294967296) : tallyroomref02_Tail.f (s : Int) = some (ofN (le4 s)) := by
  unfold tallyroomref02_Tail.f
  congr 1
  simp only [le4, ofN, List.map_cons, List.map_nil, List.cons.injEq, and_true]
  rw [Int.tmod_eq_emod_of_nonneg (by omega), Int.tdiv_eq_ediv_of_nonneg (by omega), Int.tdiv_eq_ediv_of_nonneg (by omega), Int.tdiv_eq_ediv_of_nonneg (by omega)]
  omega
theorem equal_loop (a b : List Nat) (h : a.length = b.length) (hl : a.length ≤ 4611686018427387904) (d : Nat) : ∀ (i k : Nat), i + d = a.length → d < k →
    slices_Equal_byte_byte.l0 k (ofN a) (ofN b) (a.length : Int) (i : Int) = some (decide (a.drop i = b.drop i)) := by
  induction d with
  | zero =>
    intro i k hi hk
    obtain ⟨k, rfl⟩ : ∃ m, k = m + 1 := ⟨k - 1, by omega⟩
    rw [slices_Equal_byte_byte.l0, if_neg (by omega), List.drop_of_length_le (by omega), List.drop_of_length_le (by omega)]
    simp
  | succ d ih =>
    intro i k hi hk
    obtain ⟨k, rfl⟩ : ∃ m, k = m + 1 := ⟨k - 1, by omega⟩
    have hlt : i < a.length := by omega
    have hlt2 : i < b.length := by omega
    have hda : a.drop i = a.getD i 0 :: a.drop (i + 1) := by
      rw [List.drop_eq_getElem_cons hlt, List.getD_eq_getElem?_getD, List.getElem?_eq_getElem hlt]; rfl
    have hdb : b.drop i = b.getD i 0 :: b.drop (i + 1) := by
      rw [List.drop_eq_getElem_cons hlt2, List.getD_eq_getElem?_getD, List.getElem?_eq_getElem hlt2]; rfl
    rw [slices_Equal_byte_byte.l0, if_pos (by omega), if_pos (by omega), if_pos (by rw [ofN_length]; omega), if_pos (by rw [ofN_length]; omega), rd_ofN, rd_ofN, hda, hdb]
    by_cases e : a.getD i 0 = b.getD i 0
    · rw [if_pos (by omega), IntWalk.wrap64_in _ (by omega), show (i : Int) + 1 = ((i + 1 : Nat) : Int) by omega, ih (i + 1) k (by omega) (by omega), e]
      simp only [List.cons.injEq, true_and]
    · rw [if_neg (by omega), decide_eq_false fun h' => e (List.cons.inj h').1]
theorem equal_eq (a b : List Nat) (hl : a.length ≤ 4611686018427387904) (k : Nat) (hk : a.length < k) : slices_Equal_byte_byte.f k (ofN a) (ofN b) = some (decide (a = b)) := by
  unfold slices_Equal_byte_byte.f
  by_cases h : a.length = b.length
  · rw [if_pos (by rw [ofN_length, ofN_length]; omega), ofN_length]
    have := equal_loop a b h hl a.length 0 k (by omega) hk
    simpa using this
  · rw [if_neg (by rw [ofN_length, ofN_length]; omega), decide_eq_false (fun e => h (by rw [e]))]
theorem clone_eq (a : List Nat) (h : a.length < 140737488355328) : slices_Clone_byte_byte.f (ofN a) = some (ofN a) := by
  unfold slices_Clone_byte_byte.f
  rw [Option.bind_some, List.length_nil, List.nil_append, if_pos (by rw [ofN_length]; omega)]
/-- Sealed. -/
def sealed (l : List Nat) : List Nat := l ++ le4 (sum l)
theorem sealed_wf {l : List Nat} (h : ∀ x ∈ l, x ≤ 255) : ∀ x ∈ sealed l, x ≤ 255 := mem_app h (le4_wf _)
theorem sealed_length (l : List Nat) : (sealed l).length = l.length + 4 := by simp [sealed, le4]
theorem sealed_eq (ns : List Nat) (hw : ∀ n ∈ ns, n ≤ 255) (hl : ns.length ≤ 140737488351232) (k : Nat) (hk : ns.length + 5 < k) : crc_Seal.f k (ofN ns) = some (ofN (sealed ns)) := by
  unfold crc_Seal.f
  rw [clone_eq ns (by omega), Option.bind_some, sum_eq ns hw (by omega) k (by omega), Option.bind_some, tail_eq _ k (by omega), Option.bind_some, if_pos (by rw [ofN_length, ofN_length]; simp [le4]; omega), ← ofN_append]
  rfl
/-- Opened: the body; the error. -/
def opened (l : List Nat) : List Nat × Nat :=
  if l.length < 4 then ([], 10) else if l.drop (l.length - 4) = le4 (sum (l.take (l.length - 4))) then (l.take (l.length - 4), 0) else ([], 12)
theorem open_eq (ns : List Nat) (hw : ∀ n ∈ ns, n ≤ 255) (hl : ns.length ≤ 140737488351232) (k : Nat) (hk : ns.length + 5 < k) : crc_Open.f k (ofN ns) = some (ofN (opened ns).1, ((opened ns).2 : Int)) := by
  unfold crc_Open.f opened
  by_cases h : ns.length < 4
  · rw [if_pos (by rw [ofN_length]; omega), if_pos h]; rfl
  · have e : wrap64 (((ofN ns).length : Int) - 4) = ((ns.length - 4 : Nat) : Int) := by rw [ofN_length, IntWalk.wrap64_in _ (by omega)]; omega
    rw [if_neg (by rw [ofN_length]; omega), if_neg h, e, if_pos (by omega), if_pos (by rw [ofN_length]; omega), Int.toNat_natCast, ofN_take, ofN_drop]
    have ht : ∀ x ∈ ns.take (ns.length - 4), x ≤ 255 := fun x hx => hw x (List.mem_of_mem_take hx)
    have hd : ∀ x ∈ ns.drop (ns.length - 4), x ≤ 255 := fun x hx => hw x (List.mem_of_mem_drop hx)
    rw [sum_eq _ ht (by rw [List.length_take]; omega) k (by rw [List.length_take]; omega), Option.bind_some, tail_eq _ k (by omega), Option.bind_some, equal_eq _ _ (by rw [List.length_drop]; omega) k (by rw [List.length_drop]; omega), Option.bind_some]
    by_cases he : ns.drop (ns.length - 4) = le4 (sum (ns.take (ns.length - 4)))
    · rw [if_pos (by simpa using he), if_pos he, clone_eq _ (by rw [List.length_take]; omega)]; rfl
    · rw [if_neg (by simpa using he), if_neg he]; rfl
theorem opened_sealed (l : List Nat) : opened (sealed l) = (l, 0) := by
  unfold opened
  rw [sealed_length, if_neg (by omega), show l.length + 4 - 4 = l.length by omega]
  unfold sealed
  rw [List.drop_left, List.take_left, if_pos rfl]
end Go.Proofs.Ytbfmmjdbnbfnmaa.Crc

namespace Go.Proofs.Ytbfmmjdbnbfnmaa.Crc
open Go.RowKit Go.Proofs.Ytbfmmjdbnbfnmaa.XH Go.Proofs.YtbfmmjdbnbfnmaaW.PrintWords Go.Proofs.YtbfmmjdbnbfnmaaW.PrintLast Go.Proofs.YtbfmmjdbnbfnmaaW.PrintMore
open Go.Proofs.Ytbfmmjdbnbfnmaa.Var

/-! ### one bit's step backwards -/
theorem step_inj {a b : Nat} (ha : a < 4294967296) (hb : b < 4294967296) (h : step a = step b) : a = b := by
  have hx : step (a ^^^ b) = 0 := by rw [step_xor, h, Nat.xor_self]
  have hlt := xor_lt ha hb
  generalize hc : a ^^^ b = c at hx hlt
  have hc0 : c = 0 := by
    unfold step at hx
    by_cases h1 : c % 2 = 1
    · rw [if_pos h1] at hx
      have : c / 2 = Pol := by
        have := congrArg (· ^^^ Pol) hx
        simpa [Nat.xor_assoc] using this
      unfold Pol at this
      omega
    · rw [if_neg h1] at hx; omega
  subst hc0
  have := congrArg (· ^^^ b) hc
  simpa [Nat.xor_assoc] using this
theorem steps_inj (k : Nat) : ∀ {a b : Nat}, a < 4294967296 → b < 4294967296 → steps k a = steps k b → a = b := by
  induction k with
  | zero => exact fun _ _ h => h
  | succ k ih => exact fun ha hb h => step_inj ha hb (ih (step_lt ha) (step_lt hb) h)
theorem step_zero : step 0 = 0 := rfl
theorem steps_zero (k : Nat) : steps k 0 = 0 := by
  induction k with
  | zero => rfl
  | succ k ih => rw [steps, step_zero, ih]

/-! ### the register is linear -/
theorem feed_shift (l : List Nat) : ∀ (a b : Nat), feed (a ^^^ b) l = feed a l ^^^ steps (8 * l.length) b := by
  induction l with
  | nil => intro a b; rfl
  | cons x l ih =>
    intro a b
    show feed (steps 8 ((a ^^^ b) ^^^ x)) l = feed (steps 8 (a ^^^ x)) l ^^^ steps (8 * (l.length + 1)) b
    have e : (a ^^^ b) ^^^ x = (a ^^^ x) ^^^ b := by rw [Nat.xor_assoc, Nat.xor_comm b x, ← Nat.xor_assoc]
    rw [e, steps_xor 8, ih, show 8 * (l.length + 1) = 8 + 8 * l.length by omega, steps_add 8 (8 * l.length)]
theorem feed_set (l : List Nat) : ∀ (n i x : Nat), i < l.length → feed n (l.set i (l.getD i 0 ^^^ x)) = feed n l ^^^ steps (8 * (l.length - i)) x := by
  induction l with
  | nil => intro n i x h; simp at h
  | cons c l ih =>
    intro n i x h
    cases i with
    | zero =>
      show feed (steps 8 (n ^^^ (c ^^^ x))) l = feed (steps 8 (n ^^^ c)) l ^^^ steps (8 * (l.length + 1 - 0)) x
      rw [← Nat.xor_assoc, steps_xor 8, feed_shift, show 8 * (l.length + 1 - 0) = 8 + 8 * l.length by omega, steps_add 8 (8 * l.length)]
    | succ i =>
      show feed (steps 8 (n ^^^ c)) (l.set i (l.getD i 0 ^^^ x)) = feed (steps 8 (n ^^^ c)) l ^^^ steps (8 * (l.length + 1 - (i + 1))) x
      rw [ih _ i x (by simpa using h), show l.length + 1 - (i + 1) = l.length - i by omega]
/-- Four bytes at once. -/
theorem feed_byte (r n s : Nat) : steps (8 + r) (n ^^^ s) = steps r (steps 8 (n ^^^ s % 256) ^^^ s / 256) := by
  rw [steps_add 8 r]
  congr 1
  have h := split_low s 8
  conv => lhs; rw [← h]
  rw [Nat.xor_comm (2 ^ 8 * (s / 2 ^ 8)), ← Nat.xor_assoc, steps_xor 8, steps_shift 8]
theorem feed_le4 (n s : Nat) (hs : s < 4294967296) : feed n (le4 s) = steps 32 (n ^^^ s) := by
  have e : le4 s = [s % 256, s / 256 % 256, s / 256 / 256 % 256, s / 256 / 256 / 256 % 256] := by
    unfold le4
    rw [show s / 65536 % 256 = s / 256 / 256 % 256 by omega, show s / 16777216 % 256 = s / 256 / 256 / 256 % 256 by omega]
  rw [e]
  show steps 8 (steps 8 (steps 8 (steps 8 (n ^^^ s % 256) ^^^ s / 256 % 256) ^^^ s / 256 / 256 % 256) ^^^ s / 256 / 256 / 256 % 256) = _
  have h1 := feed_byte 24 n s
  generalize steps 8 (n ^^^ s % 256) = n1 at h1 ⊢
  have h2 := feed_byte 16 n1 (s / 256)
  generalize steps 8 (n1 ^^^ s / 256 % 256) = n2 at h2 ⊢
  have h3 := feed_byte 8 n2 (s / 256 / 256)
  generalize steps 8 (n2 ^^^ s / 256 / 256 % 256) = n3 at h3 ⊢
  have h4 := feed_byte 0 n3 (s / 256 / 256 / 256)
  rw [show s / 256 / 256 / 256 / 256 = 0 by omega, Nat.xor_zero] at h4
  exact (h1.trans (h2.trans (h3.trans h4))).symm

/-! ### what is valid -/
def ones : Nat := 4294967295
def num4 (l : List Nat) : Nat := l.getD 0 0 + 256 * l.getD 1 0 + 65536 * l.getD 2 0 + 16777216 * l.getD 3 0
theorem le4_num4 (l : List Nat) (hl : l.length = 4) (hw : ∀ x ∈ l, x ≤ 255) : le4 (num4 l) = l ∧ num4 l < 4294967296 := by
  match l, hl with
  | [a, b, c, d], _ =>
    have ha := hw a (by simp)
    have hb := hw b (by simp)
    have hc := hw c (by simp)
    have hd := hw d (by simp)
    have e : num4 [a, b, c, d] = a + 256 * b + 65536 * c + 16777216 * d := rfl
    rw [e]
    refine ⟨?_, by omega⟩
    simp only [le4, List.cons.injEq, and_true]
    omega
theorem valid_iff (l : List Nat) (h4 : 4 ≤ l.length) (hw : ∀ x ∈ l, x ≤ 255) : (opened l).2 = 12 ∨ feed ones l = steps 32 ones := by
  unfold opened
  rw [if_neg (by omega)]
  by_cases he : l.drop (l.length - 4) = le4 (sum (l.take (l.length - 4)))
  · right
    have ht : ∀ x ∈ l.take (l.length - 4), x ≤ 255 := fun x hx => hw x (List.mem_of_mem_take hx)
    have hf := feed_lt (l.take (l.length - 4)) ones (by decide) ht
    conv => lhs; rw [← List.take_append_drop (l.length - 4) l]
    rw [feed_append, he, feed_le4 _ _ (sum_lt _)]
    congr 1
    have h1 : sum (l.take (l.length - 4)) = ones ^^^ feed ones (l.take (l.length - 4)) := by
      unfold sum more
      rw [show inv 0 = ones by rfl]
      exact (xor_inv _ hf).symm
    rw [h1, Nat.xor_comm ones, ← Nat.xor_assoc, Nat.xor_self, Nat.zero_xor]
  · left
    rw [if_neg he]
theorem sealed_valid (l : List Nat) (hw : ∀ x ∈ l, x ≤ 255) : feed ones (sealed l) = steps 32 ones := by
  rcases valid_iff (sealed l) (by rw [sealed_length]; omega) (sealed_wf hw) with h | h
  · rw [opened_sealed] at h; simp at h
  · exact h

/-! ### no two bits turned are alike -/
def apart : Nat → Nat → Bool
  | 0, _ => true
  | k + 1, n => match step n with
    | 0 => false
    | m + 1 => (m != 0) && apart k (m + 1)
theorem apart_steps (k : Nat) : ∀ n, apart k n = true → ∀ d, 1 ≤ d → d ≤ k → steps d n ≠ 1 := by
  induction k with
  | zero => intro n _ d h1 h2; omega
  | succ k ih =>
    intro n h d h1 h2
    rw [apart] at h
    split at h
    · cases h
    · rename_i m hm
      obtain ⟨d, rfl⟩ : ∃ e, d = e + 1 := ⟨d - 1, by omega⟩
      rw [Bool.and_eq_true] at h
      rw [steps, hm]
      cases d with
      | zero =>
        show m + 1 ≠ 1
        have := h.1
        simp at this
        omega
      | succ d => exact ih (m + 1) h.2 (d + 1) (by omega) (by omega)
/-- One bit turned: what the register is behind all. -/
theorem bit_at (n p : Nat) (hp : p < 8 * n) : steps (8 * (n - p / 8)) (2 ^ (p % 8)) = steps (8 * n - p) 1 := by
  rw [show 8 * (n - p / 8) = p % 8 + (8 * n - p) by omega, steps_add (p % 8) (8 * n - p)]
  have := steps_shift (p % 8) 1
  rw [Nat.mul_one] at this
  rw [this]
set_option maxRecDepth 1000000 in
theorem apart_all : apart 15960 1 = true := by decide +kernel
theorem one_bit (k : Nat) : steps k 1 ≠ 0 := fun h => by
  have := steps_inj k (a := 1) (b := 0) (by omega) (by omega) (by rw [h, steps_zero])
  omega
theorem two_bits {a b : Nat} (h : a < b) (hb : b ≤ 15960) : steps a 1 ≠ steps b 1 := fun e => by
  have h1 : steps b 1 = steps a (steps (b - a) 1) := by rw [← steps_add (b - a) a, show b - a + a = b by omega]
  have h2 := steps_inj a (a := 1) (b := steps (b - a) 1) (by omega) (steps_lt _ (by omega)) (by rw [e, h1])
  exact apart_steps 15960 1 apart_all (b - a) (by omega) (by omega) h2.symm
theorem xor_ne {a b : Nat} (h : b ≠ 0) : a ^^^ b ≠ a := fun e => h (by
  have := congrArg (a ^^^ ·) e
  simpa [← Nat.xor_assoc] using this)
/-- Bit p of bytes is turned. -/
def turned (l : List Nat) (p : Nat) : List Nat := l.set (p / 8) (l.getD (p / 8) 0 ^^^ 2 ^ (p % 8))
theorem turned_length (l : List Nat) (p : Nat) : (turned l p).length = l.length := by simp [turned]
theorem turned_wf {l : List Nat} (p : Nat) (hw : ∀ x ∈ l, x ≤ 255) : ∀ x ∈ turned l p, x ≤ 255 := by
  intro x hx
  rcases List.mem_or_eq_of_mem_set hx with h | rfl
  · exact hw x h
  · have h1 : l.getD (p / 8) 0 < 2 ^ 8 := by have := getD_le hw (p / 8); omega
    have h2 : 2 ^ (p % 8) < 2 ^ 8 := Nat.pow_lt_pow_right (by decide) (by omega)
    have := Nat.xor_lt_two_pow h1 h2
    omega
theorem turned_feed (l : List Nat) (p n : Nat) (hp : p < 8 * l.length) : feed n (turned l p) = feed n l ^^^ steps (8 * l.length - p) 1 := by
  unfold turned
  rw [feed_set l n (p / 8) _ (by omega), bit_at _ _ hp]
theorem tells_one (l : List Nat) (hw : ∀ x ∈ l, x ≤ 255) (p : Nat) (hp : p < 8 * (sealed l).length) : (opened (turned (sealed l) p)).2 = 12 := by
  rcases valid_iff (turned (sealed l) p) (by rw [turned_length, sealed_length]; omega) (turned_wf p (sealed_wf hw)) with h | h
  · exact h
  · rw [turned_feed _ _ _ hp, sealed_valid l hw] at h
    exact absurd h (xor_ne (one_bit _))
theorem tells_two (l : List Nat) (hw : ∀ x ∈ l, x ≤ 255) (hl : l.length ≤ 1990) (p q : Nat) (hpq : p ≠ q) (hp : p < 8 * (sealed l).length) (hq : q < 8 * (sealed l).length) :
    (opened (turned (turned (sealed l) p) q)).2 = 12 := by
  rcases valid_iff (turned (turned (sealed l) p) q) (by rw [turned_length, turned_length, sealed_length]; omega) (turned_wf q (turned_wf p (sealed_wf hw))) with h | h
  · exact h
  · rw [turned_feed _ _ _ (by rw [turned_length]; exact hq), turned_feed _ _ _ hp, turned_length, sealed_valid l hw, Nat.xor_assoc] at h
    exfalso
    rw [sealed_length] at hp hq h
    refine xor_ne (fun h0 => ?_) h
    have h1 : steps (8 * (l.length + 4) - p) 1 = steps (8 * (l.length + 4) - q) 1 := by
      have := congrArg (· ^^^ steps (8 * (l.length + 4) - q) 1) h0
      simpa [Nat.xor_assoc] using this
    rcases Nat.lt_or_gt_of_ne hpq with h2 | h2
    · exact two_bits (by omega) (by omega) h1.symm
    · exact two_bits (by omega) (by omega) h1
end Go.Proofs.Ytbfmmjdbnbfnmaa.Crc

namespace Go.Proofs.Ytbfmmjdbnbfnmaa.Frm
open Go.RowKit Go.Proofs.Ytbfmmjdbnbfnmaa.XH Go.Proofs.YtbfmmjdbnbfnmaaW.PrintWords Go.Proofs.YtbfmmjdbnbfnmaaW.PrintLast Go.Proofs.YtbfmmjdbnbfnmaaW.PrintMore
open Go.Proofs.Ytbfmmjdbnbfnmaa.Var Go.Proofs.Ytbfmmjdbnbfnmaa.Crc

theorem vg_bounds (l : List Nat) : ∀ (i n : Nat), (vg i n l).2.2 = 0 → i < (vg i n l).2.1 ∧ (vg i n l).2.1 ≤ i + l.length ∧ (i ≤ 10 → (vg i n l).2.1 ≤ 10) := by
  induction l with
  | nil => intro i n h; simp [vg] at h
  | cons c l ih =>
    intro i n h
    rw [vg] at h ⊢
    by_cases h1 : 10 ≤ i ∨ (i = 9 ∧ 1 < c % 128)
    · rw [if_pos h1] at h; simp at h
    · rw [if_neg h1] at h ⊢
      by_cases h2 : c < 128
      · rw [if_pos h2] at h ⊢
        by_cases h3 : c = 0 ∧ 0 < i
        · rw [if_pos h3] at h; simp at h
        · rw [if_neg h3]; simp; omega
      · rw [if_neg h2] at h ⊢
        obtain ⟨h4, h5, h6⟩ := ih _ _ h
        rw [List.length_cons]
        omega
theorem vg_err (l : List Nat) : ∀ (i n : Nat), (vg i n l).2.2 ≠ 0 → (vg i n l).1 = 0 ∧ (vg i n l).2.1 = 0 := by
  induction l with
  | nil => intro i n _; exact ⟨rfl, rfl⟩
  | cons c l ih =>
    intro i n h
    rw [vg] at h ⊢
    split at h <;> rename_i h1
    · rw [if_pos h1]; exact ⟨rfl, rfl⟩
    · rw [if_neg h1]
      split at h <;> rename_i h2
      · rw [if_pos h2]
        split at h <;> rename_i h3
        · rw [if_pos h3]; exact ⟨rfl, rfl⟩
        · simp at h
      · rw [if_neg h2]; exact ih _ _ h

/-- The frame with which bytes begin: its body, how many bytes it took, the error. -/
def next (l : List Nat) : List Nat × Nat × Nat :=
  if (vget l).2.2 ≠ 0 then ([], 0, (vget l).2.2) else if (vget l).1 > 65536 then ([], 0, 2) else
  if (vget l).2.1 + (vget l).1 + 4 > l.length then ([], 0, 10) else
  ((opened ((l.take ((vget l).2.1 + (vget l).1 + 4)).drop (vget l).2.1)).1, (vget l).2.1 + (vget l).1 + 4, (opened ((l.take ((vget l).2.1 + (vget l).1 + 4)).drop (vget l).2.1)).2)
theorem next_eq (ns : List Nat) (hw : ∀ n ∈ ns, n ≤ 255) (hl : ns.length ≤ 140737488351232) (k : Nat) (hk : 2 * ns.length + 5 < k) :
    frame_Next.f k (ofN ns) = some (ofN (next ns).1, ((next ns).2.1 : Int), ((next ns).2.2 : Int)) := by
  unfold frame_Next.f
  have hg : varint_Get.f k (ofN ns) = some ((((vget ns).1 : Nat) : Int), (((vget ns).2.1 : Nat) : Int), (((vget ns).2.2 : Nat) : Int)) := get ns hw (by omega) k (by omega)
  rw [hg, Option.bind_some]
  unfold next
  have hb := vg_bounds ns 0 0
  rw [show vg 0 0 ns = vget ns from rfl] at hb
  generalize (vget ns).1 = n at hb ⊢
  generalize (vget ns).2.1 = j at hb ⊢
  generalize (vget ns).2.2 = e at hb ⊢
  by_cases he : e = 0
  · subst he
    have hb := hb rfl
    rw [if_pos (show ((((n : Nat) : Int), ((j : Nat) : Int), ((0 : Nat) : Int)) : Int × Int × Int).2.2 = 0 from rfl), if_neg (show ¬ (0 : Nat) ≠ 0 by simp)]
    by_cases h1 : n > 65536
    · rw [if_pos (show (n : Int) > 65536 by omega), if_pos h1]; rfl
    · rw [if_neg (show ¬ (n : Int) > 65536 by omega), if_neg h1]
      have e1 : wrap64 (wrap64 ((j : Int) + wrap64 (n : Int)) + 4) = ((j + n + 4 : Nat) : Int) := by
        rw [IntWalk.wrap64_in (n : Int) (by omega), IntWalk.wrap64_in ((j : Int) + n) (by omega), IntWalk.wrap64_in _ (by omega)]; omega
      simp only [e1]
      by_cases h2 : j + n + 4 > ns.length
      · rw [if_pos (by rw [ofN_length]; omega), if_pos h2]; rfl
      · rw [if_neg (by rw [ofN_length]; omega), if_neg h2, if_pos (by omega), if_pos (by omega), if_pos (by rw [ofN_length]; omega), Int.toNat_natCast, Int.toNat_natCast, ofN_take, ofN_drop]
        have hcw : ∀ x ∈ (ns.take (j + n + 4)).drop j, x ≤ 255 := fun x hx => hw x (List.mem_of_mem_take (List.mem_of_mem_drop hx))
        have hcl : ((ns.take (j + n + 4)).drop j).length ≤ ns.length := by rw [List.length_drop, List.length_take]; omega
        rw [open_eq _ hcw (by omega) k (by omega), Option.bind_some]
  · rw [if_neg (show ¬ (e : Int) = 0 by omega), if_pos he]; rfl
theorem next_le (l : List Nat) : (next l).2.1 ≤ l.length := by
  unfold next
  split
  · simp
  · split
    · simp
    · split
      · simp
      · simp; omega
theorem opened_wf {l : List Nat} (hw : ∀ n ∈ l, n ≤ 255) : ∀ x ∈ (opened l).1, x ≤ 255 := by
  unfold opened
  split
  · simp
  · split
    · exact fun x hx => hw x (List.mem_of_mem_take hx)
    · simp
theorem next_wf {l : List Nat} (hw : ∀ n ∈ l, n ≤ 255) : ∀ x ∈ (next l).1, x ≤ 255 := by
  unfold next
  split
  · simp
  · split
    · simp
    · split
      · simp
      · exact opened_wf fun x hx => hw x (List.mem_of_mem_take (List.mem_of_mem_drop hx))
/-- Frame by frame. -/
def parts : Nat → List Nat → List (List Nat) × Nat × Nat
  | 0, _ => ([], 0, 0)
  | f + 1, l => if l.length = 0 ∨ (next l).2.1 = 0 then ([], 0, 0) else
    let r := parts f (l.drop (next l).2.1)
    (if (next l).2.2 = 0 then (next l).1 :: r.1 else r.1, (if (next l).2.2 = 0 then r.2.1 else r.2.1 + 1), (next l).2.1 + r.2.2)
theorem parts_more (f : Nat) : ∀ (g : Nat) (l : List Nat), l.length < f → l.length < g → parts f l = parts g l := by
  induction f with
  | zero => intro g l h; omega
  | succ f ih =>
    intro g l h1 h2
    obtain ⟨g, rfl⟩ : ∃ m, g = m + 1 := ⟨g - 1, by omega⟩
    rw [parts, parts]
    by_cases h : l.length = 0 ∨ (next l).2.1 = 0
    · rw [if_pos h, if_pos h]
    · rw [if_neg h, if_neg h, ih g (l.drop (next l).2.1) (by rw [List.length_drop]; omega) (by rw [List.length_drop]; omega)]
def all (l : List Nat) : List (List Nat) × Nat × Nat := parts (l.length + 1) l
theorem all_nil : all [] = ([], 0, 0) := by unfold all; rw [parts, if_pos (.inl rfl)]
theorem all_stop {l : List Nat} (h : (next l).2.1 = 0) : all l = ([], 0, 0) := by unfold all; rw [parts, if_pos (.inr h)]
theorem all_next {l : List Nat} (h : (next l).2.1 ≠ 0) : all l = ((if (next l).2.2 = 0 then (next l).1 :: (all (l.drop (next l).2.1)).1 else (all (l.drop (next l).2.1)).1), (if (next l).2.2 = 0 then (all (l.drop (next l).2.1)).2.1 else (all (l.drop (next l).2.1)).2.1 + 1), (next l).2.1 + (all (l.drop (next l).2.1)).2.2) := by
  have hle := next_le l
  unfold all
  rw [parts, if_neg (by omega), parts_more l.length ((l.drop (next l).2.1).length + 1) (l.drop (next l).2.1) (by rw [List.length_drop]; omega) (by omega)]
theorem all_bound (f : Nat) : ∀ l, (parts f l).1.length + (parts f l).2.1 ≤ l.length ∧ (parts f l).2.2 ≤ l.length := by
  induction f with
  | zero => intro l; simp [parts]
  | succ f ih =>
    intro l
    rw [parts]
    by_cases h : l.length = 0 ∨ (next l).2.1 = 0
    · rw [if_pos h]; simp
    · rw [if_neg h]
      have hle := next_le l
      have h1 := ih (l.drop (next l).2.1)
      rw [List.length_drop] at h1
      by_cases h2 : (next l).2.2 = 0
      · simp only [h2, if_true, List.length_cons]; omega
      · simp only [h2, if_false]; omega
theorem all_loop (ns : List Nat) (hw : ∀ n ∈ ns, n ≤ 255) (hl : ns.length ≤ 1000000000) (d : Nat) : ∀ (i k sp : Nat) (acc : List (List Nat)), i ≤ ns.length → ns.length - i ≤ d → d + 2 * ns.length + 6 < k → acc.length + d ≤ 2000000000 → sp + d ≤ 2000000000 →
    frame_All.l0 k (ofN ns) (acc.map ofN) (sp : Int) (i : Int) = some ((acc ++ (all (ns.drop i)).1).map ofN, ((sp + (all (ns.drop i)).2.1 : Nat) : Int), ((i + (all (ns.drop i)).2.2 : Nat) : Int)) := by
  induction d with
  | zero =>
    intro i k sp acc hi hd hk _ _
    obtain ⟨k, rfl⟩ : ∃ m, k = m + 1 := ⟨k - 1, by omega⟩
    rw [frame_All.l0, if_neg (by rw [ofN_length]; omega), List.drop_of_length_le (by omega), all_nil]
    simp
  | succ d ih =>
    intro i k sp acc hi hd hk ha hs
    obtain ⟨k, rfl⟩ : ∃ m, k = m + 1 := ⟨k - 1, by omega⟩
    by_cases hlt : i < ns.length
    · have hdw : ∀ x ∈ ns.drop i, x ≤ 255 := fun x hx => hw x (List.mem_of_mem_drop hx)
      have hle := next_le (ns.drop i)
      have hnw := next_wf hdw
      rw [frame_All.l0, if_pos (by rw [ofN_length]; omega), if_pos (by omega), if_pos (by rw [ofN_length]; omega), Int.toNat_natCast, ofN_drop, next_eq _ hdw (by rw [List.length_drop]; omega) k (by rw [List.length_drop]; omega), Option.bind_some]
      rw [List.length_drop] at hle
      by_cases h0 : (next (ns.drop i)).2.1 = 0
      · rw [if_pos (by show ((next (ns.drop i)).2.1 : Int) = 0; omega), all_stop h0]
        simp
      · rw [if_neg (by show ¬ ((next (ns.drop i)).2.1 : Int) = 0; omega), all_next h0, List.drop_drop]
        generalize next (ns.drop i) = r at h0 hle hnw ⊢
        obtain ⟨x, j, e⟩ := r
        simp only at h0 hle hnw ⊢
        rw [IntWalk.wrap64_in ((i : Int) + (j : Int)) (by omega), show (i : Int) + (j : Int) = ((i + j : Nat) : Int) by omega]
        by_cases he : e = 0
        · subst he
          rw [if_pos (by rfl), if_pos (by rw [List.length_map]; omega)]
          have := ih (i + j) k sp (acc ++ [x]) (by omega) (by omega) (by omega) (by simp; omega) (by omega)
          rw [List.map_append] at this
          rw [show acc.map ofN ++ [ofN x] = acc.map ofN ++ [x].map ofN from rfl, this]
          simp; omega
        · rw [if_neg (by omega), if_neg he, if_neg he, IntWalk.wrap64_in ((sp : Int) + 1) (by omega), show (sp : Int) + 1 = ((sp + 1 : Nat) : Int) by omega, ih (i + j) k (sp + 1) acc (by omega) (by omega) (by omega) (by omega) (by omega)]
          congr 3
          · omega
          · omega
    · rw [frame_All.l0, if_neg (by rw [ofN_length]; omega), List.drop_of_length_le (by omega), all_nil]
      simp
theorem all_eq (ns : List Nat) (hw : ∀ n ∈ ns, n ≤ 255) (hl : ns.length ≤ 1000000) (k : Nat) (hk : 3 * ns.length + 6 < k) : frame_All.f k (ofN ns) = some ((all ns).1.map ofN, ((all ns).2.1 : Int), ((all ns).2.2 : Int)) := by
  unfold frame_All.f
  have := all_loop ns hw (by omega) ns.length 0 k 0 [] (by omega) (by omega) (by omega) (by simp; omega) (by omega)
  simpa using this
end Go.Proofs.Ytbfmmjdbnbfnmaa.Frm

namespace Go.Proofs.Ytbfmmjdbnbfnmaa.Frm
open Go.RowKit Go.Proofs.Ytbfmmjdbnbfnmaa.XH Go.Proofs.YtbfmmjdbnbfnmaaW.PrintWords Go.Proofs.YtbfmmjdbnbfnmaaW.PrintLast Go.Proofs.YtbfmmjdbnbfnmaaW.PrintMore
open Go.Proofs.Ytbfmmjdbnbfnmaa.Var Go.Proofs.Ytbfmmjdbnbfnmaa.Crc

theorem rows_N (l : List (List Int)) (h : ∀ x ∈ l, ∀ y ∈ x, (Lit.int .u8 y).wf = true) : ∃ ns : List (List Nat), l = ns.map ofN ∧ ∀ x ∈ ns, ∀ y ∈ x, y ≤ 255 := by
  induction l with
  | nil => exact ⟨[], rfl, by simp⟩
  | cons x l ih =>
    obtain ⟨ns, rfl, hn⟩ := ih fun y hy => h y (List.mem_cons_of_mem _ hy)
    obtain ⟨n, rfl, hx⟩ := ofN_byte (h x (List.mem_cons_self ..))
    refine ⟨n :: ns, rfl, fun m hm => ?_⟩
    rcases List.mem_cons.1 hm with rfl | hm
    · exact hx
    · exact hn m hm
theorem rd_rows (ns : List (List Nat)) (i : Nat) : rd_L1 (ns.map ofN) (i : Int) = ofN (ns.getD i []) := by
  unfold rd_L1
  simp only [Int.toNat_natCast, List.getD_eq_getElem?_getD, List.getElem?_map]
  cases ns[i]? <;> simp [ofN]
theorem getD_rows {ns : List (List Nat)} (h : ∀ x ∈ ns, ∀ y ∈ x, y ≤ 255) (i : Nat) : ∀ y ∈ ns.getD i [], y ≤ 255 := by
  rw [List.getD_eq_getElem?_getD]
  cases e : ns[i]? with
  | none => simp
  | some x => exact h x (List.mem_of_getElem? e)
theorem take_one {α : Type} (d : α) (ns : List α) {i : Nat} (h : i < ns.length) : ns.take (i + 1) = ns.take i ++ [ns.getD i d] := by
  rw [List.take_succ_eq_append_getElem h, List.getD_eq_getElem?_getD, List.getElem?_eq_getElem h]; rfl
/-- A frame. -/
def wrapped (l : List Nat) : List Nat := vput l.length ++ sealed l
theorem wrapped_length (l : List Nat) : (wrapped l).length = (vput l.length).length + l.length + 4 := by
  unfold wrapped; rw [List.length_append, sealed_length]; omega
theorem wrapped_wf {l : List Nat} (hw : ∀ x ∈ l, x ≤ 255) : ∀ x ∈ wrapped l, x ≤ 255 := mem_app (vput_wf _) (sealed_wf hw)
theorem wrap_eq (l : List Nat) (hw : ∀ n ∈ l, n ≤ 255) (hl : l.length ≤ 65536) (k : Nat) (hk : l.length + 20 < k) : frame_Wrap.f k (ofN l) = some (ofN (wrapped l), 0) := by
  unfold frame_Wrap.f
  have h1 := vput_length_le l.length (by omega)
  have h2 := sealed_length l
  rw [if_neg (by rw [ofN_length]; omega), ofN_length, IntWalk.u64_in (l.length : Int) (by omega), put k l.length [] (by omega) (by omega) (by simp), Option.bind_some, List.nil_append, sealed_eq l hw (by omega) k (by omega), Option.bind_some, if_pos (by rw [ofN_length, ofN_length]; omega), ← ofN_append]
  rfl
theorem next_body (n : Nat) (s r : List Nat) (hn : n ≤ 65536) (hs : s.length = n + 4) : next (vput n ++ s ++ r) = ((opened s).1, (vput n).length + n + 4, (opened s).2) := by
  unfold next
  have h := vget_put n (s ++ r) (by omega)
  rw [← List.append_assoc] at h
  rw [h]
  simp only
  rw [if_neg (by simp), if_neg (by omega), if_neg (by simp; omega)]
  have e : ((vput n ++ s ++ r).take ((vput n).length + n + 4)).drop (vput n).length = s := by
    rw [List.take_left' (by simp; omega), List.drop_left' rfl]
  rw [e]
theorem next_wrapped (l r : List Nat) (hl : l.length ≤ 65536) : next (wrapped l ++ r) = (l, (wrapped l).length, 0) := by
  rw [wrapped_length]
  unfold wrapped
  rw [next_body _ _ _ hl (sealed_length l), opened_sealed]
theorem all_one (l r : List Nat) (hl : l.length ≤ 65536) : all (wrapped l ++ r) = (l :: (all r).1, (all r).2.1, (wrapped l).length + (all r).2.2) := by
  have h := next_wrapped l r hl
  have h4 := wrapped_length l
  rw [all_next (by rw [h]; simp only; omega), h]
  simp only [if_true]
  rw [List.drop_left' rfl]
theorem all_hurt (n : Nat) (s r : List Nat) (hn : n ≤ 65536) (hs : s.length = n + 4) (ho : (opened s).2 ≠ 0) : all (vput n ++ s ++ r) = ((all r).1, (all r).2.1 + 1, (vput n).length + n + 4 + (all r).2.2) := by
  have h := next_body n s r hn hs
  rw [all_next (by rw [h]; simp only; omega), h]
  simp only [if_neg ho]
  rw [List.drop_left' (by simp; omega)]
theorem all_wrapped (ls : List (List Nat)) (r : List Nat) (hl : ∀ x ∈ ls, x.length ≤ 65536) : all ((ls.map wrapped).flatten ++ r) = (ls ++ (all r).1, (all r).2.1, (ls.map wrapped).flatten.length + (all r).2.2) := by
  induction ls with
  | nil => simp
  | cons x ls ih =>
    rw [List.map_cons, List.flatten_cons, List.append_assoc, all_one x _ (hl x (List.mem_cons_self ..)), ih fun y hy => hl y (List.mem_cons_of_mem _ hy), List.length_append]
    simp only [List.cons_append, Nat.add_assoc]
theorem alive08 {k : Nat} (hk : 100 ≤ k) : tallyroomlaw08_alive.f k = some true := by
  unfold tallyroomlaw08_alive.f
  have h1 := wrap_eq [] (by simp) (by simp) k (by simp; omega)
  rw [show ofN [] = ([] : List Int) from rfl] at h1
  have e1 : wrapped [] = [0, 0, 0, 0, 0] := by unfold wrapped; rw [vput_small (by simp)]; decide +kernel
  have h2 := next_eq [0, 1, 0, 0, 0] (by decide) (by simp) k (by simp; omega)
  have e2 : next [0, 1, 0, 0, 0] = ([], 5, 12) := by decide +kernel
  rw [e2] at h2
  rw [show ofN [0, 1, 0, 0, 0] = ([0, 1, 0, 0, 0] : List Int) from rfl] at h2
  have h3 := bytes_eq (a := [0, 0, 0, 0, 0]) (b := [0, 0, 0, 0, 0]) (by decide) (by decide)
  rw [h1, Option.bind_some, h2, Option.bind_some, if_pos rfl, e1]
  rw [show (([0, 0, 0, 0, 0] : List Int)) = ofN [0, 0, 0, 0, 0] from rfl, h3, Option.bind_some, if_pos (by decide)]
  rfl
end Go.Proofs.Ytbfmmjdbnbfnmaa.Frm
