/- Plain facts on numbers in few bytes: what the program's functions of layer 1 come to. -/
import Derived.Test.YtfgpcoocbblkiaaXSvx0
import Derived.Test.YtfgpcoocbblkiaaXSvx12
import Derived.Test.YtfgpcoocbblkiaaXSvx16
import Derived.Test.YtfgpcoocbblkiaaXSvx17
import Derived.Test.YtfgpcoocbblkiaaXSvx20
import Derived.Test.YtfgpcoocbblkiaaXSvx4
import Derived.Test.YtfgpcoocbblkiaaXSvx5
import Derived.IntWalk
import Derived.Laws.Bits64b
import Derived.Laws.BitsLemmas
namespace Go.Proofs.Ytfgpcoocbblkiaa.Var
open Go.RowKit Go.Proofs.Ytfgpcoocbblkiaa.XSv Go.Proofs.YtfgpcoocbblkiaaW.PrintWords Go.Proofs.YtfgpcoocbblkiaaW.PrintLast Go.Proofs.YtfgpcoocbblkiaaW.PrintMore

/-- A list of numbers from 0 on. -/
def ofN (l : List Nat) : List Int := l.map (Nat.cast : Nat → Int)
theorem ofN_length (l : List Nat) : (ofN l).length = l.length := by simp [ofN]
theorem ofN_append (a b : List Nat) : ofN (a ++ b) = ofN a ++ ofN b := by simp [ofN]
theorem ofN_drop (a : List Nat) (k : Nat) : (ofN a).drop k = ofN (a.drop k) := by simp [ofN]
theorem ofN_take (a : List Nat) (k : Nat) : (ofN a).take k = ofN (a.take k) := by simp [ofN]
theorem rd_ofN (l : List Nat) (i : Nat) : rd (ofN l) (i : Int) = ((l.getD i 0 : Nat) : Int) := by
  unfold rd ofN
  simp only [Int.toNat_natCast, List.getD_eq_getElem?_getD, List.getElem?_map]
  cases l[i]? <;> simp
theorem u8_wf {x : Int} (h : (Lit.int .u8 x).wf = true) : 0 ≤ x ∧ x ≤ 255 := by
  simpa [Lit.wf, IntKind.min, IntKind.max, IntKind.signed, IntKind.bits] using h
theorem u64_wf {x : Int} (h : (Lit.int .u64 x).wf = true) : 0 ≤ x ∧ x ≤ 18446744073709551615 := by
  simpa [Lit.wf, IntKind.min, IntKind.max, IntKind.signed, IntKind.bits] using h
theorem u16_wf {x : Int} (h : (Lit.int .u16 x).wf = true) : 0 ≤ x ∧ x ≤ 65535 := by
  simpa [Lit.wf, IntKind.min, IntKind.max, IntKind.signed, IntKind.bits] using h
theorem i64_wf {x : Int} (h : (Lit.int .i64 x).wf = true) : -9223372036854775808 ≤ x ∧ x ≤ 9223372036854775807 := by
  simpa [Lit.wf, IntKind.min, IntKind.max, IntKind.signed, IntKind.bits] using h
theorem ofN_of (l : List Int) (B : Nat) (h : ∀ x ∈ l, 0 ≤ x ∧ x ≤ B) : ∃ ns : List Nat, l = ofN ns ∧ ∀ n ∈ ns, n ≤ B := by
  induction l with
  | nil => exact ⟨[], rfl, by simp⟩
  | cons x l ih =>
    obtain ⟨ns, rfl, hn⟩ := ih fun y hy => h y (List.mem_cons_of_mem _ hy)
    have hx := h x (List.mem_cons_self ..)
    obtain ⟨n, rfl⟩ := Int.eq_ofNat_of_zero_le hx.1
    refine ⟨n :: ns, rfl, fun m hm => ?_⟩
    rcases List.mem_cons.1 hm with rfl | hm
    · omega
    · exact hn m hm
theorem getD_le {ns : List Nat} {B : Nat} (h : ∀ n ∈ ns, n ≤ B) (i : Nat) : ns.getD i 0 ≤ B := by
  rw [List.getD_eq_getElem?_getD]
  cases e : ns[i]? with
  | none => simp
  | some y => exact h y (List.mem_of_getElem? e)

/-! ### bytes -/
theorem andNot128 (n : Nat) (h : n ≤ 255) : Go.bits .andNot .u8 (n : Int) 128 = ((n % 128 : Nat) : Int) := by
  have : ∀ i : Fin 256, Go.bits .andNot .u8 ((i.val : Nat) : Int) 128 = ((i.val % 128 : Nat) : Int) := by decide +kernel
  exact this ⟨n, by omega⟩
theorem and128 (n : Nat) (h : n ≤ 255) : (Go.bits .and .u8 (n : Int) 128 = 0) = (n < 128) := by
  have : ∀ i : Fin 256, (Go.bits .and .u8 ((i.val : Nat) : Int) 128 = 0) ↔ (i.val < 128) := by decide +kernel
  exact propext (this ⟨n, by omega⟩)
theorem or128 (n : Nat) (h : n ≤ 255) : Go.bits .or .u8 (n : Int) 128 = ((128 + n % 128 : Nat) : Int) := by
  have : ∀ i : Fin 256, Go.bits .or .u8 ((i.val : Nat) : Int) 128 = ((128 + i.val % 128 : Nat) : Int) := by decide +kernel
  exact this ⟨n, by omega⟩

/-! ### how many bits -/
/-- n has b bits. -/
def IsLen (n b : Nat) : Prop := (n = 0 ∧ b = 0) ∨ (1 ≤ b ∧ 2 ^ (b - 1) ≤ n ∧ n < 2 ^ b)
instance (n b : Nat) : Decidable (IsLen n b) := by unfold IsLen; infer_instance
def tab : ByteArray := ⟨#[0, 1, 2, 2, 3, 3, 3, 3, 4, 4, 4, 4, 4, 4, 4, 4, 5, 5, 5, 5, 5, 5, 5, 5, 5, 5, 5, 5, 5, 5, 5, 5, 6, 6, 6, 6, 6, 6, 6, 6, 6, 6, 6, 6, 6, 6, 6, 6, 6, 6, 6, 6, 6, 6, 6, 6, 6, 6, 6, 6, 6, 6, 6, 6, 7, 7, 7, 7, 7, 7, 7, 7, 7, 7, 7, 7, 7, 7, 7, 7, 7, 7, 7, 7, 7, 7, 7, 7, 7, 7, 7, 7, 7, 7, 7, 7, 7, 7, 7, 7, 7, 7, 7, 7, 7, 7, 7, 7, 7, 7, 7, 7, 7, 7, 7, 7, 7, 7, 7, 7, 7, 7, 7, 7, 7, 7, 7, 7, 8, 8, 8, 8, 8, 8, 8, 8, 8, 8, 8, 8, 8, 8, 8, 8, 8, 8, 8, 8, 8, 8, 8, 8, 8, 8, 8, 8, 8, 8, 8, 8, 8, 8, 8, 8, 8, 8, 8, 8, 8, 8, 8, 8, 8, 8, 8, 8, 8, 8, 8, 8, 8, 8, 8, 8, 8, 8, 8, 8, 8, 8, 8, 8, 8, 8, 8, 8, 8, 8, 8, 8, 8, 8, 8, 8, 8, 8, 8, 8, 8, 8, 8, 8, 8, 8, 8, 8, 8, 8, 8, 8, 8, 8, 8, 8, 8, 8, 8, 8, 8, 8, 8, 8, 8, 8, 8, 8, 8, 8, 8, 8, 8, 8, 8, 8, 8, 8, 8, 8, 8, 8, 8, 8, 8, 8, 8, 8]⟩
theorem tab_ok : ∀ i : Fin 256, IsLen i.val (bt tab (i.val : Int)).toNat ∧ 0 ≤ bt tab (i.val : Int) ∧ bt tab (i.val : Int) ≤ 8 := by decide +kernel
theorem len_up {n b s : Nat} (hn : n / 2 ^ s ≠ 0) (h : IsLen (n / 2 ^ s) b) : IsLen n (b + s) := by
  rcases h with ⟨h, _⟩ | ⟨h1, h2, h3⟩
  · exact absurd h hn
  · refine .inr ⟨by omega, ?_, ?_⟩
    · have := (Nat.le_div_iff_mul_le (Nat.two_pow_pos s)).1 h2
      rw [← Nat.pow_add] at this
      rwa [show b + s - 1 = b - 1 + s by omega]
    · have := (Nat.div_lt_iff_lt_mul (Nat.two_pow_pos s)).1 h3
      rwa [← Nat.pow_add] at this
theorem small (n x : Nat) (hn : n < 256) (hx : x ≤ 56) : ∃ b : Nat, wrap64 ((x : Int) + wrap64 (bt tab (n : Int))) = ((x + b : Nat) : Int) ∧ IsLen n b ∧ b ≤ 8 := by
  obtain ⟨h1, h2, h3⟩ := tab_ok ⟨n, hn⟩
  obtain ⟨b, hb⟩ := Int.eq_ofNat_of_zero_le h2
  simp only at hb h1 h3
  rw [hb] at h1 h3 ⊢
  refine ⟨b, ?_, by simpa using h1, by omega⟩
  rw [IntWalk.wrap64_in (b : Int) (by omega), IntWalk.wrap64_in _ (by omega)]
  omega
set_option maxRecDepth 100000 in
theorem len_j0 (k n x : Nat) (hn : n < 2 ^ 32) (hx : x = 0 ∨ x = 32) : ∃ b : Nat, bits_Len64.j0 (k + 1) (n : Int) (x : Int) = some ((x + b : Nat) : Int) ∧ IsLen n b ∧ b ≤ 32 := by
  rw [bits_Len64.j0]
  rw [show (n : Int) / 65536 / 256 % 256 = ((n / 65536 / 256 % 256 : Nat) : Int) by omega, show (n : Int) / 65536 % 256 = ((n / 65536 % 256 : Nat) : Int) by omega, show (n : Int) / 256 % 256 = ((n / 256 % 256 : Nat) : Int) by omega, show (n : Int) % 256 = ((n % 256 : Nat) : Int) by omega]
  by_cases h1 : (n : Int) ≥ 65536
  · rw [if_pos h1]
    by_cases h2 : (n : Int) / 65536 ≥ 256
    · rw [if_pos h2, if_pos (by omega), if_pos (by omega)]
      have e1 : wrap64 (wrap64 ((x : Int) + 16) + 8) = ((x + 24 : Nat) : Int) := by
        rw [IntWalk.wrap64_in ((x : Int) + 16) (by omega), IntWalk.wrap64_in _ (by omega)]; omega
      rw [e1]
      obtain ⟨b, hb, hl, h8⟩ := small (n / 65536 / 256 % 256) (x + 24) (by omega) (by omega)
      refine ⟨b + 24, ?_, ?_, by omega⟩
      · rw [show x + (b + 24) = x + 24 + b by omega]; exact congrArg some hb
      · have e2 : n / 65536 / 256 % 256 = n / 2 ^ 24 := by rw [Nat.div_div_eq_div_mul]; omega
        rw [e2] at hl
        exact len_up (by omega) hl
    · rw [if_neg h2, if_pos (by omega), if_pos (by omega)]
      have e1 : wrap64 ((x : Int) + 16) = ((x + 16 : Nat) : Int) := by rw [IntWalk.wrap64_in _ (by omega)]; omega
      rw [e1]
      obtain ⟨b, hb, hl, h8⟩ := small (n / 65536 % 256) (x + 16) (by omega) (by omega)
      refine ⟨b + 16, ?_, ?_, by omega⟩
      · rw [show x + (b + 16) = x + 16 + b by omega]; exact congrArg some hb
      · have e2 : n / 65536 % 256 = n / 2 ^ 16 := by omega
        rw [e2] at hl
        exact len_up (by omega) hl
  · rw [if_neg h1]
    by_cases h2 : (n : Int) ≥ 256
    · rw [if_pos h2, if_pos (by omega), if_pos (by omega)]
      have e1 : wrap64 ((x : Int) + 8) = ((x + 8 : Nat) : Int) := by rw [IntWalk.wrap64_in _ (by omega)]; omega
      rw [e1]
      obtain ⟨b, hb, hl, h8⟩ := small (n / 256 % 256) (x + 8) (by omega) (by omega)
      refine ⟨b + 8, ?_, ?_, by omega⟩
      · rw [show x + (b + 8) = x + 8 + b by omega]; exact congrArg some hb
      · have e2 : n / 256 % 256 = n / 2 ^ 8 := by omega
        rw [e2] at hl
        exact len_up (by omega) hl
    · rw [if_neg h2, if_pos (by omega), if_pos (by omega)]
      obtain ⟨b, hb, hl, h8⟩ := small (n % 256) x (by omega) (by omega)
      refine ⟨b, congrArg some hb, ?_, by omega⟩
      rwa [Nat.mod_eq_of_lt (by omega)] at hl
theorem len64 (k n : Nat) (hn : n < 2 ^ 64) : ∃ b : Nat, bits_Len64.f (k + 1) (n : Int) = some ((b : Nat) : Int) ∧ IsLen n b ∧ b ≤ 64 := by
  unfold bits_Len64.f
  by_cases h : (n : Int) ≥ 4294967296
  · rw [if_pos h, show (n : Int) / 4294967296 = ((n / 4294967296 : Nat) : Int) by omega]
    obtain ⟨b, hb, hl, h32⟩ := len_j0 k (n / 4294967296) 32 (by omega) (.inr rfl)
    refine ⟨32 + b, hb, ?_, by omega⟩
    rw [Nat.add_comm]
    exact len_up (s := 32) (by omega) hl
  · rw [if_neg h]
    obtain ⟨b, hb, hl, h32⟩ := len_j0 k n 0 (by omega) (.inl rfl)
    exact ⟨b, by simpa using hb, hl, by omega⟩

/-! ### put -/
/-- A number's bytes. -/
def vput (n : Nat) : List Nat := if h : n < 128 then [n] else (128 + n % 128) :: vput (n / 128)
termination_by n
decreasing_by omega
theorem vput_small {n : Nat} (h : n < 128) : vput n = [n] := by rw [vput, dif_pos h]
theorem vput_great {n : Nat} (h : ¬ n < 128) : vput n = (128 + n % 128) :: vput (n / 128) := by rw [vput, dif_neg h]
theorem put_loop (d : Nat) : ∀ (n k : Nat) (xs : List Int), n < 128 ^ (d + 1) → d < k → xs.length + d < 140737488355328 → varint_Put.l0 k (n : Int) xs = some (xs ++ ofN (vput n)) := by
  induction d with
  | zero =>
    intro n k xs hn hk hx
    obtain ⟨k, rfl⟩ : ∃ m, k = m + 1 := ⟨k - 1, by omega⟩
    rw [varint_Put.l0, if_neg (by omega), if_pos (by omega), vput_small (by omega)]
    simp [ofN]; omega
  | succ d ih =>
    intro n k xs hn hk hx
    obtain ⟨k, rfl⟩ : ∃ m, k = m + 1 := ⟨k - 1, by omega⟩
    by_cases h : n < 128
    · rw [varint_Put.l0, if_neg (by omega), if_pos (by omega), vput_small h]
      simp [ofN]; omega
    · rw [varint_Put.l0, if_pos (by omega), if_pos (by omega), vput_great h]
      rw [show (n : Int) % 256 = ((n % 256 : Nat) : Int) by omega, or128 _ (by omega), show n % 256 % 128 = n % 128 by omega, show (n : Int) / 128 = ((n / 128 : Nat) : Int) by omega]
      rw [ih (n / 128) k _ (by rw [Nat.div_lt_iff_lt_mul (by decide), ← Nat.pow_succ]; exact hn) (by omega) (by simp; omega)]
      simp [ofN]
theorem put (k n : Nat) (xs : List Int) (hn : n < 2 ^ 64) (hk : 10 ≤ k) (hx : xs.length + 9 < 140737488355328) : varint_Put.f k xs (n : Int) = some (xs ++ ofN (vput n)) := by
  unfold varint_Put.f slices_Clone_byte_byte.f
  simp only [Option.bind_some, List.length_nil, List.nil_append]
  rw [if_pos (by omega)]
  simp only [Option.bind_some]
  exact put_loop 9 n k xs (Nat.lt_of_lt_of_le hn (by decide)) (by omega) (by omega)
theorem rput_loop (d : Nat) : ∀ (n k : Nat) (xs : List Int), n < 128 ^ (d + 1) → n < 2 ^ 64 → d < k → xs.length + d < 140737488355328 → tallyroomref01_Put.l0 k (n : Int) xs = some (xs ++ ofN (vput n)) := by
  induction d with
  | zero =>
    intro n k xs hn h64 hk hx
    obtain ⟨k, rfl⟩ : ∃ m, k = m + 1 := ⟨k - 1, by omega⟩
    rw [tallyroomref01_Put.l0, if_neg (by omega), if_pos (by omega), vput_small (by omega)]
    simp [ofN]; omega
  | succ d ih =>
    intro n k xs hn h64 hk hx
    obtain ⟨k, rfl⟩ : ∃ m, k = m + 1 := ⟨k - 1, by omega⟩
    by_cases h : n < 128
    · rw [tallyroomref01_Put.l0, if_neg (by omega), if_pos (by omega), vput_small h]
      simp [ofN]; omega
    · rw [tallyroomref01_Put.l0, if_pos (by omega), if_pos (by omega), vput_great h]
      rw [IntWalk.u64_quo _ _ (by omega), Int.tmod_eq_emod_of_nonneg (by omega), IntWalk.u64_in (128 + (n : Int) % 128) (by omega), show (128 + (n : Int) % 128) % 256 = ((128 + n % 128 : Nat) : Int) by omega, show (n : Int) / 128 = ((n / 128 : Nat) : Int) by omega]
      rw [ih (n / 128) k _ (by rw [Nat.div_lt_iff_lt_mul (by decide), ← Nat.pow_succ]; exact hn) (by omega) (by omega) (by simp; omega)]
      simp [ofN]
theorem rput (k n : Nat) (hn : n < 2 ^ 64) (hk : 10 ≤ k) : tallyroomref01_Put.f k (n : Int) = some (ofN (vput n)) := by
  unfold tallyroomref01_Put.f
  simpa using rput_loop 9 n k [] (Nat.lt_of_lt_of_le hn (by decide)) hn (by omega) (by simp)

/-- How many bytes. -/
theorem vput_length (m : Nat) : ∀ n, n < 128 ^ (m + 1) → (m = 0 ∨ 128 ^ m ≤ n) → (vput n).length = m + 1 := by
  induction m with
  | zero => intro n h _; rw [vput_small (by simpa using h)]; rfl
  | succ m ih =>
    intro n h h1
    have h1 : 128 ^ (m + 1) ≤ n := by rcases h1 with h1 | h1; · omega
                                      · exact h1
    have h2 : 128 ≤ n := Nat.le_trans (by rw [Nat.pow_succ]; exact Nat.le_mul_of_pos_left _ (Nat.pow_pos (by decide))) h1
    rw [vput_great (by omega), List.length_cons, ih (n / 128) (by rw [Nat.div_lt_iff_lt_mul (by decide), ← Nat.pow_succ]; exact h) (.inr (by rw [Nat.le_div_iff_mul_le (by decide), ← Nat.pow_succ]; exact h1))]
theorem vput_pos (n : Nat) : 1 ≤ (vput n).length := by
  rw [vput]; split <;> simp
theorem vput_length_le (n : Nat) (hn : n < 2 ^ 64) : (vput n).length ≤ 10 := by
  have : ∀ m n, n < 128 ^ (m + 1) → (vput n).length ≤ m + 1 := by
    intro m
    induction m with
    | zero => intro n h; rw [vput_small (by simpa using h)]; simp
    | succ m ih =>
      intro n h
      by_cases hs : n < 128
      · rw [vput_small hs]; simp
      · rw [vput_great hs, List.length_cons]
        have := ih (n / 128) (by rw [Nat.div_lt_iff_lt_mul (by decide), ← Nat.pow_succ]; exact h)
        omega
  exact this 9 n (Nat.lt_of_lt_of_le hn (by decide))
theorem vput_byte (n : Nat) : ∀ x ∈ vput n, x ≤ 255 := by
  induction n using Nat.strongRecOn with
  | _ n ih =>
    intro x hx
    by_cases h : n < 128
    · rw [vput_small h] at hx; simp at hx; omega
    · rw [vput_great h] at hx
      rcases List.mem_cons.1 hx with rfl | hx
      · omega
      · exact ih (n / 128) (by omega) x hx

/-! ### get -/
/-- What bytes begin with, from the i-th on, behind n. -/
def vg : Nat → Nat → List Nat → Nat × Nat × Nat
  | _, _, [] => (0, 0, 10)
  | i, n, c :: l => if 10 ≤ i ∨ (i = 9 ∧ 1 < c % 128) then (0, 0, 11) else if c < 128 then (if c = 0 ∧ 0 < i then (0, 0, 11) else (n + c % 128 * 128 ^ i, i + 1, 0)) else vg (i + 1) (n + c % 128 * 128 ^ i) l
def vget (l : List Nat) : Nat × Nat × Nat := vg 0 0 l
def ofT (r : Nat × Nat × Nat) : Int × Int × Int := ((r.1 : Int), (r.2.1 : Int), (r.2.2 : Int))

theorem pow9 : ∀ i : Nat, i ≤ 9 → 128 ^ i ≤ 2 ^ 63 := fun i h => Nat.le_trans (Nat.pow_le_pow_right (by decide) h) (by decide)
theorem or_shl (n c i : Nat) (hi : i ≤ 9) (hn : n < 128 ^ i) (hc : c < 128) (h9 : i = 9 → c ≤ 1) :
    Go.bits .or .u64 (n : Int) (shl .u64 (c : Int) (wrap64 (7 * (i : Int)))) = ((n + c * 128 ^ i : Nat) : Int) ∧ n + c * 128 ^ i < 128 ^ (i + 1) ∧ n + c * 128 ^ i < 2 ^ 64 := by
  have hp : 128 ^ i = 2 ^ (7 * i) := by rw [show (128 : Nat) = 2 ^ 7 by rfl, ← Nat.pow_mul]
  have h9' := pow9 i hi
  have hb : c * 128 ^ i + 128 ^ i ≤ 2 ^ 64 := by
    by_cases h : i = 9
    · have := h9 h; subst h
      have : c = 0 ∨ c = 1 := by omega
      rcases this with rfl | rfl <;> decide
    · have h8 : 128 ^ i ≤ 2 ^ 56 := Nat.le_trans (Nat.pow_le_pow_right (by decide) (show i ≤ 8 by omega)) (by decide)
      have : c * 128 ^ i ≤ 127 * 2 ^ 56 := Nat.mul_le_mul (by omega) h8
      omega
  have hs : shl .u64 (c : Int) (wrap64 (7 * (i : Int))) = ((c * 128 ^ i : Nat) : Int) := by
    unfold shl
    rw [IntWalk.wrap64_in _ (by omega), show (7 * (i : Int)).toNat = 7 * i by omega, show min (7 * i) IntKind.u64.bits = 7 * i by simp [IntKind.bits]; omega]
    rw [IntKind.wrap_u64, hp]
    rw [hp] at hb
    have : ((c : Int) * 2 ^ (7 * i)) = ((c * 2 ^ (7 * i) : Nat) : Int) := by simp
    rw [this]
    have hpos := Nat.two_pow_pos (7 * i)
    omega
  refine ⟨?_, ?_, ?_⟩
  · rw [hs, bits_or_u64_nat _ _ (by omega) (by have := Nat.pow_pos (n := i) (show 0 < 128 by decide); omega)]
    rw [hp] at hn ⊢
    rw [Nat.or_comm, Nat.mul_comm c, ← Nat.two_pow_add_eq_or_of_lt hn c, Nat.add_comm]
  · rw [Nat.pow_succ]
    have : c * 128 ^ i ≤ 127 * 128 ^ i := Nat.mul_le_mul_right _ (by omega)
    omega
  · omega

theorem get_loop (ns : List Nat) (hw : ∀ n ∈ ns, n ≤ 255) (hl : ns.length ≤ 4611686018427387904) (d : Nat) : ∀ (i k n : Nat), i + d = ns.length → 2 * d + 1 < k → i ≤ 10 → n < 128 ^ i →
    varint_Get.l0 k (n : Int) (ofN ns) (ns.length : Int) (i : Int) = some (ofT (vg i n (ns.drop i))) := by
  induction d with
  | zero =>
    intro i k n hi hk h10 hn
    obtain ⟨k, rfl⟩ : ∃ m, k = m + 1 := ⟨k - 1, by omega⟩
    rw [varint_Get.l0, if_neg (by omega), List.drop_of_length_le (by omega)]
    rfl
  | succ d ih =>
    intro i k n hi hk h10 hn
    obtain ⟨k, rfl⟩ : ∃ m, k = m + 3 := ⟨k - 3, by omega⟩
    have hlt : i < ns.length := by omega
    have hc := getD_le hw i
    have hd : ns.drop i = ns.getD i 0 :: ns.drop (i + 1) := by
      rw [List.drop_eq_getElem_cons hlt, List.getD_eq_getElem?_getD, List.getElem?_eq_getElem hlt]; rfl
    rw [varint_Get.l0, if_pos (by omega), if_pos (by omega), if_pos (by rw [ofN_length]; omega), rd_ofN, hd]
    generalize ns.getD i 0 = c at hc ⊢
    rw [andNot128 c hc, IntWalk.u64_in ((c % 128 : Nat) : Int) (by omega)]
    by_cases h : i = 10
    · rw [IntWalk.wrap64_in (7 * (i : Int)) (by omega), if_pos (by omega), varint_Get.j1, if_pos rfl]
      rw [vg, if_pos (.inl (by omega))]; rfl
    · obtain ⟨b, hb, hlen, _⟩ := len64 (k + 1) (c % 128) (by omega)
      rw [IntWalk.wrap64_in (7 * (i : Int)) (by omega), if_neg (by omega), hb, Option.bind_some]
      have hb7 : b ≤ 7 := by
        rcases hlen with ⟨_, rfl⟩ | ⟨h1, h2, _⟩
        · omega
        · rcases Nat.lt_or_ge 7 b with h7 | h7
          · have := Nat.pow_le_pow_right (show 0 < 2 by decide) (show 7 ≤ b - 1 by omega)
            omega
          · exact h7
      rw [IntWalk.wrap64_in ((b : Int) + 7 * (i : Int)) (by omega), varint_Get.j1]
      have hbb : ((b : Int) + 7 * (i : Int) > 64) ↔ (i = 9 ∧ 1 < c % 128) := by
        constructor
        · intro h1
          have h9 : i = 9 := by omega
          refine ⟨h9, ?_⟩
          rcases hlen with ⟨_, rfl⟩ | ⟨h1', h2, _⟩
          · omega
          · have := Nat.pow_le_pow_right (show 0 < 2 by decide) (show 1 ≤ b - 1 by omega)
            omega
        · rintro ⟨rfl, h1⟩
          rcases hlen with ⟨h0, _⟩ | ⟨h1', _, h3⟩
          · omega
          · have : 1 < b := by
              rcases Nat.lt_or_ge 1 b with h | h
              · exact h
              · obtain rfl : b = 1 := by omega
                omega
            omega
      rw [vg]
      by_cases hbad : i = 9 ∧ 1 < c % 128
      · rw [if_pos (by simpa using hbb.2 hbad), if_pos (.inr hbad)]; rfl
      · rw [if_neg (by simpa using fun h1 => hbad (hbb.1 h1)), if_pos (by rw [IntWalk.wrap64_in _ (by omega)]; omega), if_neg (show ¬ (10 ≤ i ∨ i = 9 ∧ 1 < c % 128) by omega)]
        obtain ⟨e1, e2, e3⟩ := or_shl n (c % 128) i (by omega) hn (by omega) (by intro h9; omega)
        rw [e1, IntWalk.wrap64_in ((i : Int) + 1) (by omega)]
        by_cases h128 : c < 128
        · rw [if_pos (Eq.mpr (and128 c hc) h128), if_pos h128]
          by_cases h0 : c = 0
          · subst h0
            by_cases hi0 : 0 < i
            · simp [hi0, ofT]
            · simp [hi0, ofT]
          · rw [if_neg (by omega), if_neg (by omega)]
            simp [ofT]
        · rw [if_neg (fun h' => h128 (Eq.mp (and128 c hc) h')), if_neg h128, show (i : Int) + 1 = ((i + 1 : Nat) : Int) by omega]
          exact ih (i + 1) (k + 1) _ (by omega) (by omega) (by omega) e2
theorem get (ns : List Nat) (hw : ∀ n ∈ ns, n ≤ 255) (hl : ns.length ≤ 4611686018427387904) (k : Nat) (hk : 2 * ns.length + 1 < k) : varint_Get.f k (ofN ns) = some (ofT (vget ns)) := by
  unfold varint_Get.f
  rw [ofN_length]
  exact get_loop ns hw hl ns.length 0 k 0 (by omega) hk (by omega) (by simp)
theorem rget_loop (ns : List Nat) (hw : ∀ n ∈ ns, n ≤ 255) (d : Nat) : ∀ (i k n : Nat), i + d = ns.length → 2 * d + 1 < k → i ≤ 10 → n < 128 ^ i →
    tallyroomref01_Get.l0 k (ofN ns) (n : Int) (IntKind.u64.wrap ((128 ^ i : Nat) : Int)) (i : Int) = some (ofT (vg i n (ns.drop i))) := by
  induction d with
  | zero =>
    intro i k n hi hk h10 hn
    obtain ⟨k, rfl⟩ : ∃ m, k = m + 1 := ⟨k - 1, by omega⟩
    rw [tallyroomref01_Get.l0, if_neg (by rw [ofN_length]; omega), List.drop_of_length_le (by omega)]
    rfl
  | succ d ih =>
    intro i k n hi hk h10 hn
    obtain ⟨k, rfl⟩ : ∃ m, k = m + 2 := ⟨k - 2, by omega⟩
    have hlt : i < ns.length := by omega
    have hc := getD_le hw i
    have hd : ns.drop i = ns.getD i 0 :: ns.drop (i + 1) := by
      rw [List.drop_eq_getElem_cons hlt, List.getD_eq_getElem?_getD, List.getElem?_eq_getElem hlt]; rfl
    rw [tallyroomref01_Get.l0, if_pos (by rw [ofN_length]; omega), if_pos (by omega), rd_ofN, hd]
    generalize hcc : ns.getD i 0 = c at hc ⊢
    have ec : IntKind.u64.wrap (Int.tmod (c : Int) 128) = ((c % 128 : Nat) : Int) := by
      rw [Int.tmod_eq_emod_of_nonneg (by omega), IntWalk.u64_in _ (by omega)]; omega
    rw [ec, vg]
    by_cases h : i = 10
    · rw [if_pos (by omega), tallyroomref01_Get.j1, if_pos rfl, if_pos (.inl (by omega))]; rfl
    · rw [if_neg (by omega)]
      have hp := pow9 i (by omega)
      have ep : IntKind.u64.wrap ((128 ^ i : Nat) : Int) = ((128 ^ i : Nat) : Int) := IntWalk.u64_in _ (by omega)
      by_cases hbad : i = 9 ∧ 1 < c % 128
      · rw [if_pos (by omega), if_pos (.inr hbad), tallyroomref01_Get.j1, if_pos (by simp; omega)]; rfl
      · obtain ⟨_, e2, e3⟩ := or_shl n (c % 128) i (by omega) hn (by omega) (by intro h9; omega)
        have em : IntKind.u64.wrap ((n : Int) + IntKind.u64.wrap (((c % 128 : Nat) : Int) * IntKind.u64.wrap ((128 ^ i : Nat) : Int))) = ((n + c % 128 * 128 ^ i : Nat) : Int) := by
          rw [ep, show ((c % 128 : Nat) : Int) * ((128 ^ i : Nat) : Int) = ((c % 128 * 128 ^ i : Nat) : Int) by simp, IntWalk.u64_in ((c % 128 * 128 ^ i : Nat) : Int) (by omega), IntWalk.u64_in _ (by omega)]
          omega
        have body : ∀ b, b = false → tallyroomref01_Get.j1 (k + 1) (ofN ns) (n : Int) (IntKind.u64.wrap ((128 ^ i : Nat) : Int)) (i : Int) ((c % 128 : Nat) : Int) b = some (ofT (if c < 128 then (if c = 0 ∧ 0 < i then (0, 0, 11) else (n + c % 128 * 128 ^ i, i + 1, 0)) else vg (i + 1) (n + c % 128 * 128 ^ i) (ns.drop (i + 1)))) := by
          rintro b rfl
          rw [tallyroomref01_Get.j1, if_neg (by simp), if_pos (by omega), if_pos (by rw [ofN_length]; omega), rd_ofN, hcc, em, IntWalk.wrap64_in ((i : Int) + 1) (by omega)]
          by_cases h128 : c < 128
          · rw [if_pos (by omega), if_pos h128]
            by_cases hi0 : 0 < i
            · rw [if_pos (by omega)]
              by_cases h0 : c = 0
              · subst h0; simp [hi0, ofT]
              · rw [if_neg (by omega), if_neg (by omega)]; simp [ofT]
            · rw [if_neg (by omega), if_neg (by omega)]; simp [ofT]
          · rw [if_neg (by omega), if_neg h128]
            have e4 : IntKind.u64.wrap (IntKind.u64.wrap ((128 ^ i : Nat) : Int) * 128) = IntKind.u64.wrap ((128 ^ (i + 1) : Nat) : Int) := by
              rw [ep, Nat.pow_succ]; simp
            rw [e4, show (i : Int) + 1 = ((i + 1 : Nat) : Int) by omega]
            exact ih (i + 1) k _ (by omega) (by omega) (by omega) e2
        rw [if_neg (show ¬ (10 ≤ i ∨ i = 9 ∧ 1 < c % 128) by omega)]
        by_cases h9 : i = 9
        · rw [if_pos (by omega)]; exact body _ (by simp; omega)
        · rw [if_neg (by omega)]; exact body _ rfl
theorem rget (ns : List Nat) (hw : ∀ n ∈ ns, n ≤ 255) (k : Nat) (hk : 2 * ns.length + 1 < k) : tallyroomref01_Get.f k (ofN ns) = some (ofT (vget ns)) := by
  unfold tallyroomref01_Get.f
  have := rget_loop ns hw ns.length 0 k 0 (by omega) hk (by omega) (by simp)
  rwa [show IntKind.u64.wrap ((128 ^ 0 : Nat) : Int) = 1 by decide] at this

end Go.Proofs.Ytfgpcoocbblkiaa.Var
