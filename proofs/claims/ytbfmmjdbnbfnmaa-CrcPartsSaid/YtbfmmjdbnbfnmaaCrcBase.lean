/- Plain facts on the sum by which spoilt bytes are told. -/
import Derived.Test.YtbfmmjdbnbfnmaaXDx0
import Derived.Test.YtbfmmjdbnbfnmaaXDx17
import Derived.Test.YtbfmmjdbnbfnmaaXDx18
import Derived.Test.YtbfmmjdbnbfnmaaXDx19
import Derived.Test.YtbfmmjdbnbfnmaaXDx20
import Derived.Test.YtbfmmjdbnbfnmaaXDx21
import Derived.Test.YtbfmmjdbnbfnmaaXDx22
import Derived.Test.YtbfmmjdbnbfnmaaXDx24
import Derived.Test.YtbfmmjdbnbfnmaaXDx26
import Derived.Test.YtbfmmjdbnbfnmaaXDx27
import Derived.Test.YtbfmmjdbnbfnmaaXDx3
import Derived.Test.YtbfmmjdbnbfnmaaVarLaws
namespace Go.Proofs.Ytbfmmjdbnbfnmaa.Crc
open Go.RowKit Go.Proofs.Ytbfmmjdbnbfnmaa.XD Go.Proofs.YtbfmmjdbnbfnmaaW.PrintWords Go.Proofs.YtbfmmjdbnbfnmaaW.PrintLast Go.Proofs.YtbfmmjdbnbfnmaaW.PrintMore
open Go.Proofs.Ytbfmmjdbnbfnmaa.Var

theorem xor_u32 (a b : Nat) (ha : a < 4294967296) (hb : b < 4294967296) : Go.bits .xor .u32 (a : Int) (b : Int) = ((a ^^^ b : Nat) : Int) := by
  have hx : a ^^^ b < 2 ^ 32 := Nat.xor_lt_two_pow (by omega) (by omega)
  have h1 : (BitVec.ofInt 32 (a : Int)).toNat = a := by
    rw [BitVec.ofInt_natCast, BitVec.toNat_ofNat]; exact Nat.mod_eq_of_lt (by omega)
  have h2 : (BitVec.ofInt 32 (b : Int)).toNat = b := by
    rw [BitVec.ofInt_natCast, BitVec.toNat_ofNat]; exact Nat.mod_eq_of_lt (by omega)
  show IntKind.u32.wrap ((BitVec.ofInt 32 (a : Int) ^^^ BitVec.ofInt 32 (b : Int)).toNat : Int) = _
  rw [BitVec.toNat_xor, h1, h2, IntKind.wrap_u32]
  omega
theorem xor_lt {a b : Nat} (ha : a < 4294967296) (hb : b < 4294967296) : a ^^^ b < 4294967296 := Nat.xor_lt_two_pow (n := 32) (by omega) (by omega)
def Pol : Nat := 3988292384
/-- One bit. -/
def step (n : Nat) : Nat := if n % 2 = 1 then (n / 2) ^^^ Pol else n / 2
theorem step_lt {n : Nat} (h : n < 4294967296) : step n < 4294967296 := by
  unfold step
  split
  · exact xor_lt (by omega) (by decide)
  · omega
theorem step_xor (a b : Nat) : step (a ^^^ b) = step a ^^^ step b := by
  unfold step
  rw [Nat.xor_div_two]
  have hm : (a ^^^ b) % 2 = (a % 2 + b % 2) % 2 := by
    have h := Nat.xor_mod_two_pow (a := a) (b := b) (n := 1)
    simp only [Nat.pow_one] at h
    rw [h]
    have ha : a % 2 = 0 ∨ a % 2 = 1 := by omega
    have hb : b % 2 = 0 ∨ b % 2 = 1 := by omega
    rcases ha with ha | ha <;> rcases hb with hb | hb <;> rw [ha, hb] <;> rfl
  rw [hm]
  by_cases h1 : a % 2 = 1 <;> by_cases h2 : b % 2 = 1
  · rw [if_neg (by omega), if_pos h1, if_pos h2]
    rw [Nat.xor_assoc, Nat.xor_comm (b / 2), ← Nat.xor_assoc Pol, Nat.xor_self, Nat.zero_xor]
  · rw [if_pos (by omega), if_pos h1, if_neg h2, Nat.xor_assoc, Nat.xor_comm (b / 2), ← Nat.xor_assoc]
  · rw [if_pos (by omega), if_neg h1, if_pos h2, Nat.xor_assoc]
  · rw [if_neg (by omega), if_neg h1, if_neg h2]
/-- Several bits. -/
def steps : Nat → Nat → Nat
  | 0, n => n
  | k + 1, n => steps k (step n)
theorem steps_lt (k : Nat) : ∀ {n : Nat}, n < 4294967296 → steps k n < 4294967296 := by
  induction k with
  | zero => exact fun h => h
  | succ k ih => exact fun h => ih (step_lt h)
theorem steps_xor (k : Nat) : ∀ (a b : Nat), steps k (a ^^^ b) = steps k a ^^^ steps k b := by
  induction k with
  | zero => intro a b; rfl
  | succ k ih => intro a b; rw [steps, steps, steps, step_xor, ih]
theorem steps_add (j k n : Nat) : steps (j + k) n = steps k (steps j n) := by
  induction j generalizing n with
  | zero => rw [Nat.zero_add]; rfl
  | succ j ih => rw [Nat.succ_add, steps, steps, ih]
theorem step_double (m : Nat) : step (2 * m) = m := by unfold step; rw [if_neg (by omega)]; omega
theorem steps_shift (k m : Nat) : steps k (2 ^ k * m) = m := by
  induction k generalizing m with
  | zero => simp [steps]
  | succ k ih => rw [steps, Nat.pow_succ, Nat.mul_comm (2 ^ k) 2, Nat.mul_assoc, step_double, ih]
theorem split_low (n k : Nat) : (2 ^ k * (n / 2 ^ k)) ^^^ (n % 2 ^ k) = n := by
  apply Nat.eq_of_testBit_eq
  intro i
  rw [Nat.testBit_xor, Nat.testBit_two_pow_mul, Nat.testBit_mod_two_pow, Nat.testBit_div_two_pow]
  by_cases h : k ≤ i
  · rw [show i - k + k = i by omega]
    simp [h, show ¬ i < k by omega]
  · simp [h, show i < k by omega]
/-- Four bits, by the table. -/
theorem half_eq (n : Nat) (h : n < 4294967296) : crc_half.f (n : Int) = some ((steps 4 n : Nat) : Int) := by
  unfold crc_half.f
  rw [if_pos (by omega), if_pos (by omega), show (n : Int) % 16 = ((n % 16 : Nat) : Int) by omega, show (n : Int) / 16 = ((n / 16 : Nat) : Int) by omega]
  have ht : ∀ i : Fin 16, rd halfT ((i.val : Nat) : Int) = ((steps 4 i.val : Nat) : Int) ∧ steps 4 i.val < 4294967296 := by decide +kernel
  obtain ⟨h1, h2⟩ := ht ⟨n % 16, by omega⟩
  simp only at h1 h2
  rw [h1, xor_u32 _ _ h2 (by omega)]
  congr 2
  conv => rhs; rw [← split_low n 4, steps_xor, steps_shift]
  exact Nat.xor_comm _ _

/-- The register behind bytes. -/
def feed (n : Nat) : List Nat → Nat
  | [] => n
  | c :: l => feed (steps 8 (n ^^^ c)) l
theorem feed_lt (l : List Nat) : ∀ n, n < 4294967296 → (∀ c ∈ l, c ≤ 255) → feed n l < 4294967296 := by
  induction l with
  | nil => exact fun n h _ => h
  | cons c l ih => exact fun n h hl => ih _ (steps_lt 8 (xor_lt h (by have := hl c (List.mem_cons_self ..); omega))) fun x hx => hl x (List.mem_cons_of_mem _ hx)
theorem feed_append (a b : List Nat) (n : Nat) : feed n (a ++ b) = feed (feed n a) b := by
  induction a generalizing n with
  | nil => rfl
  | cons c a ih => exact ih _
/-- ^n of 32 bits. -/
def inv (n : Nat) : Nat := 4294967295 - n
theorem xor_inv (n : Nat) (h : n < 4294967296) : (4294967295 ^^^ n) = inv n := by
  have hb : (BitVec.ofNat 32 n ^^^ BitVec.allOnes 32).toNat = 4294967295 - n := by
    rw [BitVec.xor_allOnes, BitVec.toNat_not, BitVec.toNat_ofNat, Nat.mod_eq_of_lt (by omega)]
  rw [BitVec.toNat_xor, BitVec.toNat_ofNat, BitVec.toNat_allOnes, Nat.mod_eq_of_lt (by omega)] at hb
  rw [Nat.xor_comm]
  exact hb
theorem inv_inv {n : Nat} (h : n < 4294967296) : inv (inv n) = n := by unfold inv; omega
theorem inv_lt (n : Nat) : inv n < 4294967296 := by unfold inv; omega
/-- The sum of more bytes. -/
def more (s : Nat) (l : List Nat) : Nat := inv (feed (inv s) l)
def sum (l : List Nat) : Nat := more 0 l
theorem more_lt (s : Nat) (l : List Nat) : more s l < 4294967296 := inv_lt _
theorem sum_lt (l : List Nat) : sum l < 4294967296 := more_lt 0 l
theorem more_append (s : Nat) (a b : List Nat) (ha : ∀ c ∈ a, c ≤ 255) : more s (a ++ b) = more (more s a) b := by
  unfold more
  rw [feed_append, inv_inv (feed_lt a _ (inv_lt s) ha)]
theorem more_loop (ns : List Nat) (hw : ∀ n ∈ ns, n ≤ 255) (hl : ns.length ≤ 4611686018427387904) (d : Nat) : ∀ (i k n : Nat), i + d = ns.length → d < k → n < 4294967296 →
    crc_More.l0 k (n : Int) (ofN ns) (ns.length : Int) (i : Int) = some ((inv (feed n (ns.drop i)) : Nat) : Int) := by
  induction d with
  | zero =>
    intro i k n hi hk hn
    obtain ⟨k, rfl⟩ : ∃ m, k = m + 1 := ⟨k - 1, by omega⟩
    rw [crc_More.l0, if_neg (by omega), List.drop_of_length_le (by omega)]
    have := xor_u32 4294967295 n (by omega) hn
    rw [xor_inv n hn] at this
    exact congrArg some this
  | succ d ih =>
    intro i k n hi hk hn
    obtain ⟨k, rfl⟩ : ∃ m, k = m + 1 := ⟨k - 1, by omega⟩
    have hlt : i < ns.length := by omega
    have hc := getD_le hw i
    have hd : ns.drop i = ns.getD i 0 :: ns.drop (i + 1) := by
      rw [List.drop_eq_getElem_cons hlt, List.getD_eq_getElem?_getD, List.getElem?_eq_getElem hlt]; rfl
    rw [crc_More.l0, if_pos (by omega), if_pos (by omega), if_pos (by rw [ofN_length]; omega), rd_ofN, hd]
    generalize ns.getD i 0 = c at hc ⊢
    have hx := xor_lt hn (show c < 4294967296 by omega)
    rw [show ((c : Nat) : Int) % 4294967296 = ((c : Nat) : Int) by omega, xor_u32 n c hn (by omega), half_eq _ hx, Option.bind_some, half_eq _ (steps_lt 4 hx), Option.bind_some, ← steps_add, IntWalk.wrap64_in _ (by omega), show (i : Int) + 1 = ((i + 1 : Nat) : Int) by omega]
    exact ih (i + 1) k _ (by omega) (by omega) (steps_lt 8 hx)
theorem more_eq (ns : List Nat) (hw : ∀ n ∈ ns, n ≤ 255) (hl : ns.length ≤ 4611686018427387904) (k s : Nat) (hk : ns.length < k) (hs : s < 4294967296) : crc_More.f k (s : Int) (ofN ns) = some ((more s ns : Nat) : Int) := by
  unfold crc_More.f
  have hx := xor_u32 4294967295 s (by omega) hs
  rw [xor_inv s hs] at hx
  rw [show (4294967295 : Int) = ((4294967295 : Nat) : Int) by rfl, hx, ofN_length]
  exact more_loop ns hw hl ns.length 0 k _ (by omega) hk (inv_lt s)
theorem sum_eq (ns : List Nat) (hw : ∀ n ∈ ns, n ≤ 255) (hl : ns.length ≤ 4611686018427387904) (k : Nat) (hk : ns.length < k) : crc_Sum.f k (ofN ns) = some ((sum ns : Nat) : Int) := by
  unfold crc_Sum.f
  have := more_eq ns hw hl k 0 hk (by omega)
  rw [show ((0 : Nat) : Int) = 0 by rfl] at this
  rw [this, Option.bind_some]
  rfl
/-! ### the reference's -/
theorem rbits (ns : List Nat) (j : Nat) : ∀ (i k n : Nat) (r : Option Int), j ≤ 8 → n < 4294967296 → j < k →
    (∀ k', k' + j + 1 = k → tallyroomref02_Sum.l0 k' (ofN ns) ((steps j n : Nat) : Int) (wrap64 ((i : Int) + 1)) = r) →
    tallyroomref02_Sum.l1 k (ofN ns) (n : Int) (i : Int) ((8 - j : Nat) : Int) = r := by
  induction j with
  | zero =>
    intro i k n r _ hn hk h
    obtain ⟨k, rfl⟩ : ∃ m, k = m + 1 := ⟨k - 1, by omega⟩
    rw [tallyroomref02_Sum.l1, if_neg (by omega)]
    exact h k rfl
  | succ j ih =>
    intro i k n r hj hn hk h
    obtain ⟨k, rfl⟩ : ∃ m, k = m + 1 := ⟨k - 1, by omega⟩
    rw [tallyroomref02_Sum.l1, if_pos (by omega), Int.tmod_eq_emod_of_nonneg (by omega), Int.tdiv_eq_ediv_of_nonneg (by omega), show (n : Int) / 2 % 4294967296 = ((n / 2 : Nat) : Int) by omega, IntWalk.wrap64_in _ (by omega), show ((8 - (j + 1) : Nat) : Int) + 1 = ((8 - j : Nat) : Int) by omega]
    have hs : steps (j + 1) n = steps j (step n) := rfl
    by_cases h1 : n % 2 = 1
    · have e : step n = (n / 2) ^^^ 3988292384 := by unfold step; rw [if_pos h1]; rfl
      rw [if_pos (by omega), show (3988292384 : Int) = ((3988292384 : Nat) : Int) by rfl, xor_u32 _ _ (by omega) (by omega), ← e]
      exact ih i k (step n) r (by omega) (step_lt hn) (by omega) fun k' hk' => by rw [← hs]; exact h k' (by omega)
    · have e : step n = n / 2 := by unfold step; rw [if_neg h1]
      rw [if_neg (by omega), ← e]
      exact ih i k (step n) r (by omega) (step_lt hn) (by omega) fun k' hk' => by rw [← hs]; exact h k' (by omega)
theorem rsum_loop (ns : List Nat) (hw : ∀ n ∈ ns, n ≤ 255) (hl : ns.length ≤ 4611686018427387904) (d : Nat) : ∀ (i k n : Nat), i + d = ns.length → 10 * d < k → n < 4294967296 →
    tallyroomref02_Sum.l0 k (ofN ns) (n : Int) (i : Int) = some ((inv (feed n (ns.drop i)) : Nat) : Int) := by
  induction d with
  | zero =>
    intro i k n hi hk hn
    obtain ⟨k, rfl⟩ : ∃ m, k = m + 1 := ⟨k - 1, by omega⟩
    rw [tallyroomref02_Sum.l0, if_neg (by rw [ofN_length]; omega), List.drop_of_length_le (by omega)]
    congr 1
    unfold feed inv
    omega
  | succ d ih =>
    intro i k n hi hk hn
    obtain ⟨k, rfl⟩ : ∃ m, k = m + 1 := ⟨k - 1, by omega⟩
    have hlt : i < ns.length := by omega
    have hc := getD_le hw i
    have hd : ns.drop i = ns.getD i 0 :: ns.drop (i + 1) := by
      rw [List.drop_eq_getElem_cons hlt, List.getD_eq_getElem?_getD, List.getElem?_eq_getElem hlt]; rfl
    rw [tallyroomref02_Sum.l0, if_pos (by rw [ofN_length]; omega), if_pos (by omega), rd_ofN, hd]
    generalize ns.getD i 0 = c at hc ⊢
    rw [show ((c : Nat) : Int) % 4294967296 = ((c : Nat) : Int) by omega, xor_u32 n c hn (by omega)]
    refine rbits ns 8 i k _ _ (by omega) (xor_lt hn (by omega)) (by omega) fun k' hk' => ?_
    rw [IntWalk.wrap64_in _ (by omega), show (i : Int) + 1 = ((i + 1 : Nat) : Int) by omega]
    exact ih (i + 1) k' _ (by omega) (by omega) (steps_lt 8 (xor_lt hn (by omega)))
theorem rsum_eq (ns : List Nat) (hw : ∀ n ∈ ns, n ≤ 255) (hl : ns.length ≤ 4611686018427387904) (k : Nat) (hk : 10 * ns.length < k) : tallyroomref02_Sum.f k (ofN ns) = some ((sum ns : Nat) : Int) :=
  rsum_loop ns hw hl ns.length 0 k 4294967295 (by omega) hk (by omega)

/-! ### sealed and opened -/
/-- A sum's four bytes. -/
def le4 (s : Nat) : List Nat := [s % 256, s / 256 % 256, s / 65536 % 256, s / 16777216 % 256]
theorem le4_wf (s : Nat) : ∀ x ∈ le4 s, x ≤ 255 := by
  intro x hx
  simp only [le4, List.mem_cons, List.mem_nil_iff, or_false] at hx
  rcases hx with rfl | rfl | rfl | rfl <;> omega
theorem tail_eq (s k : Nat) (hk : 5 ≤ k) : crc_tail.f k (s : Int) = some (ofN (le4 s)) := by
  obtain ⟨k, rfl⟩ : ∃ m, k = m + 5 := ⟨k - 5, by omega⟩
  unfold crc_tail.f
  rw [crc_tail.l0, if_pos (by omega), if_pos (by simp), IntWalk.wrap64_in _ (by omega)]
  rw [crc_tail.l0, if_pos (by omega), if_pos (by simp), IntWalk.wrap64_in _ (by omega)]
  rw [crc_tail.l0, if_pos (by omega), if_pos (by simp), IntWalk.wrap64_in _ (by omega)]
  rw [crc_tail.l0, if_pos (by omega), if_pos (by simp), IntWalk.wrap64_in _ (by omega)]
  rw [crc_tail.l0, if_neg (by omega)]
  congr 1
  simp only [le4, ofN, List.map_cons, List.map_nil, List.nil_append, List.cons_append, List.cons.injEq, and_true]
  omega
theorem rtail_eq (s : Nat) (hs : s < 4294967296) : tallyroomref02_Tail.f (s : Int) = some (ofN (le4 s)) := by
  unfold tallyroomref02_Tail.f
  congr 1
  simp only [le4, ofN, List.map_cons, List.map_nil, List.cons.injEq, and_true]
  rw [Int.tmod_eq_emod_of_nonneg (by omega), Int.tdiv_eq_ediv_of_nonneg (by omega), Int.tdiv_eq_ediv_of_nonneg (by omega), Int.tdiv_eq_ediv_of_nonneg (by omega)]
  omega
theorem equal_loop (a b : List Nat) (h : a.length = b.length) (hl : a.length ≤ 4611686018427387904) (d : Nat) : ∀ (i k : Nat), i + d = a.length → d < k →
    slices_Equal_byte_byte.l0 k (ofN a) (ofN b) (a.length : Int) (i : Int) = some (decide (a.drop i = b.drop i)) := by
  induction d with
  | zero =>
    intro i k hi hk
    obtain ⟨k, rfl⟩ : ∃ m, k = m + 1 := ⟨k - 1, by omega⟩
    rw [slices_Equal_byte_byte.l0, if_neg (by omega), List.drop_of_length_le (by omega), List.drop_of_length_le (by omega)]
    simp
  | succ d ih =>
    intro i k hi hk
    obtain ⟨k, rfl⟩ : ∃ m, k = m + 1 := ⟨k - 1, by omega⟩
    have hlt : i < a.length := by omega
    have hlt2 : i < b.length := by omega
    have hda : a.drop i = a.getD i 0 :: a.drop (i + 1) := by
      rw [List.drop_eq_getElem_cons hlt, List.getD_eq_getElem?_getD, List.getElem?_eq_getElem hlt]; rfl
    have hdb : b.drop i = b.getD i 0 :: b.drop (i + 1) := by
      rw [List.drop_eq_getElem_cons hlt2, List.getD_eq_getElem?_getD, List.getElem?_eq_getElem hlt2]; rfl
    rw [slices_Equal_byte_byte.l0, if_pos (by omega), if_pos (by omega), if_pos (by rw [ofN_length]; omega), if_pos (by rw [ofN_length]; omega), rd_ofN, rd_ofN, hda, hdb]
    by_cases e : a.getD i 0 = b.getD i 0
    · rw [if_pos (by omega), IntWalk.wrap64_in _ (by omega), show (i : Int) + 1 = ((i + 1 : Nat) : Int) by omega, ih (i + 1) k (by omega) (by omega), e]
      simp only [List.cons.injEq, true_and]
    · rw [if_neg (by omega), decide_eq_false fun h' => e (List.cons.inj h').1]
theorem equal_eq (a b : List Nat) (hl : a.length ≤ 4611686018427387904) (k : Nat) (hk : a.length < k) : slices_Equal_byte_byte.f k (ofN a) (ofN b) = some (decide (a = b)) := by
  unfold slices_Equal_byte_byte.f
  by_cases h : a.length = b.length
  · rw [if_pos (by rw [ofN_length, ofN_length]; omega), ofN_length]
    have := equal_loop a b h hl a.length 0 k (by omega) hk
    simpa using this
  · rw [if_neg (by rw [ofN_length, ofN_length]; omega), decide_eq_false (fun e => h (by rw [e]))]
theorem clone_eq (a : List Nat) (h : a.length < 140737488355328) : slices_Clone_byte_byte.f (ofN a) = some (ofN a) := by
  unfold slices_Clone_byte_byte.f
  rw [Option.bind_some, List.length_nil, List.nil_append, if_pos (by rw [ofN_length]; omega)]
/-- Sealed. -/
def sealed (l : List Nat) : List Nat := l ++ le4 (sum l)
theorem sealed_wf {l : List Nat} (h : ∀ x ∈ l, x ≤ 255) : ∀ x ∈ sealed l, x ≤ 255 := mem_app h (le4_wf _)
theorem sealed_length (l : List Nat) : (sealed l).length = l.length + 4 := by simp [sealed, le4]
theorem sealed_eq (ns : List Nat) (hw : ∀ n ∈ ns, n ≤ 255) (hl : ns.length ≤ 140737488351232) (k : Nat) (hk : ns.length + 5 < k) : crc_Seal.f k (ofN ns) = some (ofN (sealed ns)) := by
  unfold crc_Seal.f
  rw [clone_eq ns (by omega), Option.bind_some, sum_eq ns hw (by omega) k (by omega), Option.bind_some, tail_eq _ k (by omega), Option.bind_some, if_pos (by rw [ofN_length, ofN_length]; simp [le4]; omega), ← ofN_append]
  rfl
/-- Opened: the body; the error. -/
def opened (l : List Nat) : List Nat × Nat :=
  if l.length < 4 then ([], 10) else if l.drop (l.length - 4) = le4 (sum (l.take (l.length - 4))) then (l.take (l.length - 4), 0) else ([], 12)
theorem open_eq (ns : List Nat) (hw : ∀ n ∈ ns, n ≤ 255) (hl : ns.length ≤ 140737488351232) (k : Nat) (hk : ns.length + 5 < k) : crc_Open.f k (ofN ns) = some (ofN (opened ns).1, ((opened ns).2 : Int)) := by
  unfold crc_Open.f opened
  by_cases h : ns.length < 4
  · rw [if_pos (by rw [ofN_length]; omega), if_pos h]; rfl
  · have e : wrap64 (((ofN ns).length : Int) - 4) = ((ns.length - 4 : Nat) : Int) := by rw [ofN_length, IntWalk.wrap64_in _ (by omega)]; omega
    rw [if_neg (by rw [ofN_length]; omega), if_neg h, e, if_pos (by omega), if_pos (by rw [ofN_length]; omega), Int.toNat_natCast, ofN_take, ofN_drop]
    have ht : ∀ x ∈ ns.take (ns.length - 4), x ≤ 255 := fun x hx => hw x (List.mem_of_mem_take hx)
    have hd : ∀ x ∈ ns.drop (ns.length - 4), x ≤ 255 := fun x hx => hw x (List.mem_of_mem_drop hx)
    rw [sum_eq _ ht (by rw [List.length_take]; omega) k (by rw [List.length_take]; omega), Option.bind_some, tail_eq _ k (by omega), Option.bind_some, equal_eq _ _ (by rw [List.length_drop]; omega) k (by rw [List.length_drop]; omega), Option.bind_some]
    by_cases he : ns.drop (ns.length - 4) = le4 (sum (ns.take (ns.length - 4)))
    · rw [if_pos (by simpa using he), if_pos he, clone_eq _ (by rw [List.length_take]; omega)]; rfl
    · rw [if_neg (by simpa using he), if_neg he]; rfl
theorem opened_sealed (l : List Nat) : opened (sealed l) = (l, 0) := by
  unfold opened
  rw [sealed_length, if_neg (by omega), show l.length + 4 - 4 = l.length by omega]
  unfold sealed
  rw [List.drop_left, List.take_left, if_pos rfl]
end Go.Proofs.Ytbfmmjdbnbfnmaa.Crc
