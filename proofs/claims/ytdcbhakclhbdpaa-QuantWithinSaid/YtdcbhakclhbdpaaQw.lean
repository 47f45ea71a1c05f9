/- quant.Of, walked; quant.Bucket in plain words. No conditions but bounds. -/
import Derived.Test.YtdcbhakclhbdpaaHistKit
import Derived.Test.YtdcbhakclhbdpaaXHx32
import Derived.Test.YtdcbhakclhbdpaaXHx35
import Derived.IntWalk
namespace Go.Proofs.Ytdcbhakclhbdpaa.Qw
open Go.RowKit Go.Proofs.YtdcbhakclhbdpaaW.PrintWords Go.Proofs.YtdcbhakclhbdpaaW.PrintLast Go.Proofs.YtdcbhakclhbdpaaW.PrintMore
open Go.Proofs.Ytdcbhakclhbdpaa.Ob Go.Proofs.Ytdcbhakclhbdpaa.XH
open Go.Proofs.Ytdcbhakclhbdpaa.Hi (ofN ofN_length rd_ofN okB bnds getD_at below_of toS bounds_walk R_sl bucks bucks_length cnts cnts_length)
set_option linter.unusedSimpArgs false
set_option linter.unusedVariables false

/-- Where the count r falls. -/
def fdN : Nat → Nat → List Nat → Nat × Nat
  | _, _, [] => (0, 30)
  | r, i, c :: l => if r ≤ c then (i, 0) else fdN (r - c) (i + 1) l
def rank (n p : Nat) : Nat := max ((n * p + 999) / 1000) 1
/-- The bucket of the p-th of 1000, and the error. -/
def bkt (l : List Nat) (p : Int) : Nat × Nat :=
  if p < 0 ∨ 1000 < p ∨ 33 < l.length then (0, 1) else if l.any (fun x => decide (1099511627776 < x)) then (0, 1) else if l.sum = 0 then (0, 30) else fdN (rank l.sum p.toNat) 0 l
def cast2 (x : Nat × Nat) : Int × Int := ((x.1 : Int), (x.2 : Int))
theorem take_one (l : List Nat) {i : Nat} (h : i < l.length) : l.take (i + 1) = l.take i ++ [l.getD i 0] := by
  rw [List.take_succ_eq_append_getElem h, List.getD_eq_getElem?_getD, List.getElem?_eq_getElem h]; rfl
theorem drop_one (l : List Nat) {i : Nat} (h : i < l.length) : l.drop i = l.getD i 0 :: l.drop (i + 1) := by
  rw [List.drop_eq_getElem_cons h, List.getD_eq_getElem?_getD, List.getElem?_eq_getElem h]; rfl
def rows (l : List Nat) : List S26 := l.map fun n : Nat => (⟨(n : Int), false⟩ : S26)
theorem rows_length (l : List Nat) : (rows l).length = l.length := by simp [rows]
theorem rd_rows (l : List Nat) (i : Nat) : (rd_T26 (rows l) (i : Int)).f0 = ((l.getD i 0 : Nat) : Int) := by
  unfold rd_T26 rows
  simp only [Int.toNat_natCast, List.getD_eq_getElem?_getD, List.getElem?_map]
  cases l[i]? <;> simp [z26]
theorem l1_eq (l : List Nat) (hl : l.length ≤ 33) (d : Nat) : ∀ (i k r : Nat), i + d = l.length → d < k → r ≤ 1000000000000000000 → quant_Bucket.l1 k (r : Int) (rows l) (l.length : Int) (i : Int) = some (cast2 (fdN r i (l.drop i))) := by
  induction d with
  | zero =>
    intro i k r hi hk hr
    obtain ⟨k, rfl⟩ : ∃ m, k = m + 1 := ⟨k - 1, by omega⟩
    rw [quant_Bucket.l1, if_neg (by omega), List.drop_of_length_le (by omega), fdN]; rfl
  | succ d ih =>
    intro i k r hi hk hr
    obtain ⟨k, rfl⟩ : ∃ m, k = m + 1 := ⟨k - 1, by omega⟩
    rw [quant_Bucket.l1, if_pos (by omega), if_pos (by omega), if_pos (by rw [rows_length]; omega), rd_rows, drop_one l (by omega), fdN]
    generalize l.getD i 0 = c
    by_cases h : r ≤ c
    · rw [if_pos (by omega), if_pos h]; rfl
    · rw [if_neg (by omega), if_neg h, IntWalk.u64_in _ (by omega), IntWalk.wrap64_in _ (by omega), show (r : Int) - (c : Int) = ((r - c : Nat) : Int) by omega, show (i : Int) + 1 = ((i + 1 : Nat) : Int) by omega]
      exact ih (i + 1) k (r - c) (by omega) (by omega) (by omega)
theorem np_le (n p : Nat) (hn : n ≤ 36283883716608) (hp : p ≤ 1000) : n * p ≤ 36283883716608000 := Nat.le_trans (Nat.mul_le_mul hn hp) (by omega)
theorem rank_eq (n p : Nat) (hn : n ≤ 36283883716608) (hp : p ≤ 1000) : mx (IntKind.u64.wrap (Int.tdiv (IntKind.u64.wrap ((IntKind.u64.wrap ((IntKind.u64.wrap ((n : Int) * (IntKind.u64.wrap (p : Int)))) + 1000)) - 1)) 1000)) 1 = ((rank n p : Nat) : Int) := by
  have h := np_le n p hn hp
  unfold rank
  rw [IntWalk.u64_in (p : Int) (by omega), ← Int.natCast_mul]
  generalize n * p = q at h ⊢
  rw [IntWalk.u64_in (q : Int) (by omega), IntWalk.u64_in ((q : Int) + 1000) (by omega), IntWalk.u64_in ((q : Int) + 1000 - 1) (by omega), Int.tdiv_eq_ediv_of_nonneg (by omega), IntWalk.u64_in _ (by omega)]
  unfold mx
  split <;> omega
theorem l0_eq (l : List Nat) (hl : l.length ≤ 33) (p : Nat) (hp : p ≤ 1000) (d : Nat) : ∀ (i k : Nat), i + d = l.length → d + 40 < k → (l.take i).sum ≤ 1099511627776 * i → quant_Bucket.l0 k (rows l) (p : Int) (((l.take i).sum : Nat) : Int) (rows l) (l.length : Int) (i : Int) = some (cast2 (if (l.drop i).any (fun x => decide (1099511627776 < x)) then (0, 1) else if l.sum = 0 then (0, 30) else fdN (rank l.sum p) 0 l)) := by
  induction d with
  | zero =>
    intro i k hi hk hs
    obtain ⟨k, rfl⟩ : ∃ m, k = m + 1 := ⟨k - 1, by omega⟩
    rw [List.take_of_length_le (by omega)] at hs ⊢
    rw [quant_Bucket.l0, if_neg (by omega), List.drop_of_length_le (by omega)]
    simp only [List.any_nil, Bool.false_eq_true, if_false]
    by_cases h : l.sum = 0
    · rw [if_pos (by omega), if_pos h]; rfl
    · have hr : rank l.sum p ≤ 1000000000000000000 := by
        unfold rank
        have h := np_le l.sum p (by omega) hp
        omega
      rw [if_neg (by omega), if_neg h, rank_eq _ _ (by omega) hp, rows_length]
      exact l1_eq l hl l.length 0 k _ (by omega) (by omega) hr
  | succ d ih =>
    intro i k hi hk hs
    obtain ⟨k, rfl⟩ : ∃ m, k = m + 1 := ⟨k - 1, by omega⟩
    have e : (l.take (i + 1)).sum = (l.take i).sum + l.getD i 0 := by
      rw [take_one l (by omega)]; simp
    have hrec := fun h => ih (i + 1) k (by omega) (by omega) h
    rw [e] at hrec
    rw [quant_Bucket.l0, if_pos (by omega), if_pos (by omega), if_pos (by rw [rows_length]; omega), rd_rows, drop_one l (by omega), List.any_cons]
    generalize l.getD i 0 = c at hrec ⊢
    by_cases hc : 1099511627776 < c
    · rw [if_pos (by omega), decide_eq_true hc, Bool.true_or, if_pos rfl]; rfl
    · rw [if_neg (by omega), decide_eq_false hc, Bool.false_or, IntWalk.u64_in _ (by omega), IntWalk.wrap64_in _ (by omega)]
      exact hrec (by omega)
theorem bucket_eq (l : List Nat) (hl : l.length ≤ 1000) (p : Int) (k : Nat) (hk : 80 < k) : quant_Bucket.f k (rows l) p = some (cast2 (bkt l p)) := by
  obtain ⟨k, rfl⟩ : ∃ m, k = m + 1 := ⟨k - 1, by omega⟩
  unfold quant_Bucket.f bkt
  by_cases h1 : p < 0
  · rw [if_pos h1, if_pos (.inl h1), quant_Bucket.j0, if_pos rfl]; rfl
  rw [if_neg h1]
  by_cases h2 : p > 1000
  · rw [if_pos h2, if_pos (.inr (.inl h2)), quant_Bucket.j0, if_pos rfl]; rfl
  rw [if_neg h2, rows_length]
  by_cases h3 : 33 < l.length
  · rw [if_pos (.inr (.inr h3)), decide_eq_true (by omega), quant_Bucket.j0, if_pos rfl]; rfl
  rw [if_neg (by omega), decide_eq_false (by omega), quant_Bucket.j0, if_neg (by simp), rows_length]
  obtain ⟨q, rfl⟩ := Int.eq_ofNat_of_zero_le (show 0 ≤ p by omega)
  have := l0_eq l (by omega) q (by omega) l.length 0 k (by omega) (by omega) (by simp)
  simpa using this
theorem bucket_walk (w : World) (A : Option Addr) (m c : Nat) (l : List Nat) (p : Int) (hC : Kd.C k26 w A m (rows l)) (hm : m = l.length) (hc : m ≤ c) (hl : m ≤ 1000) (x e : Nat) (hx : bkt l p = (x, e)) :
    Calls Try.prog 22 #[.slice A m c, .int .i64 p] w fun r w' => r = .returned (.tuple #[.int .i64 (x : Int), .int .i64 (e : Int)]) ∧ Only (fun _ => False) w w' := by
  have h : m = (rows l).length := by rw [rows_length, hm]
  subst h
  refine (quant_Bucket.calls 100 A c (rows l) p _ _ w hC hc (by rw [bucket_eq l (by rw [rows_length] at hl; exact hl) p 100 (by omega), hx])).mono ?_
  rintro r w' ⟨rfl, hb⟩
  exact ⟨rfl, Only.of_below hb (fun k hk _ => hk)⟩
theorem alive_f : tallyroomlaw32_alive.f 200 = some true := by
  unfold tallyroomlaw32_alive.f
  have h0 : tallyroomlaw32_counts.f 200 ([1, 2, 1] : List Int) = some (rows [1, 2, 1]) := by
    unfold tallyroomlaw32_counts.f
    iterate 3 rw [tallyroomlaw32_counts.l0, if_pos (by decide +kernel), if_pos (by decide +kernel), if_pos (by simp)]
    rw [tallyroomlaw32_counts.l0, if_neg (by decide +kernel), show wrap64 (0 + 1) = 1 by decide +kernel, show wrap64 (1 + 1) = 2 by decide +kernel]
    rfl
  have h1 := bucket_eq [1, 2, 1] (by decide) 500 200 (by omega)
  have h2 := bucket_eq [] (by decide) 500 200 (by omega)
  have e1 : bkt [1, 2, 1] 500 = (1, 0) := by decide +kernel
  have e2 : bkt [] 500 = (0, 30) := by decide +kernel
  rw [e1] at h1
  rw [e2] at h2
  rw [h0, Option.bind_some, h1, Option.bind_some, show ([] : List S26) = rows [] from rfl, h2, Option.bind_some]
  rfl
theorem alive_walk (w : World) : Calls Try.prog 21 #[] w fun r w' => r = .returned (.bool true) ∧ Only (fun _ => False) w w' := by
  refine (tallyroomlaw32_alive.calls 200 true w alive_f).mono ?_
  rintro r w' ⟨rfl, hb⟩
  exact ⟨rfl, Only.of_below hb (fun k hk _ => hk)⟩
/-- A row with some buckets. -/
def aRow (A : Option Addr) (m c : Nat) : Value := .agg #[.slice none 0 0, .bool false, .int .u64 0, .bool false, .int .u64 0, .bool false, .int .u64 0, .bool false, .slice A m c, .slice none 0 0]
set_option maxHeartbeats 8000000 in
set_option maxRecDepth 1000000 in
theorem of_walk (w : World) (A0 : Option Addr) (n0 c0 : Nat) (bs : List Nat) (A : Option Addr) (m c : Nat) (l : List Nat) (p : Int) (hC0 : Kd.C (Kd.int .u64) w A0 n0 (ofN bs)) (hn0 : n0 = bs.length) (hc0 : n0 ≤ c0) (hok : okB bs) (hC : Kd.C k26 w A m (rows l)) (hm : m = l.length) (hc : m ≤ c) (hmn : m = n0 + 1) (x : Nat) (hx : bkt l p = (x, 0)) (r1 r2 : Int) (r3 : Bool) (hr : bnds bs x = (r1, r2, r3)) :
    Calls Try.prog 29 #[.slice A0 n0 c0, .agg #[.slice none 0 0, .bool false, .int .u64 0, .bool false, .int .u64 0, .bool false, .int .u64 0, .bool false, .slice A m c, .slice none 0 0], .int .i64 p] w fun r w' => r = .returned (.tuple #[.int .u64 r1, .int .u64 r2, .int .i64 0]) ∧ Only (fun _ => False) w w' := by
  have h32 := hok.1
  obtain ⟨z1, z2, z3, hz⟩ : ∃ z1 z2 z3, bnds bs 0 = (z1, z2, z3) := ⟨_, _, _, rfl⟩
  have hz3 : z3 = true := by
    unfold bnds at hz
    rw [if_pos ⟨hok, by omega, by omega⟩] at hz
    exact (congrArg (fun t => t.2.2) hz).symm
  subst hz3
  have hB := Aside0.mk (fun W (o : Only (fun _ => False) w W) => bounds_walk W A0 n0 c0 bs 0 (Kd.C_below hC0 (below_of o)) hn0 hc0 (by omega) z1 z2 true hz)
  have hB2 := Aside0.mk (fun W (o : Only (fun _ => False) w W) => bounds_walk W A0 n0 c0 bs (x : Int) (Kd.C_below hC0 (below_of o)) hn0 hc0 (by omega) r1 r2 r3 hr)
  have hK := Aside0.mk (fun W (o : Only (fun _ => False) w W) => bucket_walk W A m c l p (Kd.C_below hC (below_of o)) hm hc (by omega) x 0 hx)
  have hbox := Aside0.mk ((Only.refl (fun _ => False) w).alloc (.cells #[.slice none 0 0, .bool false, .int .u64 0, .bool false, .int .u64 0, .bool false, .int .u64 0, .bool false, .slice A m c, .slice none 0 0] 46))
  have hcell := Aside0.mk (fun W (o : Only (fun _ => False) (w.alloc (.cells #[.slice none 0 0, .bool false, .int .u64 0, .bool false, .int .u64 0, .bool false, .int .u64 0, .bool false, .slice A m c, .slice none 0 0] 46)) W) => (((Row.new w [.slice none 0 0, .bool false, .int .u64 0, .bool false, .int .u64 0, .bool false, .int .u64 0, .bool false, .slice A m c, .slice none 0 0] 46).only o id) 8 _ rfl).1)
  have hmI : (m : Int) = (n0 : Int) + 1 := by omega
  have h1000 : n0 ≤ 1000 := by omega
  clear hC0 hC hx hr hz hok hn0 hm h32
  subst hmn
  clear hmI
  go_enter Try.func29, Try.ntmps29
  go_wp2_with (first
    | (go_at_call 27; first
       | (with_reducible refine (hB2.out _ (hbox.out.trans ho2.out)).mono ?_; rintro r w3 ⟨rfl, ho3⟩; replace ho3 := Aside0.mk (ho2.out.trans ho3))
       | (with_reducible refine (hB.out _ hbox.out).mono ?_; rintro r w1 ⟨rfl, ho1⟩; replace ho1 := Aside0.mk ho1; have c1 := hcell.out _ ho1.out))
    | (go_at_call 22; with_reducible refine (hK.out _ (hbox.out.trans ho1.out)).mono ?_; rintro r w2 ⟨rfl, ho2⟩; replace ho2 := Aside0.mk (ho1.out.trans ho2)))
  go_ret3
  exact ⟨rfl, hbox.out.trans ho3.out⟩
end Go.Proofs.Ytdcbhakclhbdpaa.Qw
