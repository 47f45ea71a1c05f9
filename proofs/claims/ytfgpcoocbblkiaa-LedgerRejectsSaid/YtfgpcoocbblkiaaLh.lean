/- The law LedgerRejects, walked. No conditions but bounds. -/
import Derived.Test.YtfgpcoocbblkiaaLg
import Derived.ChangeKeysEq
namespace Go.Proofs.Ytfgpcoocbblkiaa.Le
open Go.RowKit Go.Proofs.YtfgpcoocbblkiaaW.PrintWords Go.Proofs.YtfgpcoocbblkiaaW.PrintLast Go.Proofs.YtfgpcoocbblkiaaW.PrintMore
open Go.Proofs.Ytfgpcoocbblkiaa.Ob Go.Proofs.Ytfgpcoocbblkiaa.XLe
set_option linter.unusedSimpArgs false
set_option linter.unusedVariables false
attribute [local go_sem] max2_int min2_int min_two
theorem u8_at {w : World} {A : Option Addr} {n : Nat} {bs : List Nat} (h : Kd.C (Kd.int .u8) w A n (ofN bs)) (i : Nat) (hi : i < bs.length) : ∃ ad, A = some ad ∧ w.cell? (ad.add i) = some (.int .u8 ((bs[i]'hi : Nat) : Int)) := by
  have hl2 := ofN_length bs
  obtain ⟨hl, _, hc⟩ := h
  obtain ⟨ad, e, hc⟩ := hc (by omega)
  have hx : (ofN bs)[i]? = some ((bs[i]'hi : Nat) : Int) := by
    unfold ofN
    rw [List.getElem?_map, List.getElem?_eq_getElem hi]; rfl
  obtain ⟨c, hcl, hk, hcell⟩ := hc i _ hx
  obtain rfl : c = [.int .u8 ((bs[i]'hi : Nat) : Int)] := hk
  have := hcell 0 _ rfl
  refine ⟨ad, e, ?_⟩
  have e2 : (Kd.int .u8).sz = 1 := rfl
  rw [e2, Nat.mul_one] at this
  simpa [Addr.add] using this
def ncells (a b c d e f : Nat) : List Value := [.int .u64 (a : Int), .int .u64 (b : Int), .int .u64 (c : Int), .int .u64 (d : Int), .int .u64 (e : Int), .int .u64 (f : Int)]
/-- The ledger and the array within the law. -/
structure Lw (w W : World) (N M rec a b c d e f : Nat) : Prop where
  o : Only (fun _ => False) w W
  r1 : Row W N (lcells rec 3 1 [a, b, c, d, e, f])
  r2 : Row W M (ncells a b c d e f)
  n1 : w.heap.size ≤ N
  n2 : w.heap.size ≤ M
  ne : N ≠ M
theorem Lw.keep {w W W' : World} {N M rec a b c d e f : Nat} (h : Lw w W N M rec a b c d e f) (o : Only (fun _ => False) W W') : Lw w W' N M rec a b c d e f :=
  ⟨h.o.trans o, h.r1.only o id, h.r2.only o id, h.n1, h.n2, h.ne⟩
theorem Lw.below {w W : World} {N M rec a b c d e f : Nat} (h : Lw w W N M rec a b c d e f) : Below w.heap.size w W := below_of h.o
theorem Lw.arr {w W : World} {N M rec a b c d e f : Nat} (h : Lw w W N M rec a b c d e f) : ∀ j v, (ncells a b c d e f)[j]? = some v → W.cell? ⟨N, 13 + j, none⟩ = some v := by
  intro j v hv
  refine (h.r1 (13 + j) v ?_).1
  unfold lcells
  rw [List.getElem?_append_right (by simp)]
  simpa [ncells] using hv
theorem ncells_at (a b c d e f j : Nat) (hj : j < 6) : ∃ x : Nat, (ncells a b c d e f)[j]? = some (.int .u64 (x : Int)) ∧ ([a, b, c, d, e, f].take (j + 1)).sum = ([a, b, c, d, e, f].take j).sum + x ∧ x ≤ a + b + c + d + e + f := by
  match j, hj with
  | 0, _ => exact ⟨a, rfl, by simp, by omega⟩
  | 1, _ => exact ⟨b, rfl, by simp, by omega⟩
  | 2, _ => exact ⟨c, rfl, by simp; omega, by omega⟩
  | 3, _ => exact ⟨d, rfl, by simp; omega, by omega⟩
  | 4, _ => exact ⟨e, rfl, by simp; omega, by omega⟩
  | 5, _ => exact ⟨f, rfl, by simp; omega, by omega⟩
theorem Lw.rej0 {w W : World} {N M rec a b c d e f : Nat} (h : Lw w W N M rec a b c d e f) (hb : a + b + c + d + e + f ≤ 1000) :
    Calls Try.prog 25 #[.pointer (some ⟨N, 0, none⟩), .int .i64 50] W fun r w' => r = .returned (.bool true) ∧ Only (fun k => k = N) W w' ∧ Row w' N (lcells rec 3 1 [a + 1, b, c, d, e, f]) ∧ Row w' M (ncells a b c d e f) := by
  refine (reject_yes W N 50 0 rec 3 1 [a, b, c, d, e, f] rfl (by omega) h.r1 rfl a rfl (by omega)).mono ?_
  rintro r w' ⟨rfl, hr, ho⟩
  exact ⟨rfl, ho, hr, h.r2.only ho (fun e => h.ne e.symm)⟩
theorem Lw.put0 {w W w' : World} {N M rec a b c d e f : Nat} (h : Lw w W N M rec a b c d e f) (ho : Only (fun k => k = N) W w') (hr : Row w' N (lcells rec 3 1 [a + 1, b, c, d, e, f])) (h2 : Row w' M (ncells a b c d e f)) : Lw w (w'.setCell ⟨M, 0, none⟩ (.int .u64 ((a + 1 : Nat) : Int))) N M rec (a + 1) b c d e f :=
  ⟨fresh (fresh h.o ho (fun k e => by have := h.n1; omega)) ((Only.refl (fun k => k = M) w').setCell ⟨M, 0, none⟩ _ rfl) (fun k e => by have := h.n2; omega), hr.far _ _ (fun e => h.ne e.symm), h2.set 0 _, h.n1, h.n2, h.ne⟩
theorem Lw.rej1 {w W : World} {N M rec a b c d e f : Nat} (h : Lw w W N M rec a b c d e f) (hb : a + b + c + d + e + f ≤ 1000) :
    Calls Try.prog 25 #[.pointer (some ⟨N, 0, none⟩), .int .i64 51] W fun r w' => r = .returned (.bool true) ∧ Only (fun k => k = N) W w' ∧ Row w' N (lcells rec 3 1 [a, b + 1, c, d, e, f]) ∧ Row w' M (ncells a b c d e f) := by
  refine (reject_yes W N 51 1 rec 3 1 [a, b, c, d, e, f] rfl (by omega) h.r1 rfl b rfl (by omega)).mono ?_
  rintro r w' ⟨rfl, hr, ho⟩
  exact ⟨rfl, ho, hr, h.r2.only ho (fun e => h.ne e.symm)⟩
theorem Lw.put1 {w W w' : World} {N M rec a b c d e f : Nat} (h : Lw w W N M rec a b c d e f) (ho : Only (fun k => k = N) W w') (hr : Row w' N (lcells rec 3 1 [a, b + 1, c, d, e, f])) (h2 : Row w' M (ncells a b c d e f)) : Lw w (w'.setCell ⟨M, 1, none⟩ (.int .u64 ((b + 1 : Nat) : Int))) N M rec a (b + 1) c d e f :=
  ⟨fresh (fresh h.o ho (fun k e => by have := h.n1; omega)) ((Only.refl (fun k => k = M) w').setCell ⟨M, 1, none⟩ _ rfl) (fun k e => by have := h.n2; omega), hr.far _ _ (fun e => h.ne e.symm), h2.set 1 _, h.n1, h.n2, h.ne⟩
theorem Lw.rej2 {w W : World} {N M rec a b c d e f : Nat} (h : Lw w W N M rec a b c d e f) (hb : a + b + c + d + e + f ≤ 1000) :
    Calls Try.prog 25 #[.pointer (some ⟨N, 0, none⟩), .int .i64 52] W fun r w' => r = .returned (.bool true) ∧ Only (fun k => k = N) W w' ∧ Row w' N (lcells rec 3 1 [a, b, c + 1, d, e, f]) ∧ Row w' M (ncells a b c d e f) := by
  refine (reject_yes W N 52 2 rec 3 1 [a, b, c, d, e, f] rfl (by omega) h.r1 rfl c rfl (by omega)).mono ?_
  rintro r w' ⟨rfl, hr, ho⟩
  exact ⟨rfl, ho, hr, h.r2.only ho (fun e => h.ne e.symm)⟩
theorem Lw.put2 {w W w' : World} {N M rec a b c d e f : Nat} (h : Lw w W N M rec a b c d e f) (ho : Only (fun k => k = N) W w') (hr : Row w' N (lcells rec 3 1 [a, b, c + 1, d, e, f])) (h2 : Row w' M (ncells a b c d e f)) : Lw w (w'.setCell ⟨M, 2, none⟩ (.int .u64 ((c + 1 : Nat) : Int))) N M rec a b (c + 1) d e f :=
  ⟨fresh (fresh h.o ho (fun k e => by have := h.n1; omega)) ((Only.refl (fun k => k = M) w').setCell ⟨M, 2, none⟩ _ rfl) (fun k e => by have := h.n2; omega), hr.far _ _ (fun e => h.ne e.symm), h2.set 2 _, h.n1, h.n2, h.ne⟩
theorem Lw.rej3 {w W : World} {N M rec a b c d e f : Nat} (h : Lw w W N M rec a b c d e f) (hb : a + b + c + d + e + f ≤ 1000) :
    Calls Try.prog 25 #[.pointer (some ⟨N, 0, none⟩), .int .i64 53] W fun r w' => r = .returned (.bool true) ∧ Only (fun k => k = N) W w' ∧ Row w' N (lcells rec 3 1 [a, b, c, d + 1, e, f]) ∧ Row w' M (ncells a b c d e f) := by
  refine (reject_yes W N 53 3 rec 3 1 [a, b, c, d, e, f] rfl (by omega) h.r1 rfl d rfl (by omega)).mono ?_
  rintro r w' ⟨rfl, hr, ho⟩
  exact ⟨rfl, ho, hr, h.r2.only ho (fun e => h.ne e.symm)⟩
theorem Lw.put3 {w W w' : World} {N M rec a b c d e f : Nat} (h : Lw w W N M rec a b c d e f) (ho : Only (fun k => k = N) W w') (hr : Row w' N (lcells rec 3 1 [a, b, c, d + 1, e, f])) (h2 : Row w' M (ncells a b c d e f)) : Lw w (w'.setCell ⟨M, 3, none⟩ (.int .u64 ((d + 1 : Nat) : Int))) N M rec a b c (d + 1) e f :=
  ⟨fresh (fresh h.o ho (fun k e => by have := h.n1; omega)) ((Only.refl (fun k => k = M) w').setCell ⟨M, 3, none⟩ _ rfl) (fun k e => by have := h.n2; omega), hr.far _ _ (fun e => h.ne e.symm), h2.set 3 _, h.n1, h.n2, h.ne⟩
theorem Lw.rej4 {w W : World} {N M rec a b c d e f : Nat} (h : Lw w W N M rec a b c d e f) (hb : a + b + c + d + e + f ≤ 1000) :
    Calls Try.prog 25 #[.pointer (some ⟨N, 0, none⟩), .int .i64 54] W fun r w' => r = .returned (.bool true) ∧ Only (fun k => k = N) W w' ∧ Row w' N (lcells rec 3 1 [a, b, c, d, e + 1, f]) ∧ Row w' M (ncells a b c d e f) := by
  refine (reject_yes W N 54 4 rec 3 1 [a, b, c, d, e, f] rfl (by omega) h.r1 rfl e rfl (by omega)).mono ?_
  rintro r w' ⟨rfl, hr, ho⟩
  exact ⟨rfl, ho, hr, h.r2.only ho (fun e => h.ne e.symm)⟩
theorem Lw.put4 {w W w' : World} {N M rec a b c d e f : Nat} (h : Lw w W N M rec a b c d e f) (ho : Only (fun k => k = N) W w') (hr : Row w' N (lcells rec 3 1 [a, b, c, d, e + 1, f])) (h2 : Row w' M (ncells a b c d e f)) : Lw w (w'.setCell ⟨M, 4, none⟩ (.int .u64 ((e + 1 : Nat) : Int))) N M rec a b c d (e + 1) f :=
  ⟨fresh (fresh h.o ho (fun k e => by have := h.n1; omega)) ((Only.refl (fun k => k = M) w').setCell ⟨M, 4, none⟩ _ rfl) (fun k e => by have := h.n2; omega), hr.far _ _ (fun e => h.ne e.symm), h2.set 4 _, h.n1, h.n2, h.ne⟩
theorem Lw.rej5 {w W : World} {N M rec a b c d e f : Nat} (h : Lw w W N M rec a b c d e f) (hb : a + b + c + d + e + f ≤ 1000) :
    Calls Try.prog 25 #[.pointer (some ⟨N, 0, none⟩), .int .i64 55] W fun r w' => r = .returned (.bool true) ∧ Only (fun k => k = N) W w' ∧ Row w' N (lcells rec 3 1 [a, b, c, d, e, f + 1]) ∧ Row w' M (ncells a b c d e f) := by
  refine (reject_yes W N 55 5 rec 3 1 [a, b, c, d, e, f] rfl (by omega) h.r1 rfl f rfl (by omega)).mono ?_
  rintro r w' ⟨rfl, hr, ho⟩
  exact ⟨rfl, ho, hr, h.r2.only ho (fun e => h.ne e.symm)⟩
theorem Lw.put5 {w W w' : World} {N M rec a b c d e f : Nat} (h : Lw w W N M rec a b c d e f) (ho : Only (fun k => k = N) W w') (hr : Row w' N (lcells rec 3 1 [a, b, c, d, e, f + 1])) (h2 : Row w' M (ncells a b c d e f)) : Lw w (w'.setCell ⟨M, 5, none⟩ (.int .u64 ((f + 1 : Nat) : Int))) N M rec a b c d e (f + 1) :=
  ⟨fresh (fresh h.o ho (fun k e => by have := h.n1; omega)) ((Only.refl (fun k => k = M) w').setCell ⟨M, 5, none⟩ _ rfl) (fun k e => by have := h.n2; omega), hr.far _ _ (fun e => h.ne e.symm), h2.set 5 _, h.n1, h.n2, h.ne⟩
theorem part_one {P : Program} (w : World) (e : TypeId) (xs : Array Value) (k : Nat) (x : Value) (kd : IntKind) (hu : P.underlying e = some (.int kd)) (h : xs[k]? = some x) : (part e xs k).run P w = .ok x w := by
  unfold part isAgg
  have : k < xs.size := (Array.getElem?_eq_some_iff.1 h).1
  simp [Sem.run_bind, run_underlying hu, h]
theorem eqItems_same {P : Program} (w : World) (d : Nat) (e : TypeId) (kd : IntKind) (hu : P.underlying e = some (.int kd)) (xs : Array Value) (hx : ∀ (i : Nat) (x : Value), xs[i]? = some x → ∃ n : Int, x = Value.int kd n) :
    ∀ is : List Nat, (∀ i ∈ is, i < xs.size) → (Op.eqItems (d + 1) e 1 xs xs is).run P w = .ok true w
  | [], _ => by simp [Op.eqItems]
  | i :: is, h => by
    have hi : i < xs.size := h i (by simp)
    obtain ⟨n, hn⟩ := hx i _ (Array.getElem?_eq_getElem hi)
    have hx1 : xs[i]? = some (.int kd n) := by rw [← hn]; exact Array.getElem?_eq_getElem hi
    have p := part_one (P := P) w e xs i _ kd hu hx1
    simp only [Op.eqItems, Nat.mul_one, Sem.run_bind, p, Result.andThen_ok, run_equalIn_int w d e kd kd n n hu, beq_self_eq_true, if_true, Bool.not_true, Bool.false_eq_true, if_false]
    exact eqItems_same w d e kd hu xs hx is (fun j hj => h j (by simp [hj]))
theorem info47 : (Try.prog.info? 47).map (fun i => (i.zero, i.size, i.bytes)) = some (some (.int .u64 0), 1, 8) := by kernel_rfl
theorem eq48 (w : World) (a b c d e f : Nat) : (Op.equalIn 10000 48 (.agg #[.int .u64 (a : Int), .int .u64 (b : Int), .int .u64 (c : Int), .int .u64 (d : Int), .int .u64 (e : Int), .int .u64 (f : Int)]) (.agg #[.int .u64 (a : Int), .int .u64 (b : Int), .int .u64 (c : Int), .int .u64 (d : Int), .int .u64 (e : Int), .int .u64 (f : Int)])).run Try.prog w = .ok true w := by
  obtain ⟨i0, hi, -⟩ := info_parts info47
  rw [run_equalIn_array w 9999 _ _ Try.underlying48 hi, show Try.prog.cellsOf 47 = 1 by kernel_rfl]
  refine eqItems_same w 9998 47 .u64 Try.underlying47 _ ?_ _ ?_
  · intro i x hx
    have hi : i < 6 := (Array.getElem?_eq_some_iff.1 hx).1
    match i, hi with
    | 0, _ => exact ⟨_, (Option.some.inj hx).symm⟩
    | 1, _ => exact ⟨_, (Option.some.inj hx).symm⟩
    | 2, _ => exact ⟨_, (Option.some.inj hx).symm⟩
    | 3, _ => exact ⟨_, (Option.some.inj hx).symm⟩
    | 4, _ => exact ⟨_, (Option.some.inj hx).symm⟩
    | 5, _ => exact ⟨_, (Option.some.inj hx).symm⟩
  · intro i hi
    exact List.mem_range.1 hi
theorem Lw.start (w W : World) {rec : Nat} (ho : Only (fun _ => False) w W) : Lw w ((W.alloc (.cells #[.int .u64 0, .int .u64 0, .int .u64 0, .int .u64 0, .int .u64 (rec : Int), .int .u64 3, .int .u64 0, .int .u64 0, .int .u64 0, .int .u64 0, .int .u64 1, .int .u64 0, .int .u64 0, .int .u64 0, .int .u64 0, .int .u64 0, .int .u64 0, .int .u64 0, .int .u64 0] 50)).alloc (.cells #[.int .u64 0, .int .u64 0, .int .u64 0, .int .u64 0, .int .u64 0, .int .u64 0] 48)) W.heap.size (W.heap.size + 1) rec 0 0 0 0 0 0 := by
  have e : (W.alloc (.cells #[.int .u64 0, .int .u64 0, .int .u64 0, .int .u64 0, .int .u64 (rec : Int), .int .u64 3, .int .u64 0, .int .u64 0, .int .u64 0, .int .u64 0, .int .u64 1, .int .u64 0, .int .u64 0, .int .u64 0, .int .u64 0, .int .u64 0, .int .u64 0, .int .u64 0, .int .u64 0] 50)).heap.size = W.heap.size + 1 := by show (W.heap.push _).size = _; simp
  refine ⟨(ho.alloc _).alloc _, (Row.new W [.int .u64 0, .int .u64 0, .int .u64 0, .int .u64 0, .int .u64 (rec : Int), .int .u64 3, .int .u64 0, .int .u64 0, .int .u64 0, .int .u64 0, .int .u64 1, .int .u64 0, .int .u64 0, .int .u64 0, .int .u64 0, .int .u64 0, .int .u64 0, .int .u64 0, .int .u64 0] 50).alloc _, ?_, ho.size, Nat.le_succ_of_le ho.size, by omega⟩
  have h := Row.new (W.alloc (.cells #[.int .u64 0, .int .u64 0, .int .u64 0, .int .u64 0, .int .u64 (rec : Int), .int .u64 3, .int .u64 0, .int .u64 0, .int .u64 0, .int .u64 0, .int .u64 1, .int .u64 0, .int .u64 0, .int .u64 0, .int .u64 0, .int .u64 0, .int .u64 0, .int .u64 0, .int .u64 0] 50)) [.int .u64 0, .int .u64 0, .int .u64 0, .int .u64 0, .int .u64 0, .int .u64 0] 48
  rw [e] at h
  exact h
theorem mod_cases (v : Nat) : (v : Int) % 10 = 0 ∨ (v : Int) % 10 = 1 ∨ (v : Int) % 10 = 2 ∨ (v : Int) % 10 = 3 ∨ (v : Int) % 10 = 4 ∨ (v : Int) % 10 = 5 ∨ (v : Int) % 10 = 6 ∨ (v : Int) % 10 = 7 ∨ (v : Int) % 10 = 8 ∨ (v : Int) % 10 = 9 := by omega
set_option maxHeartbeats 8000000 in
set_option maxRecDepth 1000000 in
theorem rejects_law (w : World) (A : Option Addr) (m c0 : Nat) (l : List Nat) (rec : Nat) (hC : Kd.C (Kd.int .u8) w A m (ofN l)) (hm : m = l.length) (hc : m ≤ c0) (hb : ∀ x ∈ l, x ≤ 255) (hrec : rec ≤ 65535) :
    Calls Try.prog 7 #[.slice A m c0, .int .u16 (rec : Int)] w fun r w' => r = .returned (.bool true) ∧ Below w.heap.size w w' := by
  have hr0 : (0 : Int) ≤ (rec : Int) := by omega
  have hr1 : (rec : Int) ≤ 65535 := by omega
  by_cases hbig : 200 < m
  · have hbigI : (200 : Int) < (m : Int) := by omega
    replace hm := Aside0.mk hm
    go_enter Try.func7, Try.ntmps7
    go_wp2_with (go_at_call 24; refine (alive_walk _).mono ?_; rintro r w1 ⟨rfl, ho⟩)
    go_ret
    exact ⟨by first | rfl | simp, below_of ho⟩
  have hsmall : (m : Int) ≤ 200 := by omega
  have hm2 : m ≤ 200 := by omega
  clear hbig
  replace hm := Aside0.mk hm
  replace hC := Aside0.mk hC
  replace hb := Aside0.mk hb
  go_enter Try.func7, Try.ntmps7
  go_wp2_with (first
    | (refine wpList_store_fresh w1 (by rfl) 50 _ _ rfl rfl _ #[.int .u64 0, .int .u64 0, .int .u64 0, .int .u64 0, .int .u64 (rec : Int), .int .u64 3, .int .u64 0, .int .u64 0, .int .u64 0, .int .u64 0, .int .u64 1, .int .u64 0, .int .u64 0, .int .u64 0, .int .u64 0, .int .u64 0, .int .u64 0, .int .u64 0, .int .u64 0] rfl (by kernel_rfl) rfl (by kernel_rfl) ?_)
    | (go_at_call 24; refine (alive_walk _).mono ?_; rintro r w1 ⟨rfl, ho⟩; have HL := Aside0.mk (Lw.start (rec := rec) w w1 ho); replace ho := Aside0.mk ho))
  go_loopg [7] (m + 1) (fun kq v7 wr => ∃ i a b c d e f : Nat, v7 = .int .i64 (i : Int) ∧ i ≤ m ∧ m - i < kq ∧ a + b + c + d + e + f ≤ i ∧ Aside0 (Lw w wr w1.heap.size (w1.heap.size + 1) rec a b c d e f))
  case atStart => exact ⟨0, 0, 0, 0, 0, 0, 0, rfl, by omega, by omega, by omega, HL⟩
  case round =>
    clear HL
    obtain ⟨i, a, b, c, d, e, f, rfl, hi, hk, hsum, HL⟩ := hrel
    obtain ⟨k1, rfl⟩ : ∃ m, gk = m + 1 := ⟨gk - 1, by omega⟩
    by_cases him : i < m
    · have himI : (i : Int) < (m : Int) := by omega
      have hi0 : (0 : Int) ≤ (i : Int) := by omega
      have hil : i < l.length := by rw [← hm.out]; exact him
      have hv0 : (0 : Int) ≤ (l[i] : Int) := by omega
      have hv1 : (l[i] : Int) ≤ 255 := by have := hb.out _ (List.getElem_mem hil); omega
      obtain ⟨ad, rfl, hx⟩ := u8_at (Kd.C_below hC.out HL.out.below) i hil
      rcases mod_cases l[i] with hq | hq | hq | hq | hq | hq | hq | hq | hq | hq
      · replace hq : (l[i] : Int) % 10 = 0 := hq
        go_wp2_with (go_at_call 25; refine (reject_no _ _ 48 rfl).mono ?_; rintro r w2 ⟨rfl, ho2⟩; replace HL := Aside0.mk (HL.out.keep ho2); replace ho2 := Aside0.mk ho2)
        go_roundg k1
        case measure => omega
        case rel => exact ⟨i + 1, a, b, c, d, e, f, by first | rfl | simp, by omega, by omega, by omega, HL⟩
      · replace hq : (l[i] : Int) % 10 = 1 := hq
        go_wp2_with (go_at_call 25; refine (reject_no _ _ 49 rfl).mono ?_; rintro r w2 ⟨rfl, ho2⟩; replace HL := Aside0.mk (HL.out.keep ho2); replace ho2 := Aside0.mk ho2)
        go_roundg k1
        case measure => omega
        case rel => exact ⟨i + 1, a, b, c, d, e, f, by first | rfl | simp, by omega, by omega, by omega, HL⟩
      · replace hq : (l[i] : Int) % 10 = 2 := hq
        go_wp2_with (go_at_call 25; refine (HL.out.rej0 (by omega)).mono ?_; rintro r w2 ⟨rfl, ho2, hr2, hm2⟩; have ⟨x0, x0f⟩ := hm2 0 _ rfl; replace HL := Aside0.mk (HL.out.put0 ho2 hr2 hm2); replace ho2 := Aside0.mk ho2; replace hr2 := Aside0.mk hr2; replace hm2 := Aside0.mk hm2)
        go_roundg k1
        case measure => omega
        case rel => exact ⟨i + 1, a + 1, b, c, d, e, f, by first | rfl | simp, by omega, by omega, by omega, HL⟩
      · replace hq : (l[i] : Int) % 10 = 3 := hq
        go_wp2_with (go_at_call 25; refine (HL.out.rej1 (by omega)).mono ?_; rintro r w2 ⟨rfl, ho2, hr2, hm2⟩; have ⟨x0, x0f⟩ := hm2 1 _ rfl; replace HL := Aside0.mk (HL.out.put1 ho2 hr2 hm2); replace ho2 := Aside0.mk ho2; replace hr2 := Aside0.mk hr2; replace hm2 := Aside0.mk hm2)
        go_roundg k1
        case measure => omega
        case rel => exact ⟨i + 1, a, b + 1, c, d, e, f, by first | rfl | simp, by omega, by omega, by omega, HL⟩
      · replace hq : (l[i] : Int) % 10 = 4 := hq
        go_wp2_with (go_at_call 25; refine (HL.out.rej2 (by omega)).mono ?_; rintro r w2 ⟨rfl, ho2, hr2, hm2⟩; have ⟨x0, x0f⟩ := hm2 2 _ rfl; replace HL := Aside0.mk (HL.out.put2 ho2 hr2 hm2); replace ho2 := Aside0.mk ho2; replace hr2 := Aside0.mk hr2; replace hm2 := Aside0.mk hm2)
        go_roundg k1
        case measure => omega
        case rel => exact ⟨i + 1, a, b, c + 1, d, e, f, by first | rfl | simp, by omega, by omega, by omega, HL⟩
      · replace hq : (l[i] : Int) % 10 = 5 := hq
        go_wp2_with (go_at_call 25; refine (HL.out.rej3 (by omega)).mono ?_; rintro r w2 ⟨rfl, ho2, hr2, hm2⟩; have ⟨x0, x0f⟩ := hm2 3 _ rfl; replace HL := Aside0.mk (HL.out.put3 ho2 hr2 hm2); replace ho2 := Aside0.mk ho2; replace hr2 := Aside0.mk hr2; replace hm2 := Aside0.mk hm2)
        go_roundg k1
        case measure => omega
        case rel => exact ⟨i + 1, a, b, c, d + 1, e, f, by first | rfl | simp, by omega, by omega, by omega, HL⟩
      · replace hq : (l[i] : Int) % 10 = 6 := hq
        go_wp2_with (go_at_call 25; refine (HL.out.rej4 (by omega)).mono ?_; rintro r w2 ⟨rfl, ho2, hr2, hm2⟩; have ⟨x0, x0f⟩ := hm2 4 _ rfl; replace HL := Aside0.mk (HL.out.put4 ho2 hr2 hm2); replace ho2 := Aside0.mk ho2; replace hr2 := Aside0.mk hr2; replace hm2 := Aside0.mk hm2)
        go_roundg k1
        case measure => omega
        case rel => exact ⟨i + 1, a, b, c, d, e + 1, f, by first | rfl | simp, by omega, by omega, by omega, HL⟩
      · replace hq : (l[i] : Int) % 10 = 7 := hq
        go_wp2_with (go_at_call 25; refine (HL.out.rej5 (by omega)).mono ?_; rintro r w2 ⟨rfl, ho2, hr2, hm2⟩; have ⟨x0, x0f⟩ := hm2 5 _ rfl; replace HL := Aside0.mk (HL.out.put5 ho2 hr2 hm2); replace ho2 := Aside0.mk ho2; replace hr2 := Aside0.mk hr2; replace hm2 := Aside0.mk hm2)
        go_roundg k1
        case measure => omega
        case rel => exact ⟨i + 1, a, b, c, d, e, f + 1, by first | rfl | simp, by omega, by omega, by omega, HL⟩
      · replace hq : (l[i] : Int) % 10 = 8 := hq
        go_wp2_with (go_at_call 25; refine (reject_no _ _ 56 rfl).mono ?_; rintro r w2 ⟨rfl, ho2⟩; replace HL := Aside0.mk (HL.out.keep ho2); replace ho2 := Aside0.mk ho2)
        go_roundg k1
        case measure => omega
        case rel => exact ⟨i + 1, a, b, c, d, e, f, by first | rfl | simp, by omega, by omega, by omega, HL⟩
      · replace hq : (l[i] : Int) % 10 = 9 := hq
        go_wp2_with (go_at_call 25; refine (reject_no _ _ 57 rfl).mono ?_; rintro r w2 ⟨rfl, ho2⟩; replace HL := Aside0.mk (HL.out.keep ho2); replace ho2 := Aside0.mk ho2)
        go_roundg k1
        case measure => omega
        case rel => exact ⟨i + 1, a, b, c, d, e, f, by first | rfl | simp, by omega, by omega, by omega, HL⟩
    · obtain rfl : i = m := by omega
      clear hk him hi
      obtain ⟨T, hT⟩ : ∃ T, 3 + a + b + c + d + e + f = T := ⟨_, rfl⟩
      have hT2 : T ≤ 203 := by omega
      have hs2 := Aside0.mk (show 3 + a + b + c + d + e + f ≤ 100000 by omega)
      have hs1 := Aside0.mk (show a + b + c + d + e + f ≤ 200 by omega)
      replace hT := Aside0.mk hT
      clear hsum
      rcases Nat.lt_trichotomy rec T with h | h | h
      · have hI : (rec : Int) < (T : Int) := by omega
        have hJ : ¬ (T : Int) < (rec : Int) := by omega
        replace h := Aside0.mk h
        go_wp2
        go_loop [10, 11] (fun v10 v11 => ∃ j s : Nat, v10 = .int .u64 (s : Int) ∧ v11 = .int .i64 (j : Int) ∧ j ≤ 6 ∧ Aside0 (s = 3 + ([a, b, c, d, e, f].take j).sum)) (fun _ v11 => 6 - (intOf v11).toNat)
        case atStart => exact ⟨0, 3, rfl, rfl, by omega, ⟨rfl⟩⟩
        case round =>
          obtain ⟨j, s, rfl, rfl, hj, hs⟩ := hrel
          by_cases hj6 : j < 6
          · have hj6I : (j : Int) < 6 := by omega
            have hj0 : (0 : Int) ≤ (j : Int) := by omega
            obtain ⟨x, hx, hxs, hx6⟩ := ncells_at a b c d e f j hj6
            have hcx := (HL.out.r2 j _ hx).1
            have hbx : (x : Int) ≤ 200 := by have := hs1.out; omega
            have hb0 : (0 : Int) ≤ (x : Int) := by omega
            have hbs : (s : Int) ≤ 100000 := by
              have := hs.out
              have h2 : ([a, b, c, d, e, f].take j).sum ≤ [a, b, c, d, e, f].sum := by
                conv => rhs; rw [← List.take_append_drop j [a, b, c, d, e, f], List.sum_append]
                omega
              have h3 : [a, b, c, d, e, f].sum = a + b + c + d + e + f := by simp; omega
              have := hs1.out
              omega
            have hs0 : (0 : Int) ≤ (s : Int) := by omega
            replace hxs := Aside0.mk hxs
            clear hx hx6
            go_wp2
            go_round
            case rel => exact ⟨j + 1, s + x, by first | rfl | simp, by first | rfl | simp, by omega, ⟨by have := hs.out; have := hxs.out; omega⟩⟩
            case measure => simp [intOf]; omega
          · obtain rfl : j = 6 := by omega
            obtain rfl : s = T := by
              have := hs.out
              have h3 : ([a, b, c, d, e, f].take 6).sum = a + b + c + d + e + f := by simp; omega
              have := hT.out
              omega
            clear hs
            have hE := fun W => eq48 W a b c d e f
            have hfd : ∀ (w : World) (n : Int) (b : Bool), (Instr.field 53 (.agg #[.int .u64 n, .bool b]) 0).run Try.prog w = .ok (.int .u64 n) w := by intros; kernel_rfl
            have r4 := (HL.out.r1 4 _ rfl).1
            have r5 := (HL.out.r1 5 _ rfl).1
            have r10 := (HL.out.r1 10 _ rfl).1
            go_wp2_with (first
              | (refine wpList_load_at (by rfl) 50 _ rfl w1.heap.size 0 rfl [.int .u64 0, .int .u64 0, .int .u64 0, .int .u64 0, .int .u64 (rec : Int), .int .u64 3, .int .u64 0, .int .u64 0, .int .u64 0, .int .u64 0, .int .u64 1, .int .u64 0, .int .u64 0, .int .u64 (a : Int), .int .u64 (b : Int), .int .u64 (c : Int), .int .u64 (d : Int), .int .u64 (e : Int), .int .u64 (f : Int)] _ (row_at0 HL.out.r1) Try.underlying50 rfl (by kernel_rfl) ?_)
              | (refine wpList_load_at (by rfl) 48 _ rfl w1.heap.size 13 rfl [.int .u64 (a : Int), .int .u64 (b : Int), .int .u64 (c : Int), .int .u64 (d : Int), .int .u64 (e : Int), .int .u64 (f : Int)] _ HL.out.arr Try.underlying48 rfl (by kernel_rfl) ?_)
              | (refine wpList_load_at (by rfl) 48 _ rfl (w1.heap.size + 1) 0 rfl [.int .u64 (a : Int), .int .u64 (b : Int), .int .u64 (c : Int), .int .u64 (d : Int), .int .u64 (e : Int), .int .u64 (f : Int)] _ (row_at0 HL.out.r2) Try.underlying48 rfl (by kernel_rfl) ?_)
              | (go_at_call 26; refine (told_T _ rec 3 1 a b c d e f hs2.out s hT.out _ rfl).mono ?_; rintro r w2 ⟨rfl, ho2⟩; replace HL := Aside0.mk (HL.out.keep ho2); replace ho2 := Aside0.mk ho2)
              | (go_at_call 27; refine (clean_walk _ rec 3 1 a b c d e f).mono ?_; rintro r w3 ⟨rfl, ho3⟩; replace HL := Aside0.mk (HL.out.keep ho3); replace ho3 := Aside0.mk ho3)
              | (go_at_call 28; refine (open_walk _ rec 3 1 a b c d e f hs2.out (by omega) s hT.out 0 (by have := h.out; omega)).mono ?_; rintro r w4 ⟨rfl, ho4⟩; replace HL := Aside0.mk (HL.out.keep ho4); replace ho4 := Aside0.mk ho4))
            go_ret
            exact ⟨by first | rfl | simp, HL.out.below⟩
      · have hI : ¬ (rec : Int) < (T : Int) := by omega
        have hJ : ¬ (T : Int) < (rec : Int) := by omega
        replace h := Aside0.mk h
        go_wp2
        go_loop [10, 11] (fun v10 v11 => ∃ j s : Nat, v10 = .int .u64 (s : Int) ∧ v11 = .int .i64 (j : Int) ∧ j ≤ 6 ∧ Aside0 (s = 3 + ([a, b, c, d, e, f].take j).sum)) (fun _ v11 => 6 - (intOf v11).toNat)
        case atStart => exact ⟨0, 3, rfl, rfl, by omega, ⟨rfl⟩⟩
        case round =>
          obtain ⟨j, s, rfl, rfl, hj, hs⟩ := hrel
          by_cases hj6 : j < 6
          · have hj6I : (j : Int) < 6 := by omega
            have hj0 : (0 : Int) ≤ (j : Int) := by omega
            obtain ⟨x, hx, hxs, hx6⟩ := ncells_at a b c d e f j hj6
            have hcx := (HL.out.r2 j _ hx).1
            have hbx : (x : Int) ≤ 200 := by have := hs1.out; omega
            have hb0 : (0 : Int) ≤ (x : Int) := by omega
            have hbs : (s : Int) ≤ 100000 := by
              have := hs.out
              have h2 : ([a, b, c, d, e, f].take j).sum ≤ [a, b, c, d, e, f].sum := by
                conv => rhs; rw [← List.take_append_drop j [a, b, c, d, e, f], List.sum_append]
                omega
              have h3 : [a, b, c, d, e, f].sum = a + b + c + d + e + f := by simp; omega
              have := hs1.out
              omega
            have hs0 : (0 : Int) ≤ (s : Int) := by omega
            replace hxs := Aside0.mk hxs
            clear hx hx6
            go_wp2
            go_round
            case rel => exact ⟨j + 1, s + x, by first | rfl | simp, by first | rfl | simp, by omega, ⟨by have := hs.out; have := hxs.out; omega⟩⟩
            case measure => simp [intOf]; omega
          · obtain rfl : j = 6 := by omega
            obtain rfl : s = T := by
              have := hs.out
              have h3 : ([a, b, c, d, e, f].take 6).sum = a + b + c + d + e + f := by simp; omega
              have := hT.out
              omega
            clear hs
            have hE := fun W => eq48 W a b c d e f
            have hfd : ∀ (w : World) (n : Int) (b : Bool), (Instr.field 53 (.agg #[.int .u64 n, .bool b]) 0).run Try.prog w = .ok (.int .u64 n) w := by intros; kernel_rfl
            have r4 := (HL.out.r1 4 _ rfl).1
            have r5 := (HL.out.r1 5 _ rfl).1
            have r10 := (HL.out.r1 10 _ rfl).1
            go_wp2_with (first
              | (refine wpList_load_at (by rfl) 50 _ rfl w1.heap.size 0 rfl [.int .u64 0, .int .u64 0, .int .u64 0, .int .u64 0, .int .u64 (rec : Int), .int .u64 3, .int .u64 0, .int .u64 0, .int .u64 0, .int .u64 0, .int .u64 1, .int .u64 0, .int .u64 0, .int .u64 (a : Int), .int .u64 (b : Int), .int .u64 (c : Int), .int .u64 (d : Int), .int .u64 (e : Int), .int .u64 (f : Int)] _ (row_at0 HL.out.r1) Try.underlying50 rfl (by kernel_rfl) ?_)
              | (refine wpList_load_at (by rfl) 48 _ rfl w1.heap.size 13 rfl [.int .u64 (a : Int), .int .u64 (b : Int), .int .u64 (c : Int), .int .u64 (d : Int), .int .u64 (e : Int), .int .u64 (f : Int)] _ HL.out.arr Try.underlying48 rfl (by kernel_rfl) ?_)
              | (refine wpList_load_at (by rfl) 48 _ rfl (w1.heap.size + 1) 0 rfl [.int .u64 (a : Int), .int .u64 (b : Int), .int .u64 (c : Int), .int .u64 (d : Int), .int .u64 (e : Int), .int .u64 (f : Int)] _ (row_at0 HL.out.r2) Try.underlying48 rfl (by kernel_rfl) ?_)
              | (go_at_call 26; refine (told_T _ rec 3 1 a b c d e f hs2.out s hT.out _ rfl).mono ?_; rintro r w2 ⟨rfl, ho2⟩; replace HL := Aside0.mk (HL.out.keep ho2); replace ho2 := Aside0.mk ho2)
              | (go_at_call 27; refine (clean_walk _ rec 3 1 a b c d e f).mono ?_; rintro r w3 ⟨rfl, ho3⟩; replace HL := Aside0.mk (HL.out.keep ho3); replace ho3 := Aside0.mk ho3)
              | (go_at_call 28; refine (open_walk _ rec 3 1 a b c d e f hs2.out (by omega) s hT.out 0 (by have := h.out; omega)).mono ?_; rintro r w4 ⟨rfl, ho4⟩; replace HL := Aside0.mk (HL.out.keep ho4); replace ho4 := Aside0.mk ho4))
            go_ret
            exact ⟨by first | rfl | simp, HL.out.below⟩
      · have hI : ¬ (rec : Int) < (T : Int) := by omega
        have hJ : (T : Int) < (rec : Int) := by omega
        replace h := Aside0.mk h
        go_wp2
        go_loop [10, 11] (fun v10 v11 => ∃ j s : Nat, v10 = .int .u64 (s : Int) ∧ v11 = .int .i64 (j : Int) ∧ j ≤ 6 ∧ Aside0 (s = 3 + ([a, b, c, d, e, f].take j).sum)) (fun _ v11 => 6 - (intOf v11).toNat)
        case atStart => exact ⟨0, 3, rfl, rfl, by omega, ⟨rfl⟩⟩
        case round =>
          obtain ⟨j, s, rfl, rfl, hj, hs⟩ := hrel
          by_cases hj6 : j < 6
          · have hj6I : (j : Int) < 6 := by omega
            have hj0 : (0 : Int) ≤ (j : Int) := by omega
            obtain ⟨x, hx, hxs, hx6⟩ := ncells_at a b c d e f j hj6
            have hcx := (HL.out.r2 j _ hx).1
            have hbx : (x : Int) ≤ 200 := by have := hs1.out; omega
            have hb0 : (0 : Int) ≤ (x : Int) := by omega
            have hbs : (s : Int) ≤ 100000 := by
              have := hs.out
              have h2 : ([a, b, c, d, e, f].take j).sum ≤ [a, b, c, d, e, f].sum := by
                conv => rhs; rw [← List.take_append_drop j [a, b, c, d, e, f], List.sum_append]
                omega
              have h3 : [a, b, c, d, e, f].sum = a + b + c + d + e + f := by simp; omega
              have := hs1.out
              omega
            have hs0 : (0 : Int) ≤ (s : Int) := by omega
            replace hxs := Aside0.mk hxs
            clear hx hx6
            go_wp2
            go_round
            case rel => exact ⟨j + 1, s + x, by first | rfl | simp, by first | rfl | simp, by omega, ⟨by have := hs.out; have := hxs.out; omega⟩⟩
            case measure => simp [intOf]; omega
          · obtain rfl : j = 6 := by omega
            obtain rfl : s = T := by
              have := hs.out
              have h3 : ([a, b, c, d, e, f].take 6).sum = a + b + c + d + e + f := by simp; omega
              have := hT.out
              omega
            clear hs
            obtain ⟨z, hz⟩ : ∃ z : Nat, rec - min rec s = z := ⟨_, rfl⟩
            have hzI : (rec : Int) - (s : Int) = (z : Int) := by have := h.out; omega
            replace hz := Aside0.mk hz
            have hE := fun W => eq48 W a b c d e f
            have hfd : ∀ (w : World) (n : Int) (b : Bool), (Instr.field 53 (.agg #[.int .u64 n, .bool b]) 0).run Try.prog w = .ok (.int .u64 n) w := by intros; kernel_rfl
            have r4 := (HL.out.r1 4 _ rfl).1
            have r5 := (HL.out.r1 5 _ rfl).1
            have r10 := (HL.out.r1 10 _ rfl).1
            go_wp2_with (first
              | (refine wpList_load_at (by rfl) 50 _ rfl w1.heap.size 0 rfl [.int .u64 0, .int .u64 0, .int .u64 0, .int .u64 0, .int .u64 (rec : Int), .int .u64 3, .int .u64 0, .int .u64 0, .int .u64 0, .int .u64 0, .int .u64 1, .int .u64 0, .int .u64 0, .int .u64 (a : Int), .int .u64 (b : Int), .int .u64 (c : Int), .int .u64 (d : Int), .int .u64 (e : Int), .int .u64 (f : Int)] _ (row_at0 HL.out.r1) Try.underlying50 rfl (by kernel_rfl) ?_)
              | (refine wpList_load_at (by rfl) 48 _ rfl w1.heap.size 13 rfl [.int .u64 (a : Int), .int .u64 (b : Int), .int .u64 (c : Int), .int .u64 (d : Int), .int .u64 (e : Int), .int .u64 (f : Int)] _ HL.out.arr Try.underlying48 rfl (by kernel_rfl) ?_)
              | (refine wpList_load_at (by rfl) 48 _ rfl (w1.heap.size + 1) 0 rfl [.int .u64 (a : Int), .int .u64 (b : Int), .int .u64 (c : Int), .int .u64 (d : Int), .int .u64 (e : Int), .int .u64 (f : Int)] _ (row_at0 HL.out.r2) Try.underlying48 rfl (by kernel_rfl) ?_)
              | (go_at_call 26; refine (told_T _ rec 3 1 a b c d e f hs2.out s hT.out _ rfl).mono ?_; rintro r w2 ⟨rfl, ho2⟩; replace HL := Aside0.mk (HL.out.keep ho2); replace ho2 := Aside0.mk ho2)
              | (go_at_call 27; refine (clean_walk _ rec 3 1 a b c d e f).mono ?_; rintro r w3 ⟨rfl, ho3⟩; replace HL := Aside0.mk (HL.out.keep ho3); replace ho3 := Aside0.mk ho3)
              | (go_at_call 28; refine (open_walk _ rec 3 1 a b c d e f hs2.out (by omega) s hT.out z hz.out).mono ?_; rintro r w4 ⟨rfl, ho4⟩; replace HL := Aside0.mk (HL.out.keep ho4); replace ho4 := Aside0.mk ho4))
            go_ret
            exact ⟨by first | rfl | simp, HL.out.below⟩

theorem ofN_of (l : List Int) (B : Nat) (h : ∀ x ∈ l, 0 ≤ x ∧ x ≤ B) : ∃ ns : List Nat, l = ofN ns ∧ ∀ n ∈ ns, n ≤ B := by
  refine ⟨l.map Int.toNat, ?_, ?_⟩
  · unfold ofN
    rw [List.map_map]
    conv => lhs; rw [← List.map_id l]
    exact List.map_congr_left fun x hx => (Int.toNat_of_nonneg (h x hx).1).symm
  · intro n hn
    obtain ⟨x, hx, rfl⟩ := List.mem_map.1 hn
    have := h x hx
    omega
theorem u8_wf {x : Int} (h : (Lit.int .u8 x).wf = true) : 0 ≤ x ∧ x ≤ 255 := by
  simpa [Lit.wf, IntKind.min, IntKind.max, IntKind.signed, IntKind.bits] using h
theorem u16_wf {x : Int} (h : (Lit.int .u16 x).wf = true) : 0 ≤ x ∧ x ≤ 65535 := by
  simpa [Lit.wf, IntKind.min, IntKind.max, IntKind.signed, IntKind.bits] using h
end Go.Proofs.Ytfgpcoocbblkiaa.Le
