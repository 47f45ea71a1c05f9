/- The law QuantWithin, walked. No conditions but bounds. -/
import Derived.Test.YtdcbhakclhbdpaaQp
namespace Go.Proofs.Ytdcbhakclhbdpaa.Qw
open Go.RowKit Go.Proofs.YtdcbhakclhbdpaaW.PrintWords Go.Proofs.YtdcbhakclhbdpaaW.PrintLast Go.Proofs.YtdcbhakclhbdpaaW.PrintMore
open Go.Proofs.Ytdcbhakclhbdpaa.Ob Go.Proofs.Ytdcbhakclhbdpaa.XH
open Go.Proofs.Ytdcbhakclhbdpaa.Hi (ofN ofN_length rd_ofN okB bnds getD_at below_of toS bounds_walk R_sl bucks bucks_length cnts cnts_length cnts_getD bk bk_le IsH new_h new_bad put_h buckets_h num_at fresh Row_of_R)
attribute [local go_sem] max2_int min2_int max_two min_two
set_option linter.unusedSimpArgs false
set_option linter.unusedVariables false

/-- The histogram within the law. -/
structure Hw (w W : World) (lo hi N : Nat) (bs l : List Nat) : Prop where
  h : IsH W lo hi N bs l
  o : Only (fun _ => False) w W
  le : w.heap.size ≤ lo
theorem Hw.put {w W : World} {lo hi N : Nat} {bs l : List Nat} (h : Hw w W lo hi N bs l) (x : Nat) (hl : l.length < 1000) : Calls Try.prog 32 #[.pointer (some ⟨N, 0, none⟩), .int .u64 (x : Int)] W fun r w' => r = .returned (.int .i64 0) ∧ Hw w w' lo hi N bs (l ++ [x]) := by
  refine (put_h h.h x hl).mono ?_
  rintro r w' ⟨rfl, hh, ho⟩
  have := h.le
  exact ⟨rfl, hh, fresh h.o ho (fun j e => by omega), h.le⟩
theorem rows_bucks (bs l : List Nat) : (bucks bs l).map toS = rows (cnts bs l) := by
  unfold bucks rows cnts
  rw [List.map_map, List.map_map]; rfl
theorem C_rows {W : World} {A : Option Addr} {n q base : Nat} {bs l : List Nat} (h : Kd.R k26 26 W base (fun _ => True) (.slice A n q) ((bucks bs l).map toS)) : Kd.C k26 W A n (rows (cnts bs l)) ∧ n ≤ q := by
  obtain ⟨h1, h2, h3⟩ := Kd.R_reads' h
  rw [← rows_bucks]
  rw [← h1] at h3
  exact ⟨h3, h2⟩
/-- How many of the first k are so. -/
def cI (l : List Nat) (f : Nat → Bool) (k : Nat) : Nat := (l.take k).countP f
theorem cI_next (l : List Nat) (f : Nat → Bool) (k : Nat) (h : k < l.length) : cI l f (k + 1) = cI l f k + if f (l.getD k 0) = true then 1 else 0 := by
  unfold cI
  rw [List.take_succ_eq_append_getElem h, List.countP_append, getD_at l k h]
  cases e : f l[k] <;> simp [e]
theorem cI_le (l : List Nat) (f : Nat → Bool) (k : Nat) : cI l f k ≤ k := Nat.le_trans List.countP_le_length (by rw [List.length_take]; omega)
theorem cI_all (l : List Nat) (f : Nat → Bool) (k : Nat) (h : l.length ≤ k) : cI l f k = l.countP f := by unfold cI; rw [List.take_of_length_le h]
set_option maxHeartbeats 32000000 in
set_option maxRecDepth 1000000 in
theorem within_law (w : World) (A0 A1 : Option Addr) (n0 c0 m1 c1 : Nat) (bs l : List Nat) (p q : Nat) (hC0 : Kd.C (Kd.int .u64) w A0 n0 (ofN bs)) (hn0 : n0 = bs.length) (hc0 : n0 ≤ c0) (hC1 : Kd.C (Kd.int .u64) w A1 m1 (ofN l)) (hm1 : m1 = l.length) (hc1 : m1 ≤ c1) (hw : ∀ v ∈ l, v ≤ 18446744073709551615) (hp : p ≤ 65535) (hq : q ≤ 65535) :
    Calls Try.prog 10 #[.slice A0 n0 c0, .slice A1 m1 c1, .int .u16 (p : Int), .int .u16 (q : Int)] w fun r w' => r = .returned (.bool true) ∧ Below w.heap.size w w' := by
  replace hC0 := Aside0.mk hC0
  replace hC1 := Aside0.mk hC1
  replace hn0 := Aside0.mk hn0
  replace hm1 := Aside0.mk hm1
  replace hc0 := Aside0.mk hc0
  replace hc1 := Aside0.mk hc1
  replace hw := Aside0.mk hw
  by_cases g0 : (n0 : Int) > 40
  · go_enter Try.func10, Try.ntmps10
    go_wp2_with (go_at_call 21; refine (alive_walk _).mono ?_; rintro r w1 ⟨rfl, ho⟩)
    go_ret
    exact ⟨rfl, below_of ho⟩
  by_cases g1 : (m1 : Int) > 60
  · go_enter Try.func10, Try.ntmps10
    go_wp2_with (go_at_call 21; refine (alive_walk _).mono ?_; rintro r w1 ⟨rfl, ho⟩)
    go_ret
    exact ⟨rfl, below_of ho⟩
  by_cases g2 : m1 = 0
  · subst g2
    go_enter Try.func10, Try.ntmps10
    go_wp2_with (go_at_call 21; refine (alive_walk _).mono ?_; rintro r w1 ⟨rfl, ho⟩)
    go_ret
    exact ⟨rfl, below_of ho⟩
  have g2I : ((m1 : Int) == 0) = false := by rw [beq_eq_false_iff_ne]; omega
  have hl0 := Aside0.mk (show n0 ≤ 1000 by omega)
  by_cases hok : okB bs
  · replace hok := Aside0.mk hok
    obtain ⟨P, hP, hP2⟩ : ∃ P : Nat, (p : Int) % 1001 = (P : Int) ∧ P ≤ 1000 := ⟨p % 1001, by omega, by omega⟩
    obtain ⟨Q, hQ, hQ2⟩ : ∃ Q : Nat, (q : Int) % 1001 = (Q : Int) ∧ Q ≤ 1000 := ⟨q % 1001, by omega, by omega⟩
    rcases Nat.lt_trichotomy P Q with hPQ | hPQ | hPQ
    · have hPQI : (P : Int) < (Q : Int) := by omega
      have hPQJ : ¬ (Q : Int) < (P : Int) := by omega
      have hab : P ≤ Q ∧ Q ≤ 1000 := by omega
      obtain ⟨x, hx, hxn, hx1, hx2⟩ := where_is bs l hok.out.1 (by rw [← hm1.out]; omega) (by rw [← hm1.out]; omega) P (by omega)
      obtain ⟨y, hy, hyn, hy1, hy2⟩ := where_is bs l hok.out.1 (by rw [← hm1.out]; omega) (by rw [← hm1.out]; omega) Q hab.2
      have hxy := where_mono bs l P Q x y hab.1 hx1 hy2
      have hbn := Aside0.mk (bnds_nat bs hok.out x hxn)
      have hrk1 := Aside0.mk (rank_le l.length P (by rw [← hm1.out]; omega) (by omega))
      have hup := Aside0.mk (Nat.le_trans hx2 (up_enough bs l hok.out hw.out x hxn))
      have hbe := Aside0.mk (Nat.lt_of_le_of_lt (below_few bs l hok.out x hxn) hx1)
      replace hx := Aside0.mk hx
      replace hy := Aside0.mk hy
      clear hx1 hx2 hy1 hy2
      have hxyI : ¬ (y : Int) < (x : Int) := by omega
      clear hxn hyn hxy hab
      go_enter Try.func10, Try.ntmps10
      go_wp2_with (first
        | (go_at_call 21; with_reducible refine (alive_walk _).mono ?_; rintro r w0 ⟨rfl, ho0⟩; replace ho0 := Aside0.mk ho0)
        | (go_at_call 31; with_reducible refine (new_h (bs := bs) A0 n0 c0 (Kd.C_below hC0.out (below_of ho0.out)) hn0.out hc0.out hok.out).mono ?_; rintro r w1 ⟨N, rfl, H1, ho⟩; have HA := Aside0.mk (Hw.mk H1 (ho0.out.trans ho) ho0.out.size); clear ho H1))
      go_loopg [11] (m1 + 1) (fun kq v11 wr => ∃ i : Nat, v11 = .int .i64 (i : Int) ∧ i ≤ m1 ∧ m1 - i < kq ∧ Aside0 (Hw w wr _ _ N bs (l.take i)))
      case atStart => exact ⟨0, rfl, by omega, by omega, ⟨by simpa using HA.out⟩⟩
      case round =>
        clear HA
        obtain ⟨i, rfl, hi, hk, HA⟩ := hrel
        obtain ⟨k1, rfl⟩ : ∃ m, gk = m + 1 := ⟨gk - 1, by omega⟩
        by_cases him : i < m1
        · have himI : (i : Int) < (m1 : Int) := by omega
          have hi0 : (0 : Int) ≤ (i : Int) := by omega
          have hil : i < l.length := by rw [← hm1.out]; exact him
          obtain ⟨ad, rfl, hxx⟩ := num_at (Kd.C_below hC1.out (below_of HA.out.o)) i hil
          have hlen := Aside0.mk (show (l.take i).length < 1000 by rw [List.length_take]; omega)
          have e1 := Aside0.mk (show l.take i ++ [l.getD i 0] = l.take (i + 1) by rw [List.take_succ_eq_append_getElem hil, getD_at l i hil])
          generalize l.getD i 0 = v at hxx e1
          go_wp2_with (go_at_call 32; with_reducible refine (HA.out.put v hlen.out).mono ?_; rintro r w6 ⟨rfl, H⟩; rw [e1.out] at H; have HP := Aside0.mk H; clear H HA hxx)
          go_roundg k1
          case measure => omega
          case rel => exact ⟨i + 1, by first | rfl | simp, by omega, by omega, HP⟩
        · have himI : ¬ (i : Int) < (m1 : Int) := by omega
          have hieq : i = m1 := by omega
          have hil : l.take i = l := List.take_of_length_le (by rw [← hm1.out]; omega)
          rw [hil] at HA
          clear hil
          go_wp2_with (first
            | (go_at_call 33; with_reducible refine (buckets_h HA.out.h).mono ?_; rintro r w8 ⟨A8, q8, rfl, hR, ho⟩; have hC8 := C_rows hR; rw [← hn0.out] at hC8 ⊢; replace hC8 := Aside0.mk hC8; have HO := Aside0.mk (HA.out.o.trans ho); clear ho hR HA)
            | (go_at_call 29; (with_reducible refine (of_walk _ A0 n0 c0 bs A8 (n0 + 1) q8 (cnts bs l) (P : Int) (Kd.C_below hC0.out (below_of (HO.out.alloc _))) hn0.out hc0.out hok.out (Kd.C_alloc hC8.out.1 _) (by rw [cnts_length, hn0.out]) hC8.out.2 rfl x hx.out _ _ true hbn.out).mono ?_); rintro r w9 ⟨rfl, ho⟩; have c8 := (((Row.new w8 [.slice none 0 0, .bool false, .int .u64 0, .bool false, .int .u64 0, .bool false, .int .u64 0, .bool false, .slice A8 (n0 + 1) q8, .slice none 0 0] 46).only ho id) 8 _ rfl).1; have hrow := Aside0.mk ((Row.new w8 [.slice none 0 0, .bool false, .int .u64 0, .bool false, .int .u64 0, .bool false, .int .u64 0, .bool false, .slice A8 (n0 + 1) q8, .slice none 0 0] 46).only ho id); replace hC8 := Aside0.mk (And.intro (Kd.C_below (Kd.C_alloc hC8.out.1 (.cells #[.slice none 0 0, .bool false, .int .u64 0, .bool false, .int .u64 0, .bool false, .int .u64 0, .bool false, .slice A8 (n0 + 1) q8, .slice none 0 0] 46)) (below_of ho)) hC8.out.2); replace HO := Aside0.mk ((HO.out.alloc _).trans ho); clear ho)
            | (go_at_call 22; first
               | ((with_reducible refine (bucket_walk _ A8 (n0 + 1) q8 (cnts bs l) (P : Int) hC8.out.1 (by rw [cnts_length, hn0.out]) hC8.out.2 (by omega) x 0 hx.out).mono ?_); rintro r w10 ⟨rfl, ho⟩; clear c8; replace hrow := Aside0.mk (hrow.out.only ho id); have c8 := (hrow.out 8 _ rfl).1; replace hC8 := Aside0.mk (And.intro (Kd.C_below hC8.out.1 (below_of ho)) hC8.out.2); replace HO := Aside0.mk (HO.out.trans ho); clear ho)
               | ((with_reducible refine (bucket_walk _ A8 (n0 + 1) q8 (cnts bs l) (Q : Int) hC8.out.1 (by rw [cnts_length, hn0.out]) hC8.out.2 (by omega) y 0 hy.out).mono ?_); rintro r w11 ⟨rfl, ho⟩; clear c8; replace hrow := Aside0.mk (hrow.out.only ho id); have c8 := (hrow.out 8 _ rfl).1; replace hC8 := Aside0.mk (And.intro (Kd.C_below hC8.out.1 (below_of ho)) hC8.out.2); replace HO := Aside0.mk (HO.out.trans ho); clear ho)))
          obtain ⟨T, hT, hT2⟩ : ∃ T : Nat, (P : Int) * (m1 : Int) = (T : Int) ∧ T ≤ 60000 := ⟨P * m1, rfl, Nat.le_trans (Nat.mul_le_mul (show P ≤ 1000 by omega) (show m1 ≤ 60 by omega)) (by omega)⟩
          obtain ⟨rk, hrk⟩ : ∃ rk, rank l.length P = rk := ⟨_, rfl⟩
          have hrkT : rk = max ((T + 999) / 1000) 1 := by
            rw [← hrk, ← hm1.out]
            unfold rank
            rw [show m1 * P = T by rw [Nat.mul_comm]; have h2 : ((P * m1 : Nat) : Int) = (T : Int) := hT; omega]
          rw [hrk] at hrk1 hup hbe
          replace hrk := Aside0.mk hrk
          have hrk0 := hrk1.out.1
          have hrk60 : rk ≤ m1 := by rw [hm1.out]; exact hrk1.out.2
          clear c8
          go_loopg [22] (rk + 1) (fun kq v22 wr => ∃ n : Nat, v22 = .int .i64 (n : Int) ∧ 1 ≤ n ∧ n ≤ rk ∧ rk - n < kq ∧ Aside0 (Only (fun _ => False) w wr))
          case atStart => exact ⟨1, rfl, by omega, by omega, by omega, HO⟩
          case round =>
            clear HO
            obtain ⟨n, rfl, hn1, hn2, hk2, HO⟩ := hrel
            obtain ⟨k1, rfl⟩ : ∃ m, gk = m + 1 := ⟨gk - 1, by omega⟩
            by_cases hn : n < rk
            · have hnI : (n : Int) * 1000 < (T : Int) := by omega
              go_wp2
              go_roundg k1
              case measure => omega
              case rel => exact ⟨n + 1, by first | rfl | simp, by omega, by omega, by omega, HO⟩
            · have hnI : ¬ (n : Int) * 1000 < (T : Int) := by omega
              have hneq : n = rk := by omega
              replace hneq := Aside0.mk hneq
              go_wp2
              clear hnI hrkT hT hT2
              go_loopg [23, 24, 25] (m1 + 1) (fun kq v23 v24 v25 wr => ∃ k : Nat, v23 = .int .i64 ((cI l (fun v => decide (v ≤ lowN bs x ∧ 0 < x)) k : Nat) : Int) ∧ v24 = .int .i64 ((cI l (fun v => decide (v ≤ highN bs x)) k : Nat) : Int) ∧ v25 = .int .i64 (k : Int) ∧ k ≤ m1 ∧ m1 - k < kq ∧ Aside0 (Only (fun _ => False) w wr))
              case atStart => exact ⟨0, by simp [cI], by simp [cI], rfl, by omega, by omega, HO⟩
              case round =>
                clear HO
                obtain ⟨k, rfl, rfl, rfl, hkm, hk3, HO⟩ := hrel
                obtain ⟨k2, rfl⟩ : ∃ m, gk = m + 1 := ⟨gk - 1, by omega⟩
                have hcl := cI_le l (fun v => decide (v ≤ lowN bs x ∧ 0 < x)) k
                have hch := cI_le l (fun v => decide (v ≤ highN bs x)) k
                by_cases hkn : k < m1
                · have hknI : (k : Int) < (m1 : Int) := by omega
                  have hk0 : (0 : Int) ≤ (k : Int) := by omega
                  have hkl : k < l.length := by rw [← hm1.out]; exact hkn
                  obtain ⟨ad, rfl, hxx⟩ := num_at (Kd.C_below hC1.out (below_of HO.out)) k hkl
                  have n1 := cI_next l (fun v => decide (v ≤ lowN bs x ∧ 0 < x)) k hkl
                  have n2 := cI_next l (fun v => decide (v ≤ highN bs x)) k hkl
                  simp only [decide_eq_true_eq] at n1 n2
                  replace n1 := Aside0.mk n1
                  replace n2 := Aside0.mk n2
                  generalize cI l (fun v => decide (v ≤ lowN bs x ∧ 0 < x)) k = lo at hcl n1
                  generalize cI l (fun v => decide (v ≤ highN bs x)) k = hi_ at hch n2
                  generalize l.getD k 0 = v at hxx n1 n2
                  by_cases h1 : v ≤ highN bs x
                  · have h1I : (v : Int) ≤ (highN bs x : Int) := by omega
                    by_cases h2 : v ≤ lowN bs x
                    · have h2I : (v : Int) ≤ (lowN bs x : Int) := by omega
                      by_cases h3 : 0 < x
                      · have h3I : (0 : Int) < (x : Int) := by omega
                        go_wp2
                        go_roundg k2
                        case measure => omega
                        case rel => exact ⟨k + 1, by rw [n1.out, if_pos ⟨h2, h3⟩]; first | rfl | simp, by rw [n2.out, if_pos h1]; first | rfl | simp, by first | rfl | simp, by omega, by omega, HO⟩
                      · have h3I : ¬ (0 : Int) < (x : Int) := by omega
                        go_wp2
                        go_roundg k2
                        case measure => omega
                        case rel => exact ⟨k + 1, by rw [n1.out, if_neg (fun e => h3 e.2)]; first | rfl | simp, by rw [n2.out, if_pos h1]; first | rfl | simp, by first | rfl | simp, by omega, by omega, HO⟩
                    · have h2I : ¬ (v : Int) ≤ (lowN bs x : Int) := by omega
                      go_wp2
                      go_roundg k2
                      case measure => omega
                      case rel => exact ⟨k + 1, by rw [n1.out, if_neg (fun e => h2 e.1)]; first | rfl | simp, by rw [n2.out, if_pos h1]; first | rfl | simp, by first | rfl | simp, by omega, by omega, HO⟩
                  · have h1I : ¬ (v : Int) ≤ (highN bs x : Int) := by omega
                    by_cases h2 : v ≤ lowN bs x
                    · have h2I : (v : Int) ≤ (lowN bs x : Int) := by omega
                      by_cases h3 : 0 < x
                      · have h3I : (0 : Int) < (x : Int) := by omega
                        go_wp2
                        go_roundg k2
                        case measure => omega
                        case rel => exact ⟨k + 1, by rw [n1.out, if_pos ⟨h2, h3⟩]; first | rfl | simp, by rw [n2.out, if_neg h1]; first | rfl | simp, by first | rfl | simp, by omega, by omega, HO⟩
                      · have h3I : ¬ (0 : Int) < (x : Int) := by omega
                        go_wp2
                        go_roundg k2
                        case measure => omega
                        case rel => exact ⟨k + 1, by rw [n1.out, if_neg (fun e => h3 e.2)]; first | rfl | simp, by rw [n2.out, if_neg h1]; first | rfl | simp, by first | rfl | simp, by omega, by omega, HO⟩
                    · have h2I : ¬ (v : Int) ≤ (lowN bs x : Int) := by omega
                      go_wp2
                      go_roundg k2
                      case measure => omega
                      case rel => exact ⟨k + 1, by rw [n1.out, if_neg (fun e => h2 e.1)]; first | rfl | simp, by rw [n2.out, if_neg h1]; first | rfl | simp, by first | rfl | simp, by omega, by omega, HO⟩
                · have hknI : ¬ (k : Int) < (m1 : Int) := by omega
                  have u1 : n ≤ cI l (fun v => decide (v ≤ highN bs x)) k := by rw [cI_all l _ k (by rw [← hm1.out]; omega), hneq.out]; exact hup.out
                  have u2 : cI l (fun v => decide (v ≤ lowN bs x ∧ 0 < x)) k < n := by rw [cI_all l _ k (by rw [← hm1.out]; omega), hneq.out]; exact hbe.out
                  generalize cI l (fun v => decide (v ≤ lowN bs x ∧ 0 < x)) k = lo at hcl u2 ⊢
                  generalize cI l (fun v => decide (v ≤ highN bs x)) k = hi_ at hch u1 ⊢
                  have u1I : (n : Int) ≤ (hi_ : Int) := by omega
                  have u2I : (lo : Int) < (n : Int) := by omega
                  go_wp2
                  go_ret
                  exact ⟨by first | rfl | simp, below_of HO.out⟩
    · subst hPQ
      have hab : P ≤ P ∧ P ≤ 1000 := by omega
      obtain ⟨x, hx, hxn, hx1, hx2⟩ := where_is bs l hok.out.1 (by rw [← hm1.out]; omega) (by rw [← hm1.out]; omega) P (by omega)
      obtain ⟨y, hy, hyn, hy1, hy2⟩ := where_is bs l hok.out.1 (by rw [← hm1.out]; omega) (by rw [← hm1.out]; omega) P hab.2
      have hxy := where_mono bs l P P x y hab.1 hx1 hy2
      have hbn := Aside0.mk (bnds_nat bs hok.out x hxn)
      have hrk1 := Aside0.mk (rank_le l.length P (by rw [← hm1.out]; omega) (by omega))
      have hup := Aside0.mk (Nat.le_trans hx2 (up_enough bs l hok.out hw.out x hxn))
      have hbe := Aside0.mk (Nat.lt_of_le_of_lt (below_few bs l hok.out x hxn) hx1)
      replace hx := Aside0.mk hx
      replace hy := Aside0.mk hy
      clear hx1 hx2 hy1 hy2
      have hxyI : ¬ (y : Int) < (x : Int) := by omega
      clear hxn hyn hxy hab
      go_enter Try.func10, Try.ntmps10
      go_wp2_with (first
        | (go_at_call 21; with_reducible refine (alive_walk _).mono ?_; rintro r w0 ⟨rfl, ho0⟩; replace ho0 := Aside0.mk ho0)
        | (go_at_call 31; with_reducible refine (new_h (bs := bs) A0 n0 c0 (Kd.C_below hC0.out (below_of ho0.out)) hn0.out hc0.out hok.out).mono ?_; rintro r w1 ⟨N, rfl, H1, ho⟩; have HA := Aside0.mk (Hw.mk H1 (ho0.out.trans ho) ho0.out.size); clear ho H1))
      go_loopg [11] (m1 + 1) (fun kq v11 wr => ∃ i : Nat, v11 = .int .i64 (i : Int) ∧ i ≤ m1 ∧ m1 - i < kq ∧ Aside0 (Hw w wr _ _ N bs (l.take i)))
      case atStart => exact ⟨0, rfl, by omega, by omega, ⟨by simpa using HA.out⟩⟩
      case round =>
        clear HA
        obtain ⟨i, rfl, hi, hk, HA⟩ := hrel
        obtain ⟨k1, rfl⟩ : ∃ m, gk = m + 1 := ⟨gk - 1, by omega⟩
        by_cases him : i < m1
        · have himI : (i : Int) < (m1 : Int) := by omega
          have hi0 : (0 : Int) ≤ (i : Int) := by omega
          have hil : i < l.length := by rw [← hm1.out]; exact him
          obtain ⟨ad, rfl, hxx⟩ := num_at (Kd.C_below hC1.out (below_of HA.out.o)) i hil
          have hlen := Aside0.mk (show (l.take i).length < 1000 by rw [List.length_take]; omega)
          have e1 := Aside0.mk (show l.take i ++ [l.getD i 0] = l.take (i + 1) by rw [List.take_succ_eq_append_getElem hil, getD_at l i hil])
          generalize l.getD i 0 = v at hxx e1
          go_wp2_with (go_at_call 32; with_reducible refine (HA.out.put v hlen.out).mono ?_; rintro r w6 ⟨rfl, H⟩; rw [e1.out] at H; have HP := Aside0.mk H; clear H HA hxx)
          go_roundg k1
          case measure => omega
          case rel => exact ⟨i + 1, by first | rfl | simp, by omega, by omega, HP⟩
        · have himI : ¬ (i : Int) < (m1 : Int) := by omega
          have hieq : i = m1 := by omega
          have hil : l.take i = l := List.take_of_length_le (by rw [← hm1.out]; omega)
          rw [hil] at HA
          clear hil
          go_wp2_with (first
            | (go_at_call 33; with_reducible refine (buckets_h HA.out.h).mono ?_; rintro r w8 ⟨A8, q8, rfl, hR, ho⟩; have hC8 := C_rows hR; rw [← hn0.out] at hC8 ⊢; replace hC8 := Aside0.mk hC8; have HO := Aside0.mk (HA.out.o.trans ho); clear ho hR HA)
            | (go_at_call 29; (with_reducible refine (of_walk _ A0 n0 c0 bs A8 (n0 + 1) q8 (cnts bs l) (P : Int) (Kd.C_below hC0.out (below_of (HO.out.alloc _))) hn0.out hc0.out hok.out (Kd.C_alloc hC8.out.1 _) (by rw [cnts_length, hn0.out]) hC8.out.2 rfl x hx.out _ _ true hbn.out).mono ?_); rintro r w9 ⟨rfl, ho⟩; have c8 := (((Row.new w8 [.slice none 0 0, .bool false, .int .u64 0, .bool false, .int .u64 0, .bool false, .int .u64 0, .bool false, .slice A8 (n0 + 1) q8, .slice none 0 0] 46).only ho id) 8 _ rfl).1; have hrow := Aside0.mk ((Row.new w8 [.slice none 0 0, .bool false, .int .u64 0, .bool false, .int .u64 0, .bool false, .int .u64 0, .bool false, .slice A8 (n0 + 1) q8, .slice none 0 0] 46).only ho id); replace hC8 := Aside0.mk (And.intro (Kd.C_below (Kd.C_alloc hC8.out.1 (.cells #[.slice none 0 0, .bool false, .int .u64 0, .bool false, .int .u64 0, .bool false, .int .u64 0, .bool false, .slice A8 (n0 + 1) q8, .slice none 0 0] 46)) (below_of ho)) hC8.out.2); replace HO := Aside0.mk ((HO.out.alloc _).trans ho); clear ho)
            | (go_at_call 22; first
               | ((with_reducible refine (bucket_walk _ A8 (n0 + 1) q8 (cnts bs l) (P : Int) hC8.out.1 (by rw [cnts_length, hn0.out]) hC8.out.2 (by omega) x 0 hx.out).mono ?_); rintro r w10 ⟨rfl, ho⟩; clear c8; replace hrow := Aside0.mk (hrow.out.only ho id); have c8 := (hrow.out 8 _ rfl).1; replace hC8 := Aside0.mk (And.intro (Kd.C_below hC8.out.1 (below_of ho)) hC8.out.2); replace HO := Aside0.mk (HO.out.trans ho); clear ho)
               | ((with_reducible refine (bucket_walk _ A8 (n0 + 1) q8 (cnts bs l) (P : Int) hC8.out.1 (by rw [cnts_length, hn0.out]) hC8.out.2 (by omega) y 0 hy.out).mono ?_); rintro r w11 ⟨rfl, ho⟩; clear c8; replace hrow := Aside0.mk (hrow.out.only ho id); have c8 := (hrow.out 8 _ rfl).1; replace hC8 := Aside0.mk (And.intro (Kd.C_below hC8.out.1 (below_of ho)) hC8.out.2); replace HO := Aside0.mk (HO.out.trans ho); clear ho)))
          obtain ⟨T, hT, hT2⟩ : ∃ T : Nat, (P : Int) * (m1 : Int) = (T : Int) ∧ T ≤ 60000 := ⟨P * m1, rfl, Nat.le_trans (Nat.mul_le_mul (show P ≤ 1000 by omega) (show m1 ≤ 60 by omega)) (by omega)⟩
          obtain ⟨rk, hrk⟩ : ∃ rk, rank l.length P = rk := ⟨_, rfl⟩
          have hrkT : rk = max ((T + 999) / 1000) 1 := by
            rw [← hrk, ← hm1.out]
            unfold rank
            rw [show m1 * P = T by rw [Nat.mul_comm]; have h2 : ((P * m1 : Nat) : Int) = (T : Int) := hT; omega]
          rw [hrk] at hrk1 hup hbe
          replace hrk := Aside0.mk hrk
          have hrk0 := hrk1.out.1
          have hrk60 : rk ≤ m1 := by rw [hm1.out]; exact hrk1.out.2
          clear c8
          go_loopg [22] (rk + 1) (fun kq v22 wr => ∃ n : Nat, v22 = .int .i64 (n : Int) ∧ 1 ≤ n ∧ n ≤ rk ∧ rk - n < kq ∧ Aside0 (Only (fun _ => False) w wr))
          case atStart => exact ⟨1, rfl, by omega, by omega, by omega, HO⟩
          case round =>
            clear HO
            obtain ⟨n, rfl, hn1, hn2, hk2, HO⟩ := hrel
            obtain ⟨k1, rfl⟩ : ∃ m, gk = m + 1 := ⟨gk - 1, by omega⟩
            by_cases hn : n < rk
            · have hnI : (n : Int) * 1000 < (T : Int) := by omega
              go_wp2
              go_roundg k1
              case measure => omega
              case rel => exact ⟨n + 1, by first | rfl | simp, by omega, by omega, by omega, HO⟩
            · have hnI : ¬ (n : Int) * 1000 < (T : Int) := by omega
              have hneq : n = rk := by omega
              replace hneq := Aside0.mk hneq
              go_wp2
              clear hnI hrkT hT hT2
              go_loopg [23, 24, 25] (m1 + 1) (fun kq v23 v24 v25 wr => ∃ k : Nat, v23 = .int .i64 ((cI l (fun v => decide (v ≤ lowN bs x ∧ 0 < x)) k : Nat) : Int) ∧ v24 = .int .i64 ((cI l (fun v => decide (v ≤ highN bs x)) k : Nat) : Int) ∧ v25 = .int .i64 (k : Int) ∧ k ≤ m1 ∧ m1 - k < kq ∧ Aside0 (Only (fun _ => False) w wr))
              case atStart => exact ⟨0, by simp [cI], by simp [cI], rfl, by omega, by omega, HO⟩
              case round =>
                clear HO
                obtain ⟨k, rfl, rfl, rfl, hkm, hk3, HO⟩ := hrel
                obtain ⟨k2, rfl⟩ : ∃ m, gk = m + 1 := ⟨gk - 1, by omega⟩
                have hcl := cI_le l (fun v => decide (v ≤ lowN bs x ∧ 0 < x)) k
                have hch := cI_le l (fun v => decide (v ≤ highN bs x)) k
                by_cases hkn : k < m1
                · have hknI : (k : Int) < (m1 : Int) := by omega
                  have hk0 : (0 : Int) ≤ (k : Int) := by omega
                  have hkl : k < l.length := by rw [← hm1.out]; exact hkn
                  obtain ⟨ad, rfl, hxx⟩ := num_at (Kd.C_below hC1.out (below_of HO.out)) k hkl
                  have n1 := cI_next l (fun v => decide (v ≤ lowN bs x ∧ 0 < x)) k hkl
                  have n2 := cI_next l (fun v => decide (v ≤ highN bs x)) k hkl
                  simp only [decide_eq_true_eq] at n1 n2
                  replace n1 := Aside0.mk n1
                  replace n2 := Aside0.mk n2
                  generalize cI l (fun v => decide (v ≤ lowN bs x ∧ 0 < x)) k = lo at hcl n1
                  generalize cI l (fun v => decide (v ≤ highN bs x)) k = hi_ at hch n2
                  generalize l.getD k 0 = v at hxx n1 n2
                  by_cases h1 : v ≤ highN bs x
                  · have h1I : (v : Int) ≤ (highN bs x : Int) := by omega
                    by_cases h2 : v ≤ lowN bs x
                    · have h2I : (v : Int) ≤ (lowN bs x : Int) := by omega
                      by_cases h3 : 0 < x
                      · have h3I : (0 : Int) < (x : Int) := by omega
                        go_wp2
                        go_roundg k2
                        case measure => omega
                        case rel => exact ⟨k + 1, by rw [n1.out, if_pos ⟨h2, h3⟩]; first | rfl | simp, by rw [n2.out, if_pos h1]; first | rfl | simp, by first | rfl | simp, by omega, by omega, HO⟩
                      · have h3I : ¬ (0 : Int) < (x : Int) := by omega
                        go_wp2
                        go_roundg k2
                        case measure => omega
                        case rel => exact ⟨k + 1, by rw [n1.out, if_neg (fun e => h3 e.2)]; first | rfl | simp, by rw [n2.out, if_pos h1]; first | rfl | simp, by first | rfl | simp, by omega, by omega, HO⟩
                    · have h2I : ¬ (v : Int) ≤ (lowN bs x : Int) := by omega
                      go_wp2
                      go_roundg k2
                      case measure => omega
                      case rel => exact ⟨k + 1, by rw [n1.out, if_neg (fun e => h2 e.1)]; first | rfl | simp, by rw [n2.out, if_pos h1]; first | rfl | simp, by first | rfl | simp, by omega, by omega, HO⟩
                  · have h1I : ¬ (v : Int) ≤ (highN bs x : Int) := by omega
                    by_cases h2 : v ≤ lowN bs x
                    · have h2I : (v : Int) ≤ (lowN bs x : Int) := by omega
                      by_cases h3 : 0 < x
                      · have h3I : (0 : Int) < (x : Int) := by omega
                        go_wp2
                        go_roundg k2
                        case measure => omega
                        case rel => exact ⟨k + 1, by rw [n1.out, if_pos ⟨h2, h3⟩]; first | rfl | simp, by rw [n2.out, if_neg h1]; first | rfl | simp, by first | rfl | simp, by omega, by omega, HO⟩
                      · have h3I : ¬ (0 : Int) < (x : Int) := by omega
                        go_wp2
                        go_roundg k2
                        case measure => omega
                        case rel => exact ⟨k + 1, by rw [n1.out, if_neg (fun e => h3 e.2)]; first | rfl | simp, by rw [n2.out, if_neg h1]; first | rfl | simp, by first | rfl | simp, by omega, by omega, HO⟩
                    · have h2I : ¬ (v : Int) ≤ (lowN bs x : Int) := by omega
                      go_wp2
                      go_roundg k2
                      case measure => omega
                      case rel => exact ⟨k + 1, by rw [n1.out, if_neg (fun e => h2 e.1)]; first | rfl | simp, by rw [n2.out, if_neg h1]; first | rfl | simp, by first | rfl | simp, by omega, by omega, HO⟩
                · have hknI : ¬ (k : Int) < (m1 : Int) := by omega
                  have u1 : n ≤ cI l (fun v => decide (v ≤ highN bs x)) k := by rw [cI_all l _ k (by rw [← hm1.out]; omega), hneq.out]; exact hup.out
                  have u2 : cI l (fun v => decide (v ≤ lowN bs x ∧ 0 < x)) k < n := by rw [cI_all l _ k (by rw [← hm1.out]; omega), hneq.out]; exact hbe.out
                  generalize cI l (fun v => decide (v ≤ lowN bs x ∧ 0 < x)) k = lo at hcl u2 ⊢
                  generalize cI l (fun v => decide (v ≤ highN bs x)) k = hi_ at hch u1 ⊢
                  have u1I : (n : Int) ≤ (hi_ : Int) := by omega
                  have u2I : (lo : Int) < (n : Int) := by omega
                  go_wp2
                  go_ret
                  exact ⟨by first | rfl | simp, below_of HO.out⟩
    · have hPQI : (Q : Int) < (P : Int) := by omega
      have hPQJ : ¬ (P : Int) < (Q : Int) := by omega
      have hab : Q ≤ P ∧ P ≤ 1000 := by omega
      obtain ⟨x, hx, hxn, hx1, hx2⟩ := where_is bs l hok.out.1 (by rw [← hm1.out]; omega) (by rw [← hm1.out]; omega) Q (by omega)
      obtain ⟨y, hy, hyn, hy1, hy2⟩ := where_is bs l hok.out.1 (by rw [← hm1.out]; omega) (by rw [← hm1.out]; omega) P hab.2
      have hxy := where_mono bs l Q P x y hab.1 hx1 hy2
      have hbn := Aside0.mk (bnds_nat bs hok.out x hxn)
      have hrk1 := Aside0.mk (rank_le l.length Q (by rw [← hm1.out]; omega) (by omega))
      have hup := Aside0.mk (Nat.le_trans hx2 (up_enough bs l hok.out hw.out x hxn))
      have hbe := Aside0.mk (Nat.lt_of_le_of_lt (below_few bs l hok.out x hxn) hx1)
      replace hx := Aside0.mk hx
      replace hy := Aside0.mk hy
      clear hx1 hx2 hy1 hy2
      have hxyI : ¬ (y : Int) < (x : Int) := by omega
      clear hxn hyn hxy hab
      go_enter Try.func10, Try.ntmps10
      go_wp2_with (first
        | (go_at_call 21; with_reducible refine (alive_walk _).mono ?_; rintro r w0 ⟨rfl, ho0⟩; replace ho0 := Aside0.mk ho0)
        | (go_at_call 31; with_reducible refine (new_h (bs := bs) A0 n0 c0 (Kd.C_below hC0.out (below_of ho0.out)) hn0.out hc0.out hok.out).mono ?_; rintro r w1 ⟨N, rfl, H1, ho⟩; have HA := Aside0.mk (Hw.mk H1 (ho0.out.trans ho) ho0.out.size); clear ho H1))
      go_loopg [11] (m1 + 1) (fun kq v11 wr => ∃ i : Nat, v11 = .int .i64 (i : Int) ∧ i ≤ m1 ∧ m1 - i < kq ∧ Aside0 (Hw w wr _ _ N bs (l.take i)))
      case atStart => exact ⟨0, rfl, by omega, by omega, ⟨by simpa using HA.out⟩⟩
      case round =>
        clear HA
        obtain ⟨i, rfl, hi, hk, HA⟩ := hrel
        obtain ⟨k1, rfl⟩ : ∃ m, gk = m + 1 := ⟨gk - 1, by omega⟩
        by_cases him : i < m1
        · have himI : (i : Int) < (m1 : Int) := by omega
          have hi0 : (0 : Int) ≤ (i : Int) := by omega
          have hil : i < l.length := by rw [← hm1.out]; exact him
          obtain ⟨ad, rfl, hxx⟩ := num_at (Kd.C_below hC1.out (below_of HA.out.o)) i hil
          have hlen := Aside0.mk (show (l.take i).length < 1000 by rw [List.length_take]; omega)
          have e1 := Aside0.mk (show l.take i ++ [l.getD i 0] = l.take (i + 1) by rw [List.take_succ_eq_append_getElem hil, getD_at l i hil])
          generalize l.getD i 0 = v at hxx e1
          go_wp2_with (go_at_call 32; with_reducible refine (HA.out.put v hlen.out).mono ?_; rintro r w6 ⟨rfl, H⟩; rw [e1.out] at H; have HP := Aside0.mk H; clear H HA hxx)
          go_roundg k1
          case measure => omega
          case rel => exact ⟨i + 1, by first | rfl | simp, by omega, by omega, HP⟩
        · have himI : ¬ (i : Int) < (m1 : Int) := by omega
          have hieq : i = m1 := by omega
          have hil : l.take i = l := List.take_of_length_le (by rw [← hm1.out]; omega)
          rw [hil] at HA
          clear hil
          go_wp2_with (first
            | (go_at_call 33; with_reducible refine (buckets_h HA.out.h).mono ?_; rintro r w8 ⟨A8, q8, rfl, hR, ho⟩; have hC8 := C_rows hR; rw [← hn0.out] at hC8 ⊢; replace hC8 := Aside0.mk hC8; have HO := Aside0.mk (HA.out.o.trans ho); clear ho hR HA)
            | (go_at_call 29; (with_reducible refine (of_walk _ A0 n0 c0 bs A8 (n0 + 1) q8 (cnts bs l) (Q : Int) (Kd.C_below hC0.out (below_of (HO.out.alloc _))) hn0.out hc0.out hok.out (Kd.C_alloc hC8.out.1 _) (by rw [cnts_length, hn0.out]) hC8.out.2 rfl x hx.out _ _ true hbn.out).mono ?_); rintro r w9 ⟨rfl, ho⟩; have c8 := (((Row.new w8 [.slice none 0 0, .bool false, .int .u64 0, .bool false, .int .u64 0, .bool false, .int .u64 0, .bool false, .slice A8 (n0 + 1) q8, .slice none 0 0] 46).only ho id) 8 _ rfl).1; have hrow := Aside0.mk ((Row.new w8 [.slice none 0 0, .bool false, .int .u64 0, .bool false, .int .u64 0, .bool false, .int .u64 0, .bool false, .slice A8 (n0 + 1) q8, .slice none 0 0] 46).only ho id); replace hC8 := Aside0.mk (And.intro (Kd.C_below (Kd.C_alloc hC8.out.1 (.cells #[.slice none 0 0, .bool false, .int .u64 0, .bool false, .int .u64 0, .bool false, .int .u64 0, .bool false, .slice A8 (n0 + 1) q8, .slice none 0 0] 46)) (below_of ho)) hC8.out.2); replace HO := Aside0.mk ((HO.out.alloc _).trans ho); clear ho)
            | (go_at_call 22; first
               | ((with_reducible refine (bucket_walk _ A8 (n0 + 1) q8 (cnts bs l) (Q : Int) hC8.out.1 (by rw [cnts_length, hn0.out]) hC8.out.2 (by omega) x 0 hx.out).mono ?_); rintro r w10 ⟨rfl, ho⟩; clear c8; replace hrow := Aside0.mk (hrow.out.only ho id); have c8 := (hrow.out 8 _ rfl).1; replace hC8 := Aside0.mk (And.intro (Kd.C_below hC8.out.1 (below_of ho)) hC8.out.2); replace HO := Aside0.mk (HO.out.trans ho); clear ho)
               | ((with_reducible refine (bucket_walk _ A8 (n0 + 1) q8 (cnts bs l) (P : Int) hC8.out.1 (by rw [cnts_length, hn0.out]) hC8.out.2 (by omega) y 0 hy.out).mono ?_); rintro r w11 ⟨rfl, ho⟩; clear c8; replace hrow := Aside0.mk (hrow.out.only ho id); have c8 := (hrow.out 8 _ rfl).1; replace hC8 := Aside0.mk (And.intro (Kd.C_below hC8.out.1 (below_of ho)) hC8.out.2); replace HO := Aside0.mk (HO.out.trans ho); clear ho)))
          obtain ⟨T, hT, hT2⟩ : ∃ T : Nat, (Q : Int) * (m1 : Int) = (T : Int) ∧ T ≤ 60000 := ⟨Q * m1, rfl, Nat.le_trans (Nat.mul_le_mul (show Q ≤ 1000 by omega) (show m1 ≤ 60 by omega)) (by omega)⟩
          obtain ⟨rk, hrk⟩ : ∃ rk, rank l.length Q = rk := ⟨_, rfl⟩
          have hrkT : rk = max ((T + 999) / 1000) 1 := by
            rw [← hrk, ← hm1.out]
            unfold rank
            rw [show m1 * Q = T by rw [Nat.mul_comm]; have h2 : ((Q * m1 : Nat) : Int) = (T : Int) := hT; omega]
          rw [hrk] at hrk1 hup hbe
          replace hrk := Aside0.mk hrk
          have hrk0 := hrk1.out.1
          have hrk60 : rk ≤ m1 := by rw [hm1.out]; exact hrk1.out.2
          clear c8
          go_loopg [22] (rk + 1) (fun kq v22 wr => ∃ n : Nat, v22 = .int .i64 (n : Int) ∧ 1 ≤ n ∧ n ≤ rk ∧ rk - n < kq ∧ Aside0 (Only (fun _ => False) w wr))
          case atStart => exact ⟨1, rfl, by omega, by omega, by omega, HO⟩
          case round =>
            clear HO
            obtain ⟨n, rfl, hn1, hn2, hk2, HO⟩ := hrel
            obtain ⟨k1, rfl⟩ : ∃ m, gk = m + 1 := ⟨gk - 1, by omega⟩
            by_cases hn : n < rk
            · have hnI : (n : Int) * 1000 < (T : Int) := by omega
              go_wp2
              go_roundg k1
              case measure => omega
              case rel => exact ⟨n + 1, by first | rfl | simp, by omega, by omega, by omega, HO⟩
            · have hnI : ¬ (n : Int) * 1000 < (T : Int) := by omega
              have hneq : n = rk := by omega
              replace hneq := Aside0.mk hneq
              go_wp2
              clear hnI hrkT hT hT2
              go_loopg [23, 24, 25] (m1 + 1) (fun kq v23 v24 v25 wr => ∃ k : Nat, v23 = .int .i64 ((cI l (fun v => decide (v ≤ lowN bs x ∧ 0 < x)) k : Nat) : Int) ∧ v24 = .int .i64 ((cI l (fun v => decide (v ≤ highN bs x)) k : Nat) : Int) ∧ v25 = .int .i64 (k : Int) ∧ k ≤ m1 ∧ m1 - k < kq ∧ Aside0 (Only (fun _ => False) w wr))
              case atStart => exact ⟨0, by simp [cI], by simp [cI], rfl, by omega, by omega, HO⟩
              case round =>
                clear HO
                obtain ⟨k, rfl, rfl, rfl, hkm, hk3, HO⟩ := hrel
                obtain ⟨k2, rfl⟩ : ∃ m, gk = m + 1 := ⟨gk - 1, by omega⟩
                have hcl := cI_le l (fun v => decide (v ≤ lowN bs x ∧ 0 < x)) k
                have hch := cI_le l (fun v => decide (v ≤ highN bs x)) k
                by_cases hkn : k < m1
                · have hknI : (k : Int) < (m1 : Int) := by omega
                  have hk0 : (0 : Int) ≤ (k : Int) := by omega
                  have hkl : k < l.length := by rw [← hm1.out]; exact hkn
                  obtain ⟨ad, rfl, hxx⟩ := num_at (Kd.C_below hC1.out (below_of HO.out)) k hkl
                  have n1 := cI_next l (fun v => decide (v ≤ lowN bs x ∧ 0 < x)) k hkl
                  have n2 := cI_next l (fun v => decide (v ≤ highN bs x)) k hkl
                  simp only [decide_eq_true_eq] at n1 n2
                  replace n1 := Aside0.mk n1
                  replace n2 := Aside0.mk n2
                  generalize cI l (fun v => decide (v ≤ lowN bs x ∧ 0 < x)) k = lo at hcl n1
                  generalize cI l (fun v => decide (v ≤ highN bs x)) k = hi_ at hch n2
                  generalize l.getD k 0 = v at hxx n1 n2
                  by_cases h1 : v ≤ highN bs x
                  · have h1I : (v : Int) ≤ (highN bs x : Int) := by omega
                    by_cases h2 : v ≤ lowN bs x
                    · have h2I : (v : Int) ≤ (lowN bs x : Int) := by omega
                      by_cases h3 : 0 < x
                      · have h3I : (0 : Int) < (x : Int) := by omega
                        go_wp2
                        go_roundg k2
                        case measure => omega
                        case rel => exact ⟨k + 1, by rw [n1.out, if_pos ⟨h2, h3⟩]; first | rfl | simp, by rw [n2.out, if_pos h1]; first | rfl | simp, by first | rfl | simp, by omega, by omega, HO⟩
                      · have h3I : ¬ (0 : Int) < (x : Int) := by omega
                        go_wp2
                        go_roundg k2
                        case measure => omega
                        case rel => exact ⟨k + 1, by rw [n1.out, if_neg (fun e => h3 e.2)]; first | rfl | simp, by rw [n2.out, if_pos h1]; first | rfl | simp, by first | rfl | simp, by omega, by omega, HO⟩
                    · have h2I : ¬ (v : Int) ≤ (lowN bs x : Int) := by omega
                      go_wp2
                      go_roundg k2
                      case measure => omega
                      case rel => exact ⟨k + 1, by rw [n1.out, if_neg (fun e => h2 e.1)]; first | rfl | simp, by rw [n2.out, if_pos h1]; first | rfl | simp, by first | rfl | simp, by omega, by omega, HO⟩
                  · have h1I : ¬ (v : Int) ≤ (highN bs x : Int) := by omega
                    by_cases h2 : v ≤ lowN bs x
                    · have h2I : (v : Int) ≤ (lowN bs x : Int) := by omega
                      by_cases h3 : 0 < x
                      · have h3I : (0 : Int) < (x : Int) := by omega
                        go_wp2
                        go_roundg k2
                        case measure => omega
                        case rel => exact ⟨k + 1, by rw [n1.out, if_pos ⟨h2, h3⟩]; first | rfl | simp, by rw [n2.out, if_neg h1]; first | rfl | simp, by first | rfl | simp, by omega, by omega, HO⟩
                      · have h3I : ¬ (0 : Int) < (x : Int) := by omega
                        go_wp2
                        go_roundg k2
                        case measure => omega
                        case rel => exact ⟨k + 1, by rw [n1.out, if_neg (fun e => h3 e.2)]; first | rfl | simp, by rw [n2.out, if_neg h1]; first | rfl | simp, by first | rfl | simp, by omega, by omega, HO⟩
                    · have h2I : ¬ (v : Int) ≤ (lowN bs x : Int) := by omega
                      go_wp2
                      go_roundg k2
                      case measure => omega
                      case rel => exact ⟨k + 1, by rw [n1.out, if_neg (fun e => h2 e.1)]; first | rfl | simp, by rw [n2.out, if_neg h1]; first | rfl | simp, by first | rfl | simp, by omega, by omega, HO⟩
                · have hknI : ¬ (k : Int) < (m1 : Int) := by omega
                  have u1 : n ≤ cI l (fun v => decide (v ≤ highN bs x)) k := by rw [cI_all l _ k (by rw [← hm1.out]; omega), hneq.out]; exact hup.out
                  have u2 : cI l (fun v => decide (v ≤ lowN bs x ∧ 0 < x)) k < n := by rw [cI_all l _ k (by rw [← hm1.out]; omega), hneq.out]; exact hbe.out
                  generalize cI l (fun v => decide (v ≤ lowN bs x ∧ 0 < x)) k = lo at hcl u2 ⊢
                  generalize cI l (fun v => decide (v ≤ highN bs x)) k = hi_ at hch u1 ⊢
                  have u1I : (n : Int) ≤ (hi_ : Int) := by omega
                  have u2I : (lo : Int) < (n : Int) := by omega
                  go_wp2
                  go_ret
                  exact ⟨by first | rfl | simp, below_of HO.out⟩
  · replace hok := Aside0.mk hok
    go_enter Try.func10, Try.ntmps10
    go_wp2_with (first
      | (go_at_call 21; with_reducible refine (alive_walk _).mono ?_; rintro r w0 ⟨rfl, ho0⟩; replace ho0 := Aside0.mk ho0)
      | (go_at_call 31; with_reducible refine (new_bad (bs := bs) A0 n0 c0 (Kd.C_below hC0.out (below_of ho0.out)) hn0.out hc0.out hl0.out hok.out).mono ?_; rintro r w1 ⟨rfl, ho⟩; replace ho0 := Aside0.mk (ho0.out.trans ho); clear ho))
    go_ret
    exact ⟨by first | rfl | simp, below_of ho0.out⟩
end Go.Proofs.Ytdcbhakclhbdpaa.Qw
