/- The walk of strtab.Read. No conditions but bounds. -/
import Derived.Test.YtfgpcoocbblkiaaSr
namespace Go.Proofs.Ytfgpcoocbblkiaa.St
open Go.RowKit Go.Maps Go.ChangeMaps Go.MapKept Go.Proofs.YtfgpcoocbblkiaaW.PrintWords Go.Proofs.YtfgpcoocbblkiaaW.PrintLast
open Go.Proofs.Ytfgpcoocbblkiaa.Ob Go.Proofs.Ytfgpcoocbblkiaa.XSv Go.Proofs.Ytfgpcoocbblkiaa.Var
set_option linter.unusedSimpArgs false
set_option linter.unusedVariables false

theorem get_walk (w : World) (A : Option Addr) (m c : Nat) (l : List Nat) (hC : Kd.C (Kd.int .u8) w A m (ofN l)) (hm : m = (ofN l).length) (hc : m ≤ c) (hw : ∀ n ∈ l, n ≤ 255) (hl : l.length ≤ 20000) (n p e : Nat) (h : vget l = (n, p, e)) :
    Calls Try.prog 46 #[.slice A m c] w fun r w' => r = .returned (.tuple #[.int .u64 (n : Int), .int .i64 (p : Int), .int .i64 (e : Int)]) ∧ ∃ nd, w' = w.drewN nd := by
  subst hm
  have e1 : varint_Get.f (2 * l.length + 2) (ofN l) = some ((n : Int), (p : Int), (e : Int)) := by rw [get l hw (by omega) _ (by omega), h]; try rfl
  refine (varint_Get.calls (2 * l.length + 2) A c (ofN l) _ _ _ w hC hc e1).mono ?_
  rintro r w' ⟨h1, nd, h2⟩
  exact ⟨h1, nd, h2⟩
theorem one_walk (w : World) (A : Option Addr) (m c : Nat) (l : List Nat) (hC : Kd.C (Kd.int .u8) w A m (ofN l)) (hm : m = (ofN l).length) (hc : m ≤ c) (hw : ∀ n ∈ l, n ≤ 255) (hl : l.length ≤ 20000) (s : ByteArray) (q e : Nat) (h : oneN l = (s, q, e)) :
    Calls Try.prog 47 #[.slice A m c] w fun r w' => r = .returned (.tuple #[.string s, .int .i64 (q : Int), .int .i64 (e : Int)]) ∧ ∃ nd, w' = w.drewN nd := by
  subst hm
  have e1 : strtab_one.f (2 * l.length + 2) (ofN l) = some (s, (q : Int), (e : Int)) := by rw [one_f l hw (by omega) _ (by omega), h]; try rfl
  refine (strtab_one.calls (2 * l.length + 2) A c (ofN l) _ _ _ w hC hc e1).mono ?_
  rintro r w' ⟨h1, nd, h2⟩
  exact ⟨h1, nd, h2⟩
theorem IsT.lower {w : World} {base base' N B : Nat} {b : Option Nat} {L : List ByteArray} (h : IsT w base N B b L) (hb : base' ≤ base) : IsT w base' N B b L := by
  obtain ⟨v, hr, he, e⟩ := h.ev
  exact ⟨h.ne, ⟨v, hr, Kd.R_lower he hb, e⟩, h.own, Nat.le_trans hb h.wn, Nat.le_trans hb h.wb, h.few⟩
theorem cut_bytes (w : World) (A : Option Addr) (c : Nat) (l : List Nat) (p : Nat) (hC : Kd.C (Kd.int .u8) w A (ofN l).length (ofN l)) (hc : (ofN l).length ≤ c) (hp : p ≤ l.length) :
    ∃ A', (∀ W : World, (Instr.slice 32 (.slice A (ofN l).length c) (some (.int .i64 (p : Int))) none none).run Try.prog W = .ok (.slice A' ((ofN l).length - p) (c - p)) W) ∧ Kd.C (Kd.int .u8) w A' ((ofN l).length - p) (ofN (l.drop p)) ∧ (ofN l).length - p ≤ c - p ∧ (ofN l).length - p = (ofN (l.drop p)).length := by
  obtain ⟨i0, hi0, _, hsz, _⟩ := info_parts info5
  obtain ⟨A', h1, h2, h3⟩ := print_drop_of (P := Try.prog) (Value.int .u8) 0 32 5 .i64 Try.underlying32 hi0 hsz A c (ofN l) (p : Int) (by omega) (by rw [ofN_length]; omega) hc
  simp only [Int.toNat_natCast, List.length_drop] at h1 h2 h3
  refine ⟨A', h1, ?_, h3, by rw [ofN_length, ofN_length, List.length_drop]⟩
  have h4 := h2 _ (Kd.reads_of_C hC)
  rw [ofN_drop] at h4
  have h5 : (ofN l).length - p = (ofN (l.drop p)).length := by rw [ofN_length, ofN_length, List.length_drop]
  rw [h5] at h4 ⊢
  exact Kd.C_of_reads (h1 := fun _ => rfl) h4
/-- What Read answers. -/
def Red (w w' : World) (r : Ending) (x : List ByteArray × Nat × Nat) : Prop :=
  (x.2.2 = 0 ∧ ∃ N B b, r = .returned (.tuple #[.pointer (some ⟨N, 0, none⟩), .int .i64 (x.2.1 : Int), .int .i64 0]) ∧ Ts w w' N B b x.1) ∨ (x.2.2 ≠ 0 ∧ r = .returned (.tuple #[.pointer none, .int .i64 0, .int .i64 (x.2.2 : Int)]) ∧ Only (fun _ => False) w w')
set_option maxHeartbeats 8000000 in
set_option maxRecDepth 1000000 in
theorem read_walk (w : World) (A : Option Addr) (c : Nat) (l : List Nat) (hC : Kd.C (Kd.int .u8) w A (ofN l).length (ofN l)) (hc : (ofN l).length ≤ c) (hw : ∀ n ∈ l, n ≤ 255) (hl : l.length ≤ 20000) :
    Calls Try.prog 22 #[.slice A (ofN l).length c] w fun r w' => Red w w' r (readN l) := by
  obtain ⟨x, hx⟩ : ∃ x, readN l = x := ⟨_, rfl⟩
  rw [hx]
  replace hC := Aside0.mk hC
  have hW := Aside0.mk hw
  have hLl := Aside0.mk hl
  have hcc := Aside0.mk hc
  clear hw hc
  have hu := vget_used l
  obtain ⟨n, p, e, hg⟩ : ∃ n p e, vget l = (n, p, e) := ⟨_, _, _, rfl⟩
  rw [hg] at hu
  have hr : x = if e ≠ 0 then ([], 0, e) else if 4096 < n then ([], 0, 11) else goN l n p [] := by rw [← hx]; unfold readN; rw [hg]
  clear hx
  replace hg := Aside0.mk hg
  replace hr := Aside0.mk hr
  by_cases he : e = 0
  · subst he
    have hp : p ≤ l.length := hu rfl
    clear hu
    by_cases hn : 4096 < n
    · have hnI : (4096 : Int) < (n : Int) := by omega
      go_enter Try.func22, Try.ntmps22
      go_wp2_with (go_at_call 46; with_reducible refine (get_walk _ A _ _ l hC.out rfl hcc.out hW.out hLl.out n p 0 hg.out).mono ?_; rintro r w1 ⟨rfl, nd, rfl⟩)
      go_ret3
      rw [hr.out]
      exact .inr ⟨by simp [hn], by simp [hn], (Only.refl _ w).drewN _⟩
    · have hnI : ¬ (4096 : Int) < (n : Int) := by omega
      have hr2 := Aside0.mk (show x = goN l n p [] by rw [hr.out]; simp [hn])
      have hwnA := Aside0.mk (show wrap64 (n : Int) = (n : Int) from wone (by omega))
      have hwn := hwnA.out
      go_enter Try.func22, Try.ntmps22
      go_wp2_with (first
        | (go_at_call 46; with_reducible refine (get_walk _ A _ _ l hC.out rfl hcc.out hW.out hLl.out n p 0 hg.out).mono ?_; rintro r w1 ⟨rfl, nd, rfl⟩)
        | (go_at_call 13; with_reducible refine (ts_new0 ((Only.refl _ w).drewN nd)).mono ?_; rintro r w2 ⟨N, B, rfl, H, _, _, _⟩; replace H := Aside0.mk H))
      go_loopg [6, 29] (n + 1) (fun kq v6 v29 wr => ∃ (i q : Nat) (b : Option Nat) (L : List ByteArray), v6 = .int .i64 (q : Int) ∧ v29 = .int .i64 (i : Int) ∧ i ≤ n ∧ n - i < kq ∧ q ≤ l.length ∧ L.length = i ∧ Aside0 (x = goN l (n - i) q L) ∧ Aside0 (Ts w wr N B b L))
      case atStart => clear hwn; exact ⟨0, p, _, [], rfl, rfl, by omega, by omega, hp, rfl, hr2, H⟩
      case round =>
        clear H hwn
        obtain ⟨i, q, b, L, rfl, rfl, hi, hk, hq, hL, HR, H⟩ := hrel
        obtain ⟨k1, rfl⟩ : ∃ z, gk = z + 1 := ⟨gk - 1, by omega⟩
        by_cases hin : i < n
        · have hinI : (i : Int) < (n : Int) := by omega
          obtain ⟨d, hd⟩ : ∃ d, n - i = d + 1 := ⟨n - i - 1, by omega⟩
          obtain ⟨A', hcut, hCc, hcc', hml⟩ := cut_bytes w A c l q hC.out hcc.out hq
          replace hCc := Aside0.mk hCc
          have hcc' := Aside0.mk hcc'
          replace hml := Aside0.mk hml
          obtain ⟨s, u, f, ho⟩ : ∃ s u f, oneN (l.drop q) = (s, u, f) := ⟨_, _, _, rfl⟩
          have hused := one_used (l.drop q)
          rw [ho] at hused
          have hw' := Aside0.mk (show ∀ n ∈ l.drop q, n ≤ 255 from fun n hn => hW.out n (List.mem_of_mem_drop hn))
          have hl' := Aside0.mk (show (l.drop q).length ≤ 20000 by rw [List.length_drop]; omega)
          replace ho := Aside0.mk ho
          have hone := Aside0.mk (fun (W : World) (hb : Only (fun _ => False) w W) => (one_walk W A' ((ofN l).length - q) (c - q) (l.drop q) (Kd.C_below hCc.out (below_of hb)) hml.out hcc'.out hw'.out hl'.out s u f ho.out : Calls Try.prog 47 #[.slice A' ((ofN l).length - q) (c - q)] W fun r w' => r = .returned (.tuple #[.string s, .int .i64 (u : Int), .int .i64 (f : Int)]) ∧ ∃ nd, w' = W.drewN nd))
          by_cases hf : f = 0
          · subst hf
            obtain ⟨hu1, hs⟩ := hused rfl
            have hu2 : u ≤ (l.drop q).length := hu1
            rw [List.length_drop] at hu2
            have hs : s.size ≤ 4096 := hs
            clear hu1
            cases hid : idx L s with
            | some j =>
              have hji := (idx_lt hid).1
              have hjI : ¬ (j : Int) = (i : Int) := by omega
              have hdup := Aside0.mk (go_dup ho.out d L j hid)
              replace hid := Aside0.mk hid
              have hwn := hwnA.out
              go_wp2_with (first
                | (go_at_call 47; with_reducible refine (hone.out _ H.out.o).mono ?_; rintro r w3 ⟨rfl, nd3, rfl⟩; have H3 := Aside0.mk (H.out.keep ((Only.refl _ _).drewN nd3)))
                | (go_at_call 14; with_reducible refine (ts_old H3.out s hs j hid.out).mono ?_; rintro r w4 ⟨rfl, rfl⟩))
              go_ret3
              rw [HR.out, hd, hdup.out]
              exact .inr ⟨by simp, by simp, H3.out.o⟩
            | none =>
              have hnew := Aside0.mk (go_new ho.out d L hid)
              have hfew := Aside0.mk (show L.length < 4096 by omega)
              have hme := Aside0.mk (show n - (i + 1) < k1 by omega)
              have hin1 := Aside0.mk (show i + 1 ≤ n by omega)
              have hqu := Aside0.mk (show q + u ≤ l.length by omega)
              have hdd := Aside0.mk (show n - (i + 1) = d by omega)
              replace hid := Aside0.mk hid
              have hLi := Aside0.mk hL
              go_wp2_with (first
                | (go_at_call 47; with_reducible refine (hone.out _ H.out.o).mono ?_; rintro r w3 ⟨rfl, nd3, rfl⟩; have H3 := Aside0.mk (H.out.keep ((Only.refl _ _).drewN nd3)))
                | (go_at_call 14; with_reducible refine (ts_put H3.out s hs hid.out hfew.out i hLi.out).mono ?_; rintro r w4 ⟨rfl, b4, H4, _, _⟩; replace H4 := Aside0.mk H4))
              go_roundg k1
              case measure => clear hused; have := hme.out; omega
              case rel => exact ⟨i + 1, q + u, b4, L ++ [s], by first | rfl | simp, by first | rfl | simp, hin1.out, hme.out, hqu.out, by simp [hLi.out], ⟨by rw [HR.out, hd, hnew.out, hdd.out]⟩, H4⟩
          · have hfI : ¬ (f : Int) = 0 := by omega
            have hbad := Aside0.mk (go_bad ho.out hf d L)
            have hwn := hwnA.out
            go_wp2_with (go_at_call 47; with_reducible refine (hone.out _ H.out.o).mono ?_; rintro r w3 ⟨rfl, nd3, rfl⟩; have H3 := Aside0.mk (H.out.keep ((Only.refl _ _).drewN nd3)))
            go_ret3
            rw [HR.out, hd, hbad.out]
            exact .inr ⟨hf, rfl, H3.out.o⟩
        · have hinI : ¬ (i : Int) < (n : Int) := by omega
          have hz : n - i = 0 := by omega
          have hwn := hwnA.out
          go_wp2
          go_ret3
          rw [HR.out, hz]
          exact .inl ⟨rfl, N, B, b, rfl, H.out⟩
  · have heI : ¬ (e : Int) = 0 := by omega
    go_enter Try.func22, Try.ntmps22
    go_wp2_with (go_at_call 46; with_reducible refine (get_walk _ A _ _ l hC.out rfl hcc.out hW.out hLl.out n p e hg.out).mono ?_; rintro r w1 ⟨rfl, nd, rfl⟩)
    go_ret3
    rw [hr.out]
    exact .inr ⟨by simp [he], by simp [he], (Only.refl _ w).drewN _⟩
end Go.Proofs.Ytfgpcoocbblkiaa.St
